

import Derived.Test.YtoilnldjfncniaaGreatC1
namespace Go.Sh
set_option linter.unusedSectionVars false
set_option linter.unnecessarySimpa false
set_option linter.unusedVariables false
set_option linter.unusedSimpArgs false
set_option maxRecDepth 100000
set_option maxHeartbeats 4000000
theorem s5 (H : Heap) : call1 T 40 (.fn 5) [] H = some (.bool true, H) := pure_any e5 (by rfl) (callB_up (T := T) 100 40 (.fn 5) [] heap0 (.bool true, heap0) (by kernel_rfl))
end Go.Sh
namespace Go.Sh
set_option linter.unusedSectionVars false
set_option linter.unnecessarySimpa false
set_option linter.unusedVariables false
set_option linter.unusedSimpArgs false
set_option maxRecDepth 100000
set_option maxHeartbeats 4000000
namespace G
abbrev pt (a b : Int) : SV := .agg [.int .i64 a, .int .i64 b]
abbrev wl (a b c d f : Int) : SV := .agg [.int .i64 a, .int .i64 b, .int .i64 c, .int .i64 d, .int .i64 f]
theorem s106 (n : Nat) (H : Heap) (a b c d : Int) : call1 T (n + 1) (.fn 106) [pt a b, pt c d] H =
    some (.int .i64 (w64 (w64 (w64 (a - c) * w64 (a - c)) + w64 (w64 (b - d) * w64 (b - d)))), H) := by
  refine call_pure e106 (by rfl) ?_
  simp only [c106, heap0, go_sem, Nat.reduceAdd, Nat.reduceBEq]
theorem s95 (n : Nat) (H : Heap) (a b c d : Int) : call1 T (n + 1) (.fn 95) [pt a b, pt c d] H =
    some (.int .i64 (w64 (w64 (w64 (a - c) * w64 (a - c)) + w64 (w64 (b - d) * w64 (b - d)))), H) := by
  refine call_pure e95 (by rfl) ?_
  simp only [c95, heap0, go_sem, Nat.reduceAdd, Nat.reduceBEq]
theorem s116 (n : Nat) (H : Heap) (a : Int) : call1 T (n + 1) (.fn 116) [.int .i64 a] H = some (.bool false, H) := by
  refine call_pure e116 (by rfl) ?_
  simp only [c116, heap0, go_sem, Nat.reduceAdd, Nat.reduceBEq]
def cmpI (a b : Int) : Int := if a < b then -1 else if b < a then 1 else 0
theorem s115 (n : Nat) (H : Heap) (a b : Int) : call1 T (n + 2) (.fn 115) [.int .i64 a, .int .i64 b] H = some (.int .i64 (cmpI a b), H) := by
  refine call_pure e115 (by rfl) ?_
  simp only [c115, heap0, go_sem, Nat.reduceAdd, Nat.reduceBEq, s116]
  repeat' (with_reducible refine fork_split (fun _ => ?_) (fun _ => ?_) <;> simp only [*, go_sem, Nat.reduceAdd, Nat.reduceBEq])
  all_goals simp_all [cmpI]
  all_goals omega
def turnI (a b c d x y : Int) : Int := cmpI (w64 (w64 (c - a) * w64 (y - b))) (w64 (w64 (d - b) * w64 (x - a)))
theorem s113 (n : Nat) (H : Heap) (a b c d x y : Int) : call1 T (n + 3) (.fn 113) [pt a b, pt c d, pt x y] H = some (.int .i64 (turnI a b c d x y), H) := by
  refine call_pure e113 (by rfl) ?_
  simp only [c113, heap0, go_sem, Nat.reduceAdd, Nat.reduceBEq, s115]
  rfl
def turnR (a b c d x y : Int) : Int := if w64 (w64 (w64 (c - a) * w64 (y - b)) - w64 (w64 (d - b) * w64 (x - a))) > 0 then 1 else if w64 (w64 (w64 (c - a) * w64 (y - b)) - w64 (w64 (d - b) * w64 (x - a))) < 0 then -1 else 0
theorem s108 (n : Nat) (H : Heap) (a b c d x y : Int) : call1 T (n + 1) (.fn 108) [pt a b, pt c d, pt x y] H = some (.int .i64 (turnR a b c d x y), H) := by
  refine call_pure e108 (by rfl) ?_
  simp only [c108, heap0, go_sem, Nat.reduceAdd, Nat.reduceBEq]
  repeat' (with_reducible refine fork_split (fun _ => ?_) (fun _ => ?_) <;> simp only [*, go_sem, Nat.reduceAdd, Nat.reduceBEq])
  all_goals (simp only [decide_eq_true_eq, decide_eq_false_iff_not] at *; simp only [turnR]; congr 2; (repeat' split) <;> omega)
def withinI (p q a b c d : Int) : Bool := decide (min a c ≤ p) && decide (p ≤ max a c) && decide (min b d ≤ q) && decide (q ≤ max b d)
theorem s114 (n : Nat) (H : Heap) (p q a b c d : Int) : call1 T (n + 1) (.fn 114) [pt p q, pt a b, pt c d] H = some (.bool (withinI p q a b c d), H) := by
  refine call_pure e114 (by rfl) ?_
  simp only [c114, heap0, go_sem, Nat.reduceAdd, Nat.reduceBEq]
  repeat' (with_reducible refine fork_split (fun _ => ?_) (fun _ => ?_) <;> simp only [*, go_sem, Nat.reduceAdd, Nat.reduceBEq])
  all_goals (simp only [decide_eq_true_eq, decide_eq_false_iff_not] at *; simp only [withinI]; congr 2; rw [Bool.eq_iff_iff]; simp only [Bool.and_eq_true, Bool.or_eq_true, decide_eq_true_eq, Bool.false_eq_true, false_iff, true_iff]; omega)
theorem s109 (n : Nat) (H : Heap) (p q a b c d : Int) : call1 T (n + 1) (.fn 109) [pt a b, pt c d, pt p q] H = some (.bool (withinI p q a b c d), H) := by
  refine call_pure e109 (by rfl) ?_
  simp only [c109, heap0, go_sem, Nat.reduceAdd, Nat.reduceBEq]
  repeat' (with_reducible refine fork_split (fun _ => ?_) (fun _ => ?_) <;> simp only [*, go_sem, Nat.reduceAdd, Nat.reduceBEq])
  all_goals (simp only [decide_eq_true_eq, decide_eq_false_iff_not] at *; simp only [withinI]; congr 2; rw [Bool.eq_iff_iff]; simp only [Bool.and_eq_true, Bool.or_eq_true, decide_eq_true_eq, Bool.false_eq_true, false_iff, true_iff]; omega)
def onI (p q a b c d : Int) : Bool := (decide (p = a) && decide (q = b)) || (decide (p = c) && decide (q = d)) || (decide (turnI a b c d p q = 0) && withinI p q a b c d)
theorem s112 (n : Nat) (H : Heap) (p q a b c d : Int) : call1 T (n + 4) (.fn 112) [pt p q, pt a b, pt c d] H = some (.bool (onI p q a b c d), H) := by
  refine call_pure e112 (by rfl) ?_
  simp only [c112, heap0, go_sem, Nat.reduceAdd, Nat.reduceBEq, Nat.reduceLeDiff]
  repeat' (with_reducible refine fork_split (fun _ => ?_) (fun _ => ?_) <;> simp only [*, go_sem, Nat.reduceAdd, Nat.reduceBEq, Nat.reduceLeDiff, s113, s114])
  all_goals (simp only [onI]; grind)
def crossI (a b c d x y z t : Int) : Bool := onI x y a b c d || onI z t a b c d || onI a b x y z t || onI c d x y z t ||
  (decide (w64 (turnI a b c d x y * turnI a b c d z t) < 0) && decide (w64 (turnI x y z t a b * turnI x y z t c d) < 0))
theorem s111 (n : Nat) (H : Heap) (a b c d x y z t f : Int) : call1 T (n + 5) (.fn 111) [pt a b, pt c d, wl x y z t f] H = some (.bool (crossI a b c d x y z t), H) := by
  refine call_pure e111 (by rfl) ?_
  simp only [c111, heap0, go_sem, Nat.reduceAdd, Nat.reduceBEq, Nat.reduceLeDiff, s112, s113]
  repeat' (with_reducible refine fork_split (fun _ => ?_) (fun _ => ?_) <;> simp only [*, go_sem, Nat.reduceAdd, Nat.reduceBEq, Nat.reduceLeDiff, s112, s113])
  all_goals (simp only [crossI]; grind)
def crossR (a b c d x y z t : Int) : Bool := (decide (w64 (turnR a b c d x y * turnR a b c d z t) < 0) && decide (w64 (turnR x y z t a b * turnR x y z t c d) < 0)) ||
  (decide (turnR a b c d x y = 0) && withinI x y a b c d) || (decide (turnR a b c d z t = 0) && withinI z t a b c d) || (decide (turnR x y z t a b = 0) && withinI a b x y z t) || (decide (turnR x y z t c d = 0) && withinI c d x y z t)
theorem s96 (n : Nat) (H : Heap) (a b c d x y z t f : Int) : call1 T (n + 2) (.fn 96) [pt a b, pt c d, wl x y z t f] H = some (.bool (crossR a b c d x y z t), H) := by
  refine call_pure e96 (by rfl) ?_
  simp only [c96, heap0, go_sem, Nat.reduceAdd, Nat.reduceBEq, Nat.reduceLeDiff, s108, s109]
  repeat' (with_reducible refine fork_split (fun _ => ?_) (fun _ => ?_) <;> simp only [*, go_sem, Nat.reduceAdd, Nat.reduceBEq, Nat.reduceLeDiff, s108, s109])
  all_goals (simp only [crossR]; grind)
end G
end Go.Sh
namespace Go.Sh
set_option linter.unusedSectionVars false
set_option linter.unnecessarySimpa false
set_option linter.unusedVariables false
set_option linter.unusedSimpArgs false
set_option maxRecDepth 100000
set_option maxHeartbeats 4000000
namespace G
theorem s97 (n id : Nat) (H : Heap) (L : List (List SV)) (fl : Bool) (p : List SV → Bool) (hr : ∀ r ∈ L, r.length = 2) (hm : L.length ≤ maxLen)
    (hc : ∀ r ∈ L, ∀ H, call1 T n (.fn id) [.agg r] H = some (.bool (p r), H)) : call1 T (n + 1) (.fn 97) [.lst 2 L fl, .fn id []] H = some (.int .i64 (idx1 p L), H) := by
  refine call_pure e97 (by rfl) ?_
  simp only [c97, heap0, go_sem, Nat.reduceAdd, Nat.reduceBEq]
  refine loop_rule (fun i => ([(0, .lst 2 L fl), (1, .fn id []), (7, .int .i64 L.length), (8, .int .i64 i)], ⟨[], [], 0⟩)) (fun i => ∀ (j : Nat) r, j < i → L[j]? = some r → p r = false) L.length ?_ (fun j r h => by omega) ?_
  · simp only [go_sem, Nat.reduceAdd, Nat.reduceBEq, Nat.reduceLeDiff]
    rfl
  · intro i hi hP
    have hm : maxLen = maxLen := rfl
    rcases Nat.lt_or_ge i L.length with hlt | hge
    · obtain ⟨r, hr'⟩ : ∃ r, L[i]? = some r := ⟨L[i], List.getElem?_eq_getElem hlt⟩
      have hmem := List.mem_of_getElem? hr'
      have h1 := hr _ hmem
      have ht : List.take 2 r = r := List.take_of_length_le (by omega)
      have hw : w64 ((i : Int) + 1) = ((i + 1 : Nat) : Int) := by
        rw [w64_id] <;> simp [maxLen] at * <;> omega
      cases hp : p r with
      | true =>
        have hx := idx1_at hr' hp hP
        simp only [go_sem, Nat.reduceAdd, Nat.reduceBEq, Nat.reduceLeDiff, hlt, hr', hc r hmem, hw, h1, ht, hp, hx]
      | false =>
        simp only [go_sem, Nat.reduceAdd, Nat.reduceBEq, Nat.reduceLeDiff, hlt, hr', hc r hmem, hw, h1, ht, hp]
        refine ⟨trivial, trivial, fun j r' hj hr2 => ?_⟩
        rcases Nat.lt_or_ge j i with hlt2 | hge2
        · exact hP j r' hlt2 hr2
        · have : j = i := by omega
          subst this
          rw [hr'] at hr2
          cases hr2
          exact hp
    · have hlt : ¬ i < L.length := by omega
      have hx : idx1 p L = -1 := idx1_none (fun j a hj => hP j a (by have := (List.getElem?_eq_some_iff.1 hj).1; omega) hj)
      simp only [go_sem, Nat.reduceAdd, Nat.reduceBEq, Nat.reduceLeDiff, hlt, hx]
theorem s98 (n id : Nat) (H : Heap) (L : List (List SV)) (fl : Bool) (p : List SV → Bool) (hr : ∀ r ∈ L, ∃ x, r = [x]) (hm : L.length ≤ maxLen)
    (hc : ∀ r ∈ L, ∀ H, call1 T n (.fn id) [r.headD .undef] H = some (.bool (p r), H)) : call1 T (n + 1) (.fn 98) [.lst 1 L fl, .fn id []] H = some (.int .i64 (idx1 p L), H) := by
  refine call_pure e98 (by rfl) ?_
  simp only [c98, heap0, go_sem, Nat.reduceAdd, Nat.reduceBEq]
  refine loop_rule (fun i => ([(0, .lst 1 L fl), (1, .fn id []), (7, .int .i64 L.length), (8, .int .i64 i)], ⟨[], [], 0⟩)) (fun i => ∀ (j : Nat) r, j < i → L[j]? = some r → p r = false) L.length ?_ (fun j r h => by omega) ?_
  · simp only [go_sem, Nat.reduceAdd, Nat.reduceBEq, Nat.reduceLeDiff]
    rfl
  · intro i hi hP
    have hm : maxLen = maxLen := rfl
    rcases Nat.lt_or_ge i L.length with hlt | hge
    · obtain ⟨r, hr'⟩ : ∃ r, L[i]? = some r := ⟨L[i], List.getElem?_eq_getElem hlt⟩
      have hmem := List.mem_of_getElem? hr'
      have h1 := hr _ hmem
      obtain ⟨x, rfl⟩ := h1
      have hcr := hc _ hmem
      simp only [List.headD_cons] at hcr
      have hw : w64 ((i : Int) + 1) = ((i + 1 : Nat) : Int) := by
        rw [w64_id] <;> simp [maxLen] at * <;> omega
      cases hp : p [x] with
      | true =>
        have hx := idx1_at hr' hp hP
        simp only [go_sem, Nat.reduceAdd, Nat.reduceBEq, Nat.reduceLeDiff, hlt, hr', hcr, hw, hp, hx]
      | false =>
        simp only [go_sem, Nat.reduceAdd, Nat.reduceBEq, Nat.reduceLeDiff, hlt, hr', hcr, hw, hp]
        refine ⟨trivial, trivial, fun j r' hj hr2 => ?_⟩
        rcases Nat.lt_or_ge j i with hlt2 | hge2
        · exact hP j r' hlt2 hr2
        · have : j = i := by omega
          subst this
          rw [hr'] at hr2
          cases hr2
          exact hp
    · have hlt : ¬ i < L.length := by omega
      have hx : idx1 p L = -1 := idx1_none (fun j a hj => hP j a (by have := (List.getElem?_eq_some_iff.1 hj).1; omega) hj)
      simp only [go_sem, Nat.reduceAdd, Nat.reduceBEq, Nat.reduceLeDiff, hlt, hx]
theorem s99 (n id : Nat) (H : Heap) (L : List (List SV)) (fl : Bool) (p : List SV → Bool) (hr : ∀ r ∈ L, r.length = 5) (hm : L.length ≤ maxLen)
    (hc : ∀ r ∈ L, ∀ H, call1 T n (.fn id) [.agg r] H = some (.bool (p r), H)) : call1 T (n + 1) (.fn 99) [.lst 5 L fl, .fn id []] H = some (.int .i64 (idx1 p L), H) := by
  refine call_pure e99 (by rfl) ?_
  simp only [c99, heap0, go_sem, Nat.reduceAdd, Nat.reduceBEq]
  refine loop_rule (fun i => ([(0, .lst 5 L fl), (1, .fn id []), (7, .int .i64 L.length), (8, .int .i64 i)], ⟨[], [], 0⟩)) (fun i => ∀ (j : Nat) r, j < i → L[j]? = some r → p r = false) L.length ?_ (fun j r h => by omega) ?_
  · simp only [go_sem, Nat.reduceAdd, Nat.reduceBEq, Nat.reduceLeDiff]
    rfl
  · intro i hi hP
    have hm : maxLen = maxLen := rfl
    rcases Nat.lt_or_ge i L.length with hlt | hge
    · obtain ⟨r, hr'⟩ : ∃ r, L[i]? = some r := ⟨L[i], List.getElem?_eq_getElem hlt⟩
      have hmem := List.mem_of_getElem? hr'
      have h1 := hr _ hmem
      have ht : List.take 5 r = r := List.take_of_length_le (by omega)
      have hw : w64 ((i : Int) + 1) = ((i + 1 : Nat) : Int) := by
        rw [w64_id] <;> simp [maxLen] at * <;> omega
      cases hp : p r with
      | true =>
        have hx := idx1_at hr' hp hP
        simp only [go_sem, Nat.reduceAdd, Nat.reduceBEq, Nat.reduceLeDiff, hlt, hr', hc r hmem, hw, h1, ht, hp, hx]
      | false =>
        simp only [go_sem, Nat.reduceAdd, Nat.reduceBEq, Nat.reduceLeDiff, hlt, hr', hc r hmem, hw, h1, ht, hp]
        refine ⟨trivial, trivial, fun j r' hj hr2 => ?_⟩
        rcases Nat.lt_or_ge j i with hlt2 | hge2
        · exact hP j r' hlt2 hr2
        · have : j = i := by omega
          subst this
          rw [hr'] at hr2
          cases hr2
          exact hp
    · have hlt : ¬ i < L.length := by omega
      have hx : idx1 p L = -1 := idx1_none (fun j a hj => hP j a (by have := (List.getElem?_eq_some_iff.1 hj).1; omega) hj)
      simp only [go_sem, Nat.reduceAdd, Nat.reduceBEq, Nat.reduceLeDiff, hlt, hx]
def farI (a b : Int) : Bool := decide (a < -20000) || decide (a > 20000) || decide (b < -20000) || decide (b > 20000)
def far1 (r : List SV) : Bool := match r with | [.int _ a, .int _ b] => farI a b | _ => false
def ptsS (L : List (Int × Int)) : List (List SV) := L.map fun p => [.int .i64 p.1, .int .i64 p.2]
theorem ptsS_len {L : List (Int × Int)} : ∀ r ∈ ptsS L, r.length = 2 := by
  intro r hr; simp only [ptsS, List.mem_map] at hr; obtain ⟨p, _, rfl⟩ := hr; rfl
theorem ptsS_any {p : List SV → Bool} {q : Int × Int → Bool} (h : ∀ a b, p [.int .i64 a, .int .i64 b] = q (a, b)) (L : List (Int × Int)) : (ptsS L).any p = L.any q := by
  induction L with
  | nil => rfl
  | cons a l ih => simp only [ptsS, List.map_cons, List.any_cons, h] at *; rw [ih]
theorem s75 (n id : Nat) (H : Heap) (L : List (List SV)) (fl : Bool) (p : List SV → Bool) (hr : ∀ r ∈ L, r.length = 2) (hm : L.length ≤ maxLen)
    (hc : ∀ r ∈ L, ∀ H, call1 T n (.fn id) [.agg r] H = some (.bool (p r), H)) : call1 T (n + 2) (.fn 75) [.lst 2 L fl, .fn id []] H = some (.bool (L.any p), H) := by
  refine call_pure e75 (by rfl) ?_
  simp only [c75, heap0, go_sem, Nat.reduceAdd, Nat.reduceBEq, s97 n id _ L fl p hr hm hc, idx1_any]
theorem s76 (n id : Nat) (H : Heap) (L : List (List SV)) (fl : Bool) (p : List SV → Bool) (hr : ∀ r ∈ L, ∃ x, r = [x]) (hm : L.length ≤ maxLen)
    (hc : ∀ r ∈ L, ∀ H, call1 T n (.fn id) [r.headD .undef] H = some (.bool (p r), H)) : call1 T (n + 2) (.fn 76) [.lst 1 L fl, .fn id []] H = some (.bool (L.any p), H) := by
  refine call_pure e76 (by rfl) ?_
  simp only [c76, heap0, go_sem, Nat.reduceAdd, Nat.reduceBEq, s98 n id _ L fl p hr hm hc, idx1_any]
def Near (a : Int) : Prop := -20000 ≤ a ∧ a ≤ 20000
theorem far_iff {a b : Int} : farI a b = false ↔ Near a ∧ Near b := by
  unfold farI Near
  simp only [Bool.or_eq_false_iff, decide_eq_false_iff_not]
  omega
theorem wmul {u v : Int} (hu : u.natAbs ≤ 40000) (hv : v.natAbs ≤ 40000) : (u * v).natAbs ≤ 1600000000 := by
  rw [Int.natAbs_mul]; exact Nat.mul_le_mul hu hv
theorem turn_eq {a b c d x y : Int} (ha : Near a) (hb : Near b) (hc : Near c) (hd : Near d) (hx : Near x) (hy : Near y) : turnR a b c d x y = turnI a b c d x y := by
  unfold Near at *
  have e1 : w64 (c - a) = c - a := w64_id (by omega) (by omega)
  have e2 : w64 (y - b) = y - b := w64_id (by omega) (by omega)
  have e3 : w64 (d - b) = d - b := w64_id (by omega) (by omega)
  have e4 : w64 (x - a) = x - a := w64_id (by omega) (by omega)
  have b1 := wmul (u := c - a) (v := y - b) (by omega) (by omega)
  have b2 := wmul (u := d - b) (v := x - a) (by omega) (by omega)
  unfold turnR turnI cmpI
  rw [e1, e2, e3, e4]
  generalize (c - a) * (y - b) = P at *
  generalize (d - b) * (x - a) = Q at *
  have e5 : w64 P = P := w64_id (by omega) (by omega)
  have e6 : w64 Q = Q := w64_id (by omega) (by omega)
  have e7 : w64 (P - Q) = P - Q := w64_id (by omega) (by omega)
  rw [e5, e6, e7]
  repeat' split
  all_goals omega
theorem cmp_self (P : Int) : cmpI P P = 0 := by unfold cmpI; rw [if_neg (by omega), if_neg (by omega)]
theorem on_eq (p q a b c d : Int) : onI p q a b c d = (decide (turnI a b c d p q = 0) && withinI p q a b c d) := by
  unfold onI
  rw [Bool.eq_iff_iff]
  simp only [Bool.or_eq_true, Bool.and_eq_true, decide_eq_true_eq]
  constructor
  · rintro ((⟨rfl, rfl⟩ | ⟨rfl, rfl⟩) | h)
    · refine ⟨?_, ?_⟩
      · unfold turnI
        have : w64 0 = 0 := by decide
        simp only [Int.sub_self, this, Int.mul_zero, cmp_self]
      · unfold withinI; simp only [Bool.and_eq_true, decide_eq_true_eq]; omega
    · refine ⟨?_, ?_⟩
      · unfold turnI
        rw [Int.mul_comm (w64 (q - b)), cmp_self]
      · unfold withinI; simp only [Bool.and_eq_true, decide_eq_true_eq]; omega
    · exact h
  · exact fun h => .inr h
theorem cross_eq {a b c d x y z t : Int} (ha : Near a) (hb : Near b) (hc : Near c) (hd : Near d) (hx : Near x) (hy : Near y) (hz : Near z) (ht : Near t) : crossI a b c d x y z t = crossR a b c d x y z t := by
  unfold crossI crossR
  simp only [on_eq, turn_eq ha hb hc hd hx hy, turn_eq ha hb hc hd hz ht, turn_eq hx hy hz ht ha hb, turn_eq hx hy hz ht hc hd]
  generalize (decide (turnI a b c d x y = 0) && withinI x y a b c d) = A
  generalize (decide (turnI a b c d z t = 0) && withinI z t a b c d) = B
  generalize (decide (turnI x y z t a b = 0) && withinI a b x y z t) = C
  generalize (decide (turnI x y z t c d = 0) && withinI c d x y z t) = D
  generalize (decide (w64 (turnI a b c d x y * turnI a b c d z t) < 0) && decide (w64 (turnI x y z t a b * turnI x y z t c d) < 0)) = E
  cases A <;> cases B <;> cases C <;> cases D <;> cases E <;> rfl
structure Wl where
  a : Int
  b : Int
  c : Int
  d : Int
  f : Int
abbrev wlC (w : Wl) : List SV := [.int .i64 w.a, .int .i64 w.b, .int .i64 w.c, .int .i64 w.d, .int .i64 w.f]
def wlsS (W : List Wl) : List (List SV) := W.map wlC
def intsS (P : List Int) : List (List SV) := P.map fun p => [.int .i64 p]
@[go_sem] theorem wlsS_len {W : List Wl} : (wlsS W).length = W.length := by simp [wlsS]
@[go_sem] theorem intsS_len {W : List Int} : (intsS W).length = W.length := by simp [intsS]
@[go_sem] theorem ptsS_len' {W : List (Int × Int)} : (ptsS W).length = W.length := by simp [ptsS]
abbrev st (N : List (Int × Int)) (P : List Int) (W : List Wl) (f1 f2 f3 : Bool) (ex no th : Int) : SV := .agg [.lst 2 (ptsS N) f1, .lst 1 (intsS P) f2, .lst 5 (wlsS W) f3, .int .i64 ex, .int .i64 no, .int .i64 th]
def pointI (a b : Int) : Bool := decide (0 ≤ a) && decide (a ≤ 10000) && decide (0 ≤ b) && decide (b ≤ 10000)
theorem s74 (n : Nat) (H : Heap) (a b : Int) : call1 T (n + 1) (.fn 74) [pt a b] H = some (.bool (pointI a b), H) := by
  refine call_pure e74 (by rfl) ?_
  simp only [c74, heap0, go_sem, Int.cast_ofNat_Int, Int.reduceToNat, Bool.true_xor, Bool.false_xor, Bool.xor_true, Bool.xor_false, Nat.reduceAdd, Nat.reduceBEq, Nat.reduceLeDiff, Nat.reduceLT, Nat.reduceMul, Nat.reduceSub, Int.reduceEq, Int.reduceLT, Int.reduceLE, Int.reduceNeg]
  repeat' (with_reducible refine fork_split (fun _ => ?_) (fun _ => ?_) <;> simp only [*, go_sem, Int.cast_ofNat_Int, Int.reduceToNat, Bool.true_xor, Bool.false_xor, Bool.xor_true, Bool.xor_false, Nat.reduceAdd, Nat.reduceBEq, Nat.reduceLeDiff, Nat.reduceLT, Nat.reduceMul, Nat.reduceSub, Int.reduceEq, Int.reduceLT, Int.reduceLE, Int.reduceNeg])
  all_goals (simp only [decide_eq_true_eq, decide_eq_false_iff_not] at *; simp only [pointI]; congr 2; rw [Bool.eq_iff_iff]; simp only [Bool.and_eq_true, decide_eq_true_eq, Bool.false_eq_true, false_iff]; omega)
def powI (n : Int) : Bool := decide (0 ≤ n) && decide (n ≤ 68719476736)
theorem s78 (n : Nat) (H : Heap) (a : Int) : call1 T (n + 1) (.fn 78) [.int .i64 a] H = some (.bool (powI a), H) := by
  refine call_pure e78 (by rfl) ?_
  simp only [c78, heap0, go_sem, Int.cast_ofNat_Int, Int.reduceToNat, Bool.true_xor, Bool.false_xor, Bool.xor_true, Bool.xor_false, Nat.reduceAdd, Nat.reduceBEq, Nat.reduceLeDiff, Nat.reduceLT, Nat.reduceMul, Nat.reduceSub, Int.reduceEq, Int.reduceLT, Int.reduceLE, Int.reduceNeg]
  repeat' (with_reducible refine fork_split (fun _ => ?_) (fun _ => ?_) <;> simp only [*, go_sem, Int.cast_ofNat_Int, Int.reduceToNat, Bool.true_xor, Bool.false_xor, Bool.xor_true, Bool.xor_false, Nat.reduceAdd, Nat.reduceBEq, Nat.reduceLeDiff, Nat.reduceLT, Nat.reduceMul, Nat.reduceSub, Int.reduceEq, Int.reduceLT, Int.reduceLE, Int.reduceNeg])
  all_goals (simp only [powI]; grind)
theorem s62 (n : Nat) (H : Heap) (a : Int) : call1 T (n + 1) (.fn 62) [.int .i64 a] H = some (.bool (powI a), H) := by
  refine call_pure e62 (by rfl) ?_
  simp only [c62, heap0, go_sem, Int.cast_ofNat_Int, Int.reduceToNat, Bool.true_xor, Bool.false_xor, Bool.xor_true, Bool.xor_false, Nat.reduceAdd, Nat.reduceBEq, Nat.reduceLeDiff, Nat.reduceLT, Nat.reduceMul, Nat.reduceSub, Int.reduceEq, Int.reduceLT, Int.reduceLE, Int.reduceNeg]
  repeat' (with_reducible refine fork_split (fun _ => ?_) (fun _ => ?_) <;> simp only [*, go_sem, Int.cast_ofNat_Int, Int.reduceToNat, Bool.true_xor, Bool.false_xor, Bool.xor_true, Bool.xor_false, Nat.reduceAdd, Nat.reduceBEq, Nat.reduceLeDiff, Nat.reduceLT, Nat.reduceMul, Nat.reduceSub, Int.reduceEq, Int.reduceLT, Int.reduceLE, Int.reduceNeg])
  all_goals (simp only [powI]; grind)
theorem s56 (n : Nat) (H : Heap) (a : Int) : call1 T (n + 1) (.fn 56) [.int .i64 a] H = some (.bool (powI a), H) := by
  refine call_pure e56 (by rfl) ?_
  simp only [c56, heap0, go_sem, Int.cast_ofNat_Int, Int.reduceToNat, Bool.true_xor, Bool.false_xor, Bool.xor_true, Bool.xor_false, Nat.reduceAdd, Nat.reduceBEq, Nat.reduceLeDiff, Nat.reduceLT, Nat.reduceMul, Nat.reduceSub, Int.reduceEq, Int.reduceLT, Int.reduceLE, Int.reduceNeg]
  repeat' (with_reducible refine fork_split (fun _ => ?_) (fun _ => ?_) <;> simp only [*, go_sem, Int.cast_ofNat_Int, Int.reduceToNat, Bool.true_xor, Bool.false_xor, Bool.xor_true, Bool.xor_false, Nat.reduceAdd, Nat.reduceBEq, Nat.reduceLeDiff, Nat.reduceLT, Nat.reduceMul, Nat.reduceSub, Int.reduceEq, Int.reduceLT, Int.reduceLE, Int.reduceNeg])
  all_goals (simp only [powI]; grind)
theorem s73 (n : Nat) (H : Heap) (a b : Int) : call1 T (n + 2) (.fn 73) [pt a b] H = some (.bool (!pointI a b), H) := by
  refine call_pure e73 (by rfl) ?_
  simp only [c73, heap0, go_sem, Int.cast_ofNat_Int, Int.reduceToNat, Bool.true_xor, Bool.false_xor, Bool.xor_true, Bool.xor_false, Nat.reduceAdd, Nat.reduceBEq, Nat.reduceLeDiff, Nat.reduceLT, Nat.reduceMul, Nat.reduceSub, Int.reduceEq, Int.reduceLT, Int.reduceLE, Int.reduceNeg, s74]
theorem s77 (n : Nat) (H : Heap) (a : Int) : call1 T (n + 2) (.fn 77) [.int .i64 a] H = some (.bool (!powI a), H) := by
  refine call_pure e77 (by rfl) ?_
  simp only [c77, heap0, go_sem, Int.cast_ofNat_Int, Int.reduceToNat, Bool.true_xor, Bool.false_xor, Bool.xor_true, Bool.xor_false, Nat.reduceAdd, Nat.reduceBEq, Nat.reduceLeDiff, Nat.reduceLT, Nat.reduceMul, Nat.reduceSub, Int.reduceEq, Int.reduceLT, Int.reduceLE, Int.reduceNeg, s78]
theorem s61 (n : Nat) (H : Heap) (a b : Int) : call1 T (n + 1) (.fn 61) [pt a b] H = some (.bool (pointI a b), H) := by
  refine call_pure e61 (by rfl) ?_
  simp only [c61, heap0, go_sem, Int.cast_ofNat_Int, Int.reduceToNat, Bool.true_xor, Bool.false_xor, Bool.xor_true, Bool.xor_false, Nat.reduceAdd, Nat.reduceBEq, Nat.reduceLeDiff, Nat.reduceLT, Nat.reduceMul, Nat.reduceSub, Int.reduceEq, Int.reduceLT, Int.reduceLE, Int.reduceNeg]
  repeat' (with_reducible refine fork_split (fun _ => ?_) (fun _ => ?_) <;> simp only [*, go_sem, Int.cast_ofNat_Int, Int.reduceToNat, Bool.true_xor, Bool.false_xor, Bool.xor_true, Bool.xor_false, Nat.reduceAdd, Nat.reduceBEq, Nat.reduceLeDiff, Nat.reduceLT, Nat.reduceMul, Nat.reduceSub, Int.reduceEq, Int.reduceLT, Int.reduceLE, Int.reduceNeg])
  all_goals (simp only [pointI]; grind)
def rightI (t m : Int) : Bool := decide (1000 ≤ t) && decide (t ≤ 100000) && decide (1 ≤ m) && decide (m ≤ 68719476736)
theorem s60 (n : Nat) (H : Heap) (t m : Int) : call1 T (n + 1) (.fn 60) [.int .i64 t, .int .i64 m] H = some (.bool (rightI t m), H) := by
  refine call_pure e60 (by rfl) ?_
  simp only [c60, heap0, go_sem, Int.cast_ofNat_Int, Int.reduceToNat, Bool.true_xor, Bool.false_xor, Bool.xor_true, Bool.xor_false, Nat.reduceAdd, Nat.reduceBEq, Nat.reduceLeDiff, Nat.reduceLT, Nat.reduceMul, Nat.reduceSub, Int.reduceEq, Int.reduceLT, Int.reduceLE, Int.reduceNeg]
  repeat' (with_reducible refine fork_split (fun _ => ?_) (fun _ => ?_) <;> simp only [*, go_sem, Int.cast_ofNat_Int, Int.reduceToNat, Bool.true_xor, Bool.false_xor, Bool.xor_true, Bool.xor_false, Nat.reduceAdd, Nat.reduceBEq, Nat.reduceLeDiff, Nat.reduceLT, Nat.reduceMul, Nat.reduceSub, Int.reduceEq, Int.reduceLT, Int.reduceLE, Int.reduceNeg])
  all_goals (simp only [rightI]; grind)
/-- Scale: the number, and the error. -/
def scOk (p f : Int) : Bool := powI p && decide (0 ≤ f) && decide (f ≤ 1000)
def scV (p f : Int) : Int := if scOk p f = true then w64 ((w64 (p * f)).tdiv 1000) else 0
def scE (p f : Int) : Int := if scOk p f = true then 0 else 2
theorem s67 (n : Nat) (H : Heap) (p f : Int) : call1 T (n + 2) (.fn 67) [.int .i64 p, .int .i64 f] H = some (.tup [.int .i64 (scV p f), .int .i64 (scE p f)], H) := by
  refine call_pure e67 (by rfl) ?_
  simp only [c67, heap0, go_sem, Int.cast_ofNat_Int, Int.reduceToNat, Bool.true_xor, Bool.false_xor, Bool.xor_true, Bool.xor_false, Nat.reduceAdd, Nat.reduceBEq, Nat.reduceLeDiff, Nat.reduceLT, Nat.reduceMul, Nat.reduceSub, Int.reduceEq, Int.reduceLT, Int.reduceLE, Int.reduceNeg, s56]
  repeat' (with_reducible refine fork_split (fun _ => ?_) (fun _ => ?_) <;> simp only [*, go_sem, Int.cast_ofNat_Int, Int.reduceToNat, Bool.true_xor, Bool.false_xor, Bool.xor_true, Bool.xor_false, Nat.reduceAdd, Nat.reduceBEq, Nat.reduceLeDiff, Nat.reduceLT, Nat.reduceMul, Nat.reduceSub, Int.reduceEq, Int.reduceLT, Int.reduceLE, Int.reduceNeg])
  all_goals (simp only [scV, scE, scOk]; grind)
def fewI (N : List (Int × Int)) (P : List Int) (W : List Wl) : Bool := decide (N.length ≤ 40) && decide (P.length ≤ 40) && decide (W.length ≤ 40)
theorem s38 (n : Nat) (H : Heap) (N P W f1 f2 f3 ex no th) : call1 T (n + 1) (.fn 38) [st N P W f1 f2 f3 ex no th] H = some (.bool (fewI N P W), H) := by
  refine call_pure e38 (by rfl) ?_
  simp only [c38, heap0, go_sem, Int.cast_ofNat_Int, Int.reduceToNat, Bool.true_xor, Bool.false_xor, Bool.xor_true, Bool.xor_false, Nat.reduceAdd, Nat.reduceBEq, Nat.reduceLeDiff, Nat.reduceLT, Nat.reduceMul, Nat.reduceSub, Int.reduceEq, Int.reduceLT, Int.reduceLE, Int.reduceNeg, wlsS_len, intsS_len, ptsS_len']
  repeat' (with_reducible refine fork_split (fun _ => ?_) (fun _ => ?_) <;> simp only [*, go_sem, Int.cast_ofNat_Int, Int.reduceToNat, Bool.true_xor, Bool.false_xor, Bool.xor_true, Bool.xor_false, Nat.reduceAdd, Nat.reduceBEq, Nat.reduceLeDiff, Nat.reduceLT, Nat.reduceMul, Nat.reduceSub, Int.reduceEq, Int.reduceLT, Int.reduceLE, Int.reduceNeg])
  all_goals (simp only [fewI]; refine congrArg some (congrArg SV.bool ?_); rw [Bool.eq_iff_iff]; grind)
def sqI (a b c d : Int) : Int := w64 (w64 (w64 (a - c) * w64 (a - c)) + w64 (w64 (b - d) * w64 (b - d)))
theorem sqI_eq (a b c d : Int) : w64 (w64 (w64 (a - c) * w64 (a - c)) + w64 (w64 (b - d) * w64 (b - d))) = sqI a b c d := rfl
def mI (a b c d : Int) : Int := max (sqI a b c d) 100
theorem mI_eq (a b c d : Int) : max (sqI a b c d) 100 = mI a b c d := rfl
theorem mI_ne (a b c d : Int) : decide (mI a b c d = 0) = false := by
  have : 100 ≤ mI a b c d := Int.le_max_right _ _
  rw [decide_eq_false_iff_not]; omega
def startI (ex a b p c d : Int) : Int := let p1 := w64 ((w64 (p * 100)).tdiv (mI a b c d)); if ex = 4 then w64 ((w64 (p1 * 100)).tdiv (mI a b c d)) else p1
def stepR (a b c d p : Int) (w : Wl) : Int := if crossR a b c d w.a w.b w.c w.d = true then w64 ((w64 (p * w.f)).tdiv 1000) else p
def atR (W : List Wl) (ex a b p c d : Int) : Int := W.foldl (stepR a b c d) (startI ex a b p c d)
theorem foldl_take {A B : Type} (f : A → B → A) (z : A) {l : List B} {i : Nat} {x : B} (h : l[i]? = some x) : (l.take (i + 1)).foldl f z = f ((l.take i).foldl f z) x := by
  rw [List.take_add_one, h]; simp
@[go_sem] theorem wlsS_get (W : List Wl) (i : Nat) : (wlsS W)[i]? = (W[i]?).map wlC := by simp [wlsS]
@[go_sem] theorem intsS_get (W : List Int) (i : Nat) : (intsS W)[i]? = (W[i]?).map (fun p => [.int .i64 p]) := by simp [intsS]
@[go_sem] theorem ptsS_get (W : List (Int × Int)) (i : Nat) : (ptsS W)[i]? = (W[i]?).map (fun p => [.int .i64 p.1, .int .i64 p.2]) := by simp [ptsS]
theorem w64_succ {i n : Nat} (h : i < n) (hn : n ≤ maxLen) : w64 ((i : Int) + 1) = ((i + 1 : Nat) : Int) := by
  simp only [maxLen] at hn
  rw [w64_id (by omega) (by omega)]; omega
theorem s72 (n : Nat) (H : Heap) (N P W f1 f2 f3 ex no th a b p c d) (hW : W.length ≤ maxLen) : call1 T (n + 3) (.fn 72) [st N P W f1 f2 f3 ex no th, pt a b, .int .i64 p, pt c d] H = some (.int .i64 (atR W ex a b p c d), H) := by
  refine call_pure e72 (by rfl) ?_
  have hm := mI_ne a b c d
  simp only [c72, heap0, go_sem, Int.cast_ofNat_Int, Int.reduceToNat, Bool.true_xor, Bool.false_xor, Bool.xor_true, Bool.xor_false, Nat.reduceAdd, Nat.reduceBEq, Nat.reduceLeDiff, Nat.reduceLT, Nat.reduceMul, Nat.reduceSub, Int.reduceEq, Int.reduceLT, Int.reduceLE, Int.reduceNeg, s95, sqI_eq, mI_eq, hm]
  with_reducible refine fork_split (fun hex => ?_) (fun hex => ?_)
  all_goals
    simp only [go_sem, Int.cast_ofNat_Int, Int.reduceToNat, Bool.true_xor, Bool.false_xor, Bool.xor_true, Bool.xor_false, Nat.reduceAdd, Nat.reduceBEq, Nat.reduceLeDiff, Nat.reduceLT, Nat.reduceMul, Nat.reduceSub, Int.reduceEq, Int.reduceLT, Int.reduceLE, Int.reduceNeg, hm]
    refine loop_rule (fun i => ([(4, .ptr 0 0 0 0), (5, .ptr 1 0 0 0), (7, .ptr 2 0 0 0), (10, .int .i64 ((W.take i).foldl (stepR a b c d) (startI ex a b p c d))), (11, .int .i64 i)], ⟨[.box [.lst 2 (ptsS N) f1, .lst 1 (intsS P) f2, .lst 5 (wlsS W) f3, .int .i64 ex, .int .i64 no, .int .i64 th], .box [.int .i64 a, .int .i64 b], .box [.int .i64 c, .int .i64 d]], [], 0⟩)) (fun _ => True) W.length ?_ trivial ?_
    · simp only [decide_eq_true_eq, decide_eq_false_iff_not] at hex
      simp only [go_sem, Int.cast_ofNat_Int, Int.reduceToNat, Bool.true_xor, Bool.false_xor, Bool.xor_true, Bool.xor_false, Nat.reduceAdd, Nat.reduceBEq, Nat.reduceLeDiff, Nat.reduceLT, Nat.reduceMul, Nat.reduceSub, Int.reduceEq, Int.reduceLT, Int.reduceLE, Int.reduceNeg, startI, hex, if_true, if_false]
      rfl
    · intro i hi _
      rcases Nat.lt_or_ge i W.length with hlt | hge
      · obtain ⟨w, hw⟩ : ∃ w, W[i]? = some w := ⟨W[i], List.getElem?_eq_getElem hlt⟩
        have hs := w64_succ hlt hW
        have hf := foldl_take (stepR a b c d) (startI ex a b p c d) hw
        simp only [go_sem, Int.cast_ofNat_Int, Int.reduceToNat, Bool.true_xor, Bool.false_xor, Bool.xor_true, Bool.xor_false, Nat.reduceAdd, Nat.reduceBEq, Nat.reduceLeDiff, Nat.reduceLT, Nat.reduceMul, Nat.reduceSub, Int.reduceEq, Int.reduceLT, Int.reduceLE, Int.reduceNeg, hlt, hw, s96, hf, stepR]
        with_reducible refine post_fork (fun hc => ?_) (fun hc => ?_)
        · simp only [go_sem, Int.cast_ofNat_Int, Int.reduceToNat, Bool.true_xor, Bool.false_xor, Bool.xor_true, Bool.xor_false, Nat.reduceAdd, Nat.reduceBEq, Nat.reduceLeDiff, Nat.reduceLT, Nat.reduceMul, Nat.reduceSub, Int.reduceEq, Int.reduceLT, Int.reduceLE, Int.reduceNeg, hlt, hw, hs, hc, hf, stepR, if_true]
          exact ⟨trivial, rfl, trivial⟩
        · simp only [go_sem, Int.cast_ofNat_Int, Int.reduceToNat, Bool.true_xor, Bool.false_xor, Bool.xor_true, Bool.xor_false, Nat.reduceAdd, Nat.reduceBEq, Nat.reduceLeDiff, Nat.reduceLT, Nat.reduceMul, Nat.reduceSub, Int.reduceEq, Int.reduceLT, Int.reduceLE, Int.reduceNeg, hlt, hw, hs, hc, hf, stepR, Bool.false_eq_true, if_false]
          exact ⟨trivial, rfl, trivial⟩
      · have hlt : ¬ i < W.length := by omega
        have ht : W.take i = W := List.take_of_length_le hge
        simp only [go_sem, Int.cast_ofNat_Int, Int.reduceToNat, Bool.true_xor, Bool.false_xor, Bool.xor_true, Bool.xor_false, Nat.reduceAdd, Nat.reduceBEq, Nat.reduceLeDiff, Nat.reduceLT, Nat.reduceMul, Nat.reduceSub, Int.reduceEq, Int.reduceLT, Int.reduceLE, Int.reduceNeg, hlt, ht, atR]
theorem s107 (n : Nat) (bl es ro) (N P W f1 f2 f3 ex no th a b c d) : call1 T (n + 1) (.fn 107) [st N P W f1 f2 f3 ex no th, pt a b, pt c d] ⟨bl, es, ro⟩ =
    some (.fn 110 [.ptr bl.length 0 0 0, .ptr (bl.length + 1) 0 0 0, .ptr (bl.length + 1 + 1) 0 0 0], ⟨bl ++ [.box [.lst 2 (ptsS N) f1, .lst 1 (intsS P) f2, .lst 5 (wlsS W) f3, .int .i64 ex, .int .i64 no, .int .i64 th], .box [.int .i64 a, .int .i64 b], .box [.int .i64 c, .int .i64 d]], es, ro⟩) := by
  refine call_in e107 (by rfl) ?_
  simp only [c107, go_sem, Int.cast_ofNat_Int, Int.reduceToNat, Bool.true_xor, Bool.false_xor, Bool.xor_true, Bool.xor_false, Nat.reduceAdd, Nat.reduceBEq, Nat.reduceLeDiff, Nat.reduceLT, Nat.reduceMul, Nat.reduceSub, Int.reduceEq, Int.reduceLT, Int.reduceLE, Int.reduceNeg, List.append_assoc, List.length_append]
def stepI (a b c d p : Int) (w : Wl) : Int := if crossI a b c d w.a w.b w.c w.d = true then scV p w.f else p
theorem s110 (n : Nat) (q : LoopRec) (X0 X1 X3 : SBlk) (X2 : Int → SBlk) (f1 f2 f3 : Bool) (N P W) (ex no th a b c d : Int) (hW : W.length ≤ maxLen)
    (hy : ∀ (p : Int) (w : Wl) (X : SBlk), call1 T (n + 6) (.yld 7) [.agg (wlC w)] ⟨[X0, X1, X2 p, X3, .box [.lst 2 (ptsS N) f1, .lst 1 (intsS P) f2, .lst 5 (wlsS W) f3, .int .i64 ex, .int .i64 no, .int .i64 th], .box [.int .i64 a, .int .i64 b], .box [.int .i64 c, .int .i64 d], .loop q .ready .normal, X], [], 0⟩ =
      some (.bool true, ⟨[X0, X1, X2 (scV p w.f), X3, .box [.lst 2 (ptsS N) f1, .lst 1 (intsS P) f2, .lst 5 (wlsS W) f3, .int .i64 ex, .int .i64 no, .int .i64 th], .box [.int .i64 a, .int .i64 b], .box [.int .i64 c, .int .i64 d], .loop q .ready .normal, X], [], 0⟩)) (p : Int) :
    call1 T (n + 7) (.fn 110) [.yld 7, .ptr 4 0 0 0, .ptr 5 0 0 0, .ptr 6 0 0 0] ⟨[X0, X1, X2 p, X3, .box [.lst 2 (ptsS N) f1, .lst 1 (intsS P) f2, .lst 5 (wlsS W) f3, .int .i64 ex, .int .i64 no, .int .i64 th], .box [.int .i64 a, .int .i64 b], .box [.int .i64 c, .int .i64 d], .loop q .ready .normal], [], 0⟩ =
      some (.tup [], ⟨[X0, X1, X2 (W.foldl (stepI a b c d) p), X3, .box [.lst 2 (ptsS N) f1, .lst 1 (intsS P) f2, .lst 5 (wlsS W) f3, .int .i64 ex, .int .i64 no, .int .i64 th], .box [.int .i64 a, .int .i64 b], .box [.int .i64 c, .int .i64 d], .loop q .ready .normal], [], 0⟩) := by
  refine call_in e110 (by rfl) ?_
  simp only [c110, go_sem, Int.cast_ofNat_Int, Int.reduceToNat, Bool.true_xor, Bool.false_xor, Bool.xor_true, Bool.xor_false, Nat.reduceAdd, Nat.reduceBEq, Nat.reduceLeDiff, Nat.reduceLT, Nat.reduceMul, Nat.reduceSub, Int.reduceEq, Int.reduceLT, Int.reduceLE, Int.reduceNeg]
  refine loop_rule (fun i => ([(0, .yld 7), (2, .ptr 5 0 0 0), (3, .ptr 6 0 0 0), (8, .lst 5 (wlsS W) f3), (9, .int .i64 W.length), (10, .int .i64 i)], ⟨[X0, X1, X2 ((W.take i).foldl (stepI a b c d) p), X3, .box [.lst 2 (ptsS N) f1, .lst 1 (intsS P) f2, .lst 5 (wlsS W) f3, .int .i64 ex, .int .i64 no, .int .i64 th], .box [.int .i64 a, .int .i64 b], .box [.int .i64 c, .int .i64 d], .loop q .ready .normal], [], 0⟩)) (fun _ => True) W.length ?_ trivial ?_
  · simp only [go_sem, Int.cast_ofNat_Int, Int.reduceToNat, Bool.true_xor, Bool.false_xor, Bool.xor_true, Bool.xor_false, Nat.reduceAdd, Nat.reduceBEq, Nat.reduceLeDiff, Nat.reduceLT, Nat.reduceMul, Nat.reduceSub, Int.reduceEq, Int.reduceLT, Int.reduceLE, Int.reduceNeg]
    rfl
  · intro i hi _
    rcases Nat.lt_or_ge i W.length with hlt | hge
    · obtain ⟨w, hw⟩ : ∃ w, W[i]? = some w := ⟨W[i], List.getElem?_eq_getElem hlt⟩
      have hs := w64_succ hlt hW
      have hf := foldl_take (stepI a b c d) p hw
      simp only [go_sem, Int.cast_ofNat_Int, Int.reduceToNat, Bool.true_xor, Bool.false_xor, Bool.xor_true, Bool.xor_false, Nat.reduceAdd, Nat.reduceBEq, Nat.reduceLeDiff, Nat.reduceLT, Nat.reduceMul, Nat.reduceSub, Int.reduceEq, Int.reduceLT, Int.reduceLE, Int.reduceNeg, hlt, hw, s111, hf, stepI]
      with_reducible refine post_fork (fun hc => ?_) (fun hc => ?_)
      · simp only [go_sem, Int.cast_ofNat_Int, Int.reduceToNat, Bool.true_xor, Bool.false_xor, Bool.xor_true, Bool.xor_false, Nat.reduceAdd, Nat.reduceBEq, Nat.reduceLeDiff, Nat.reduceLT, Nat.reduceMul, Nat.reduceSub, Int.reduceEq, Int.reduceLT, Int.reduceLE, Int.reduceNeg, hlt, hw, hs, hc, hf, stepI, if_true, hy]
        exact ⟨trivial, rfl, trivial⟩
      · simp only [go_sem, Int.cast_ofNat_Int, Int.reduceToNat, Bool.true_xor, Bool.false_xor, Bool.xor_true, Bool.xor_false, Nat.reduceAdd, Nat.reduceBEq, Nat.reduceLeDiff, Nat.reduceLT, Nat.reduceMul, Nat.reduceSub, Int.reduceEq, Int.reduceLT, Int.reduceLE, Int.reduceNeg, hlt, hw, hs, hc, hf, stepI, Bool.false_eq_true, if_false]
        exact ⟨trivial, rfl, trivial⟩
    · have hlt : ¬ i < W.length := by omega
      have ht : W.take i = W := List.take_of_length_le hge
      simp only [go_sem, Int.cast_ofNat_Int, Int.reduceToNat, Bool.true_xor, Bool.false_xor, Bool.xor_true, Bool.xor_false, Nat.reduceAdd, Nat.reduceBEq, Nat.reduceLeDiff, Nat.reduceLT, Nat.reduceMul, Nat.reduceSub, Int.reduceEq, Int.reduceLT, Int.reduceLE, Int.reduceNeg, hlt, ht]
theorem onSome_of {A R : Type} {v : Option A} {f : A → Option R} {t : Tok f} {r : Option R} (o : A) (h : v = some o) (k : f o = r) : onSome v f t = r := by rw [h]; exact k
def atI (W : List Wl) (ex a b p c d : Int) : Int := W.foldl (stepI a b c d) (startI ex a b p c d)
theorem s94 (n : Nat) (H : Heap) (N P W f1 f2 f3 ex no th a b p c d) (hW : W.length ≤ maxLen) : call1 T (n + 8) (.fn 94) [st N P W f1 f2 f3 ex no th, pt a b, .int .i64 p, pt c d] H = some (.int .i64 (atI W ex a b p c d), H) := by
  refine call_pure e94 (by rfl) ?_
  have hm := mI_ne a b c d
  simp only [c94, heap0, go_sem, Int.cast_ofNat_Int, Int.reduceToNat, Bool.true_xor, Bool.false_xor, Bool.xor_true, Bool.xor_false, Nat.reduceAdd, Nat.reduceBEq, Nat.reduceLeDiff, Nat.reduceLT, Nat.reduceMul, Nat.reduceSub, Int.reduceEq, Int.reduceLT, Int.reduceLE, Int.reduceNeg, s106, sqI_eq, mI_eq, hm]
  with_reducible refine fork_split (fun hex => ?_) (fun hex => ?_)
  all_goals
    simp only [go_sem, Int.cast_ofNat_Int, Int.reduceToNat, Bool.true_xor, Bool.false_xor, Bool.xor_true, Bool.xor_false, Nat.reduceAdd, Nat.reduceBEq, Nat.reduceLeDiff, Nat.reduceLT, Nat.reduceMul, Nat.reduceSub, Int.reduceEq, Int.reduceLT, Int.reduceLE, Int.reduceNeg, hm, s107]
    refine onSome_of _ (s110 n _ _ _ _ (fun p => .box [.int .i64 p]) f1 f2 f3 N P W ex no th a b c d hW ?_ _) ?_
    · intro p w X
      refine yld_in rfl rfl ?_
      simp only [go_sem, Int.cast_ofNat_Int, Int.reduceToNat, Bool.true_xor, Bool.false_xor, Bool.xor_true, Bool.xor_false, Nat.reduceAdd, Nat.reduceBEq, Nat.reduceLeDiff, Nat.reduceLT, Nat.reduceMul, Nat.reduceSub, Int.reduceEq, Int.reduceLT, Int.reduceLE, Int.reduceNeg, s67]
    · simp only [decide_eq_true_eq, decide_eq_false_iff_not] at hex
      simp only [go_sem, Int.cast_ofNat_Int, Int.reduceToNat, Bool.true_xor, Bool.false_xor, Bool.xor_true, Bool.xor_false, Nat.reduceAdd, Nat.reduceBEq, Nat.reduceLeDiff, Nat.reduceLT, Nat.reduceMul, Nat.reduceSub, Int.reduceEq, Int.reduceLT, Int.reduceLE, Int.reduceNeg, atI, startI, hex, if_true, if_false]
def badW (w : Wl) : Bool := !pointI w.a w.b || !pointI w.c w.d || decide (w.f < 0) || decide (1000 < w.f)
theorem s80 (n : Nat) (X0 : SBlk) (w : Wl) : call1 T (n + 3) (.fn 80) [.agg (wlC w), .ptr 1 0 0 0] ⟨[X0, .box [.fn 73 []]], [], 0⟩ = some (.bool (badW w), ⟨[X0, .box [.fn 73 []]], [], 0⟩) := by
  refine call_in e80 (by rfl) ?_
  simp only [c80, go_sem, Int.cast_ofNat_Int, Int.reduceToNat, Bool.true_xor, Bool.false_xor, Bool.xor_true, Bool.xor_false, Nat.reduceAdd, Nat.reduceBEq, Nat.reduceLeDiff, Nat.reduceLT, Nat.reduceMul, Nat.reduceSub, Int.reduceEq, Int.reduceLT, Int.reduceLE, Int.reduceNeg, s73]
  repeat' (with_reducible refine fork_split (fun _ => ?_) (fun _ => ?_) <;> simp only [*, go_sem, Int.cast_ofNat_Int, Int.reduceToNat, Bool.true_xor, Bool.false_xor, Bool.xor_true, Bool.xor_false, Nat.reduceAdd, Nat.reduceBEq, Nat.reduceLeDiff, Nat.reduceLT, Nat.reduceMul, Nat.reduceSub, Int.reduceEq, Int.reduceLT, Int.reduceLE, Int.reduceNeg, s73])
  all_goals (simp only [badW]; grind)
theorem s99c (n id : Nat) (X0 X1 : SBlk) (L : List (List SV)) (fl : Bool) (p : List SV → Bool) (hr : ∀ r ∈ L, r.length = 5) (hm : L.length ≤ maxLen)
    (hc : ∀ r ∈ L, call1 T n (.fn id) [.agg r, .ptr 1 0 0 0] ⟨[X0, X1], [], 0⟩ = some (.bool (p r), ⟨[X0, X1], [], 0⟩)) :
    call1 T (n + 1) (.fn 99) [.lst 5 L fl, .fn id [.ptr 1 0 0 0]] ⟨[X0, X1], [], 0⟩ = some (.int .i64 (idx1 p L), ⟨[X0, X1], [], 0⟩) := by
  refine call_in e99 (by rfl) ?_
  simp only [c99, go_sem, Int.cast_ofNat_Int, Int.reduceToNat, Bool.true_xor, Bool.false_xor, Bool.xor_true, Bool.xor_false, Nat.reduceAdd, Nat.reduceBEq, Nat.reduceLeDiff, Nat.reduceLT, Nat.reduceMul, Nat.reduceSub, Int.reduceEq, Int.reduceLT, Int.reduceLE, Int.reduceNeg]
  refine loop_rule (fun i => ([(0, .lst 5 L fl), (1, .fn id [.ptr 1 0 0 0]), (7, .int .i64 L.length), (8, .int .i64 i)], ⟨[X0, X1], [], 0⟩)) (fun i => ∀ (j : Nat) r, j < i → L[j]? = some r → p r = false) L.length ?_ (fun j r h => by omega) ?_
  · simp only [go_sem, Int.cast_ofNat_Int, Int.reduceToNat, Bool.true_xor, Bool.false_xor, Bool.xor_true, Bool.xor_false, Nat.reduceAdd, Nat.reduceBEq, Nat.reduceLeDiff, Nat.reduceLT, Nat.reduceMul, Nat.reduceSub, Int.reduceEq, Int.reduceLT, Int.reduceLE, Int.reduceNeg]
    rfl
  · intro i hi hP
    rcases Nat.lt_or_ge i L.length with hlt | hge
    · obtain ⟨r, hr'⟩ : ∃ r, L[i]? = some r := ⟨L[i], List.getElem?_eq_getElem hlt⟩
      have hmem := List.mem_of_getElem? hr'
      have h1 := hr _ hmem
      have ht : List.take 5 r = r := List.take_of_length_le (by omega)
      have hw := w64_succ hlt hm
      cases hp : p r with
      | true =>
        have hx := idx1_at hr' hp hP
        simp only [go_sem, Int.cast_ofNat_Int, Int.reduceToNat, Bool.true_xor, Bool.false_xor, Bool.xor_true, Bool.xor_false, Nat.reduceAdd, Nat.reduceBEq, Nat.reduceLeDiff, Nat.reduceLT, Nat.reduceMul, Nat.reduceSub, Int.reduceEq, Int.reduceLT, Int.reduceLE, Int.reduceNeg, hlt, hr', hc r hmem, hw, h1, ht, hp, hx]
      | false =>
        simp only [go_sem, Int.cast_ofNat_Int, Int.reduceToNat, Bool.true_xor, Bool.false_xor, Bool.xor_true, Bool.xor_false, Nat.reduceAdd, Nat.reduceBEq, Nat.reduceLeDiff, Nat.reduceLT, Nat.reduceMul, Nat.reduceSub, Int.reduceEq, Int.reduceLT, Int.reduceLE, Int.reduceNeg, hlt, hr', hc r hmem, hw, h1, ht, hp]
        refine ⟨trivial, rfl, fun j r' hj hr2 => ?_⟩
        rcases Nat.lt_or_ge j i with hlt2 | hge2
        · exact hP j r' hlt2 hr2
        · have : j = i := by omega
          subst this
          rw [hr'] at hr2
          cases hr2
          exact hp
    · have hlt : ¬ i < L.length := by omega
      have hx : idx1 p L = -1 := idx1_none (fun j a hj => hP j a (by have := (List.getElem?_eq_some_iff.1 hj).1; omega) hj)
      simp only [go_sem, Int.cast_ofNat_Int, Int.reduceToNat, Bool.true_xor, Bool.false_xor, Bool.xor_true, Bool.xor_false, Nat.reduceAdd, Nat.reduceBEq, Nat.reduceLeDiff, Nat.reduceLT, Nat.reduceMul, Nat.reduceSub, Int.reduceEq, Int.reduceLT, Int.reduceLE, Int.reduceNeg, hlt, hx]
theorem s79c (n id : Nat) (X0 X1 : SBlk) (L : List (List SV)) (fl : Bool) (p : List SV → Bool) (hr : ∀ r ∈ L, r.length = 5) (hm : L.length ≤ maxLen)
    (hc : ∀ r ∈ L, call1 T n (.fn id) [.agg r, .ptr 1 0 0 0] ⟨[X0, X1], [], 0⟩ = some (.bool (p r), ⟨[X0, X1], [], 0⟩)) :
    call1 T (n + 2) (.fn 79) [.lst 5 L fl, .fn id [.ptr 1 0 0 0]] ⟨[X0, X1], [], 0⟩ = some (.bool (L.any p), ⟨[X0, X1], [], 0⟩) := by
  refine call_in e79 (by rfl) ?_
  simp only [c79, go_sem, Int.cast_ofNat_Int, Int.reduceToNat, Bool.true_xor, Bool.false_xor, Bool.xor_true, Bool.xor_false, Nat.reduceAdd, Nat.reduceBEq, Nat.reduceLeDiff, Nat.reduceLT, Nat.reduceMul, Nat.reduceSub, Int.reduceEq, Int.reduceLT, Int.reduceLE, Int.reduceNeg, s99c n id X0 X1 L fl p hr hm hc, idx1_any]
def ofW (r : List SV) : Wl := match r with | [.int _ a, .int _ b, .int _ c, .int _ d, .int _ f] => ⟨a, b, c, d, f⟩ | _ => ⟨0, 0, 0, 0, 0⟩
theorem any_map' {A B : Type} (f : A → B) (p : B → Bool) (q : A → Bool) (h : ∀ a, p (f a) = q a) (l : List A) : (l.map f).any p = l.any q := by
  induction l with
  | nil => rfl
  | cons a l ih => simp only [List.map_cons, List.any_cons, h, ih]
def pt1 (r : List SV) : Bool := match r with | [.int _ a, .int _ b] => !pointI a b | _ => false
def pw1 (r : List SV) : Bool := match r with | [.int _ a] => !powI a | _ => false
def okB (n p w : Nat) (A B C : Bool) (ex no th : Int) : Bool := decide (2 ≤ n) && decide (n ≤ 32) && !A && decide (p = n) && !B && decide (w ≤ 32) && !C && (decide (ex = 2) || decide (ex = 4)) && rightI th no
def okI (N : List (Int × Int)) (P : List Int) (W : List Wl) (ex no th : Int) : Bool := okB N.length P.length W.length (N.any (fun p => !pointI p.1 p.2)) (P.any (fun p => !powI p)) (W.any badW) ex no th
def chkI (N : List (Int × Int)) (P : List Int) (W : List Wl) (ex no th : Int) : Int := bif okI N P W ex no th then 0 else 1
theorem s58 (n : Nat) (H : Heap) (N P W f1 f2 f3 ex no th) (hN : N.length ≤ maxLen) (hP : P.length ≤ maxLen) (hW : W.length ≤ maxLen) : call1 T (n + 6) (.fn 58) [st N P W f1 f2 f3 ex no th] H = some (.int .i64 (chkI N P W ex no th), H) := by
  refine call_pure e58 (by rfl) ?_
  have h38 := fun H => s75 (n + 3) (id := 73) H (ptsS N) f1 pt1 ptsS_len (by simpa [ptsS] using hN) (fun r hr H => by
    simp only [ptsS, List.mem_map] at hr; obtain ⟨p, _, rfl⟩ := hr; exact s73 (n + 1) H p.1 p.2)
  have h48 := fun H => s76 (n + 3) (id := 77) H (intsS P) f2 pw1 (fun r hr => by simp only [intsS, List.mem_map] at hr; obtain ⟨p, _, rfl⟩ := hr; exact ⟨_, rfl⟩) (by simpa [intsS] using hP) (fun r hr H => by
    simp only [intsS, List.mem_map] at hr; obtain ⟨p, _, rfl⟩ := hr; exact s77 (n + 1) H p)
  have h50 := fun X0 => s79c (n + 3) (id := 80) X0 (.box [.fn 73 []]) (wlsS W) f3 (fun r => badW (ofW r)) (fun r hr => by simp only [wlsS, List.mem_map] at hr; obtain ⟨p, _, rfl⟩ := hr; rfl) (by simpa [wlsS] using hW) (fun r hr => by
    simp only [wlsS, List.mem_map] at hr; obtain ⟨w, _, rfl⟩ := hr; exact s80 n X0 w)
  have a38 : (ptsS N).any pt1 = N.any (fun p => !pointI p.1 p.2) := any_map' _ _ _ (fun _ => rfl) N
  have a48 : (intsS P).any pw1 = P.any (fun p => !powI p) := any_map' _ _ _ (fun _ => rfl) P
  have a50 : (wlsS W).any (fun r => badW (ofW r)) = W.any badW := any_map' _ _ _ (fun _ => rfl) W
  rw [a38] at h38
  rw [a48] at h48
  simp only [a50] at h50
  simp only [c58, heap0, go_sem, Int.cast_ofNat_Int, Int.reduceToNat, Bool.true_xor, Bool.false_xor, Bool.xor_true, Bool.xor_false, Nat.reduceAdd, Nat.reduceBEq, Nat.reduceLeDiff, Nat.reduceLT, Nat.reduceMul, Nat.reduceSub, Int.reduceEq, Int.reduceLT, Int.reduceLE, Int.reduceNeg, h38]
  repeat' (with_reducible refine fork_split (fun _ => ?_) (fun _ => ?_) <;> simp only [*, go_sem, Int.cast_ofNat_Int, Int.reduceToNat, Bool.true_xor, Bool.false_xor, Bool.xor_true, Bool.xor_false, Nat.reduceAdd, Nat.reduceBEq, Nat.reduceLeDiff, Nat.reduceLT, Nat.reduceMul, Nat.reduceSub, Int.reduceEq, Int.reduceLT, Int.reduceLE, Int.reduceNeg, h38, h48, h50])
  all_goals
    clear h38 h48 h50 a38 a48 a50
    refine congrArg some (congrArg (SV.int .i64) ?_)
    simp only [chkI, okI]
    generalize (N.any fun p => !pointI p.fst p.snd) = A at *
    generalize (P.any fun p => !powI p) = B at *
    generalize W.any badW = C at *
    generalize N.length = ln at *
    generalize P.length = lp at *
    generalize W.length = lw at *
    generalize hq : okB ln lp lw A B C ex no th = q
    simp only [okB, rightI] at hq
    cases q <;> simp only [cond_true, cond_false] <;> grind
theorem any_at {A : Type} {q : A → Bool} {l : List A} {i : Nat} {a : A} (h : l[i]? = some a) (hp : q a = true) : l.any q = true := List.any_eq_true.2 ⟨a, List.mem_of_getElem? h, hp⟩
theorem any_no {A : Type} {q : A → Bool} {l : List A} (h : ∀ (i : Nat) a, l[i]? = some a → q a = false) : l.any q = false := by
  rw [List.any_eq_false]
  intro a ha
  obtain ⟨i, hi⟩ := List.mem_iff_getElem?.1 ha
  rw [h i a hi]; simp
theorem get_some {A : Type} {l : List A} {i : Nat} (h : i < l.length) : ∃ a, l[i]? = some a := ⟨l[i], List.getElem?_eq_getElem h⟩
theorem chk_no {N : List (Int × Int)} {P : List Int} {W : List Wl} {ex no th : Int} (h : okI N P W ex no th = false) : chkI N P W ex no th = 1 := by simp only [chkI, h, cond_false]
theorem chk_yes {N : List (Int × Int)} {P : List Int} {W : List Wl} {ex no th : Int} (h : okI N P W ex no th = true) : chkI N P W ex no th = 0 := by simp only [chkI, h, cond_true]
theorem ok_badN {N : List (Int × Int)} {P : List Int} {W : List Wl} {ex no th : Int} {i : Nat} {p : Int × Int} (h : N[i]? = some p) (hp : pointI p.1 p.2 = false) : okI N P W ex no th = false := by
  have : (N.any fun p => !pointI p.1 p.2) = true := any_at h (by simp [hp])
  simp only [okI, this, okB, Bool.not_true, Bool.and_false, Bool.false_and]
theorem ok_badP {N : List (Int × Int)} {P : List Int} {W : List Wl} {ex no th : Int} {i : Nat} {p : Int} (h : P[i]? = some p) (hp : powI p = false) : okI N P W ex no th = false := by
  have : (P.any fun p => !powI p) = true := any_at h (by simp [hp])
  simp only [okI, this, okB, Bool.not_true, Bool.and_false, Bool.false_and]
theorem ok_badW {N : List (Int × Int)} {P : List Int} {W : List Wl} {ex no th : Int} {i : Nat} {p : Wl} (h : W[i]? = some p) (hp : badW p = true) : okI N P W ex no th = false := by
  have : W.any badW = true := any_at h hp
  simp only [okI, this, okB, Bool.not_true, Bool.and_false, Bool.false_and]
theorem s43 (n : Nat) (H : Heap) (N P W f1 f2 f3 ex no th) (hW : W.length ≤ maxLen) (hN : N.length ≤ maxLen) : call1 T (n + 6) (.fn 43) [st N P W f1 f2 f3 ex no th] H = some (.int .i64 (chkI N P W ex no th), H) := by
  refine call_pure e43 (by rfl) ?_
  simp only [c43, heap0, go_sem, Int.cast_ofNat_Int, Int.reduceToNat, Bool.true_xor, Bool.false_xor, Bool.xor_true, Bool.xor_false, Nat.reduceAdd, Nat.reduceBEq, Nat.reduceLeDiff, Nat.reduceLT, Nat.reduceMul, Nat.reduceSub, Int.reduceEq, Int.reduceLT, Int.reduceLE, Int.reduceNeg, s60]
  repeat' (with_reducible refine fork_split (fun _ => ?_) (fun _ => ?_) <;> simp only [*, go_sem, Int.cast_ofNat_Int, Int.reduceToNat, Bool.true_xor, Bool.false_xor, Bool.xor_true, Bool.xor_false, Nat.reduceAdd, Nat.reduceBEq, Nat.reduceLeDiff, Nat.reduceLT, Nat.reduceMul, Nat.reduceSub, Int.reduceEq, Int.reduceLT, Int.reduceLE, Int.reduceNeg, s60])
  all_goals try (
    with_reducible refine congrArg some (congrArg (SV.int .i64) ?_)
    simp only [chkI, okI]
    generalize (N.any fun p => !pointI p.fst p.snd) = A at *
    generalize (P.any fun p => !powI p) = B at *
    generalize W.any badW = C at *
    generalize N.length = ln at *
    generalize P.length = lp at *
    generalize W.length = lw at *
    generalize hq : okB ln lp lw A B C ex no th = q
    simp only [okB, rightI] at *
    cases q <;> simp only [cond_true, cond_false] <;> grind)
  all_goals
    refine loop_rule (fun i => ([(1, .ptr 0 0 0 0), (3, .int .i64 N.length), (4, .int .i64 i)], ⟨[.box [.lst 2 (ptsS N) f1, .lst 1 (intsS P) f2, .lst 5 (wlsS W) f3, .int .i64 ex, .int .i64 no, .int .i64 th]], [], 0⟩))
      (fun i => ∀ (j : Nat), j < i → (∀ p, N[j]? = some p → pointI p.1 p.2 = true) ∧ (∀ p, P[j]? = some p → powI p = true)) N.length ?_ (fun j h => by omega) ?_
    · simp only [go_sem, Int.cast_ofNat_Int, Int.reduceToNat, Bool.true_xor, Bool.false_xor, Bool.xor_true, Bool.xor_false, Nat.reduceAdd, Nat.reduceBEq, Nat.reduceLeDiff, Nat.reduceLT, Nat.reduceMul, Nat.reduceSub, Int.reduceEq, Int.reduceLT, Int.reduceLE, Int.reduceNeg]
      rfl
    · intro i hi hI
      have hlen : P.length = N.length := by simp_all; omega
      rcases Nat.lt_or_ge i N.length with hlt | hge
      · obtain ⟨p, hp⟩ := get_some hlt
        obtain ⟨q, hq⟩ := get_some (l := P) (i := i) (by omega)
        have hlt2 : i < P.length := by omega
        have hs := w64_succ hlt hN
        cases h1 : pointI p.1 p.2 with
        | false => simp only [go_sem, Int.cast_ofNat_Int, Int.reduceToNat, Bool.true_xor, Bool.false_xor, Bool.xor_true, Bool.xor_false, Nat.reduceAdd, Nat.reduceBEq, Nat.reduceLeDiff, Nat.reduceLT, Nat.reduceMul, Nat.reduceSub, Int.reduceEq, Int.reduceLT, Int.reduceLE, Int.reduceNeg, hlt, hp, s61, h1, chk_no (ok_badN hp h1)]
        | true =>
          cases h2 : powI q with
          | false => simp only [go_sem, Int.cast_ofNat_Int, Int.reduceToNat, Bool.true_xor, Bool.false_xor, Bool.xor_true, Bool.xor_false, Nat.reduceAdd, Nat.reduceBEq, Nat.reduceLeDiff, Nat.reduceLT, Nat.reduceMul, Nat.reduceSub, Int.reduceEq, Int.reduceLT, Int.reduceLE, Int.reduceNeg, hlt, hlt2, hp, hq, s61, s62, h1, h2, chk_no (ok_badP hq h2)]
          | true =>
            simp only [go_sem, Int.cast_ofNat_Int, Int.reduceToNat, Bool.true_xor, Bool.false_xor, Bool.xor_true, Bool.xor_false, Nat.reduceAdd, Nat.reduceBEq, Nat.reduceLeDiff, Nat.reduceLT, Nat.reduceMul, Nat.reduceSub, Int.reduceEq, Int.reduceLT, Int.reduceLE, Int.reduceNeg, hlt, hlt2, hp, hq, s61, s62, h1, h2, hs]
            refine ⟨trivial, rfl, fun j hj => ?_⟩
            rcases Nat.lt_or_ge j i with h3 | h3
            · exact hI j h3
            · have : j = i := by omega
              subst this
              exact ⟨fun p' hp' => by rw [hp] at hp'; cases hp'; exact h1, fun p' hp' => by rw [hq] at hp'; cases hp'; exact h2⟩
      · have hlt : ¬ i < N.length := by omega
        simp only [go_sem, Int.cast_ofNat_Int, Int.reduceToNat, Bool.true_xor, Bool.false_xor, Bool.xor_true, Bool.xor_false, Nat.reduceAdd, Nat.reduceBEq, Nat.reduceLeDiff, Nat.reduceLT, Nat.reduceMul, Nat.reduceSub, Int.reduceEq, Int.reduceLT, Int.reduceLE, Int.reduceNeg, hlt]
        refine loop_rule (fun i => ([(1, .ptr 0 0 0 0), (5, .int .i64 i)], ⟨[.box [.lst 2 (ptsS N) f1, .lst 1 (intsS P) f2, .lst 5 (wlsS W) f3, .int .i64 ex, .int .i64 no, .int .i64 th]], [], 0⟩))
          (fun i => ∀ (j : Nat), j < i → (∀ p, W[j]? = some p → badW p = false)) W.length ?_ (fun j h => by omega) ?_
        · simp only [go_sem, Int.cast_ofNat_Int, Int.reduceToNat, Bool.true_xor, Bool.false_xor, Bool.xor_true, Bool.xor_false, Nat.reduceAdd, Nat.reduceBEq, Nat.reduceLeDiff, Nat.reduceLT, Nat.reduceMul, Nat.reduceSub, Int.reduceEq, Int.reduceLT, Int.reduceLE, Int.reduceNeg]
          rfl
        · intro k hk hK
          rcases Nat.lt_or_ge k W.length with hlt3 | hge3
          · obtain ⟨w, hw⟩ := get_some hlt3
            have hs := w64_succ hlt3 hW
            cases h1 : badW w with
            | true =>
              have hb := h1
              simp only [badW] at hb
              have hch := chk_no (N := N) (P := P) (ex := ex) (no := no) (th := th) (ok_badW hw h1)
              simp only [go_sem, Int.cast_ofNat_Int, Int.reduceToNat, Bool.true_xor, Bool.false_xor, Bool.xor_true, Bool.xor_false, Nat.reduceAdd, Nat.reduceBEq, Nat.reduceLeDiff, Nat.reduceLT, Nat.reduceMul, Nat.reduceSub, Int.reduceEq, Int.reduceLT, Int.reduceLE, Int.reduceNeg, hlt3, hw, s61, hch]
              repeat' (with_reducible refine post_fork (fun _ => ?_) (fun _ => ?_) <;> simp only [*, go_sem, Int.cast_ofNat_Int, Int.reduceToNat, Bool.true_xor, Bool.false_xor, Bool.xor_true, Bool.xor_false, Nat.reduceAdd, Nat.reduceBEq, Nat.reduceLeDiff, Nat.reduceLT, Nat.reduceMul, Nat.reduceSub, Int.reduceEq, Int.reduceLT, Int.reduceLE, Int.reduceNeg, s61])
              all_goals (exfalso; simp_all)
            | false =>
              have hb := h1
              simp only [badW, Bool.or_eq_false_iff] at hb
              obtain ⟨⟨⟨b1, b2⟩, b3⟩, b4⟩ := hb
              simp only [go_sem, Int.cast_ofNat_Int, Int.reduceToNat, Bool.true_xor, Bool.false_xor, Bool.xor_true, Bool.xor_false, Nat.reduceAdd, Nat.reduceBEq, Nat.reduceLeDiff, Nat.reduceLT, Nat.reduceMul, Nat.reduceSub, Int.reduceEq, Int.reduceLT, Int.reduceLE, Int.reduceNeg, hlt3, hw, s61, b1, b2, b3, b4, hs]
              refine ⟨trivial, rfl, fun j hj => ?_⟩
              rcases Nat.lt_or_ge j k with h3 | h3
              · exact hK j h3
              · have : j = k := by omega
                subst this
                exact fun p' hp' => by rw [hw] at hp'; cases hp'; exact h1
          · have hlt3 : ¬ k < W.length := by omega
            have hA : (N.any fun p => !pointI p.1 p.2) = false := any_no (fun j p hj => by
              have := (hI j (by have := (List.getElem?_eq_some_iff.1 hj).1; omega)).1 p hj
              simp [this])
            have hB : (P.any fun p => !powI p) = false := any_no (fun j p hj => by
              have := (hI j (by have := (List.getElem?_eq_some_iff.1 hj).1; omega)).2 p hj
              simp [this])
            have hC : W.any badW = false := any_no (fun j p hj => hK j (by have := (List.getElem?_eq_some_iff.1 hj).1; omega) p hj)
            have hok : okI N P W ex no th = true := by
              simp only [okI, hA, hB, hC, okB, rightI] at *
              simp_all
              omega
            simp only [go_sem, Int.cast_ofNat_Int, Int.reduceToNat, Bool.true_xor, Bool.false_xor, Bool.xor_true, Bool.xor_false, Nat.reduceAdd, Nat.reduceBEq, Nat.reduceLeDiff, Nat.reduceLT, Nat.reduceMul, Nat.reduceSub, Int.reduceEq, Int.reduceLT, Int.reduceLE, Int.reduceNeg, hlt3, chk_yes hok]
@[go_sem] theorem chk0 (N P W ex no th) : decide (chkI N P W ex no th = 0) = okI N P W ex no th := by
  unfold chkI; cases okI N P W ex no th <;> rfl
def argI (a b p c d : Int) : Bool := pointI a b && pointI c d && powI p
def AtV (v : Int) (ok arg : Bool) : Int := bif ok && arg then v else 0
def AtE (ok arg : Bool) (e : Int) : Int := bif ok then (bif arg then 0 else e) else 1
theorem s71 (n : Nat) (H : Heap) (N P W f1 f2 f3 ex no th a b p c d) (hN : N.length ≤ maxLen) (hP : P.length ≤ maxLen) (hW : W.length ≤ maxLen) :
    call1 T (n + 9) (.fn 71) [st N P W f1 f2 f3 ex no th, pt a b, .int .i64 p, pt c d] H = some (.tup [.int .i64 (AtV (atI W ex a b p c d) (okI N P W ex no th) (argI a b p c d)), .int .i64 (AtE (okI N P W ex no th) (argI a b p c d) 2)], H) := by
  refine call_pure e71 (by rfl) ?_
  have h23 := fun H => s58 (n + 2) H N P W f1 f2 f3 ex no th hN hP hW
  have h46 := fun H => s94 n H N P W f1 f2 f3 ex no th a b p c d hW
  simp only [c71, heap0, go_sem, Int.cast_ofNat_Int, Int.reduceToNat, Bool.true_xor, Bool.false_xor, Bool.xor_true, Bool.xor_false, Nat.reduceAdd, Nat.reduceBEq, Nat.reduceLeDiff, Nat.reduceLT, Nat.reduceMul, Nat.reduceSub, Int.reduceEq, Int.reduceLT, Int.reduceLE, Int.reduceNeg, h23, s74, s78, h46]
  repeat' (with_reducible refine fork_split (fun _ => ?_) (fun _ => ?_) <;> simp only [*, go_sem, Int.cast_ofNat_Int, Int.reduceToNat, Bool.true_xor, Bool.false_xor, Bool.xor_true, Bool.xor_false, Nat.reduceAdd, Nat.reduceBEq, Nat.reduceLeDiff, Nat.reduceLT, Nat.reduceMul, Nat.reduceSub, Int.reduceEq, Int.reduceLT, Int.reduceLE, Int.reduceNeg, h23, s74, s78, h46])
  all_goals (clear h23 h46; simp_all [AtV, AtE, argI])
theorem s52 (n : Nat) (H : Heap) (N P W f1 f2 f3 ex no th a b p c d) (hN : N.length ≤ maxLen) (hW : W.length ≤ maxLen) :
    call1 T (n + 7) (.fn 52) [st N P W f1 f2 f3 ex no th, pt a b, .int .i64 p, pt c d] H = some (.tup [.int .i64 (AtV (atR W ex a b p c d) (okI N P W ex no th) (argI a b p c d)), .int .i64 (AtE (okI N P W ex no th) (argI a b p c d) 2)], H) := by
  refine call_pure e52 (by rfl) ?_
  have h29 := fun H => s43 n H N P W f1 f2 f3 ex no th hW hN
  have h54 := fun H => s72 (n + 3) H N P W f1 f2 f3 ex no th a b p c d hW
  simp only [c52, heap0, go_sem, Int.cast_ofNat_Int, Int.reduceToNat, Bool.true_xor, Bool.false_xor, Bool.xor_true, Bool.xor_false, Nat.reduceAdd, Nat.reduceBEq, Nat.reduceLeDiff, Nat.reduceLT, Nat.reduceMul, Nat.reduceSub, Int.reduceEq, Int.reduceLT, Int.reduceLE, Int.reduceNeg, h29, s61, s62, h54]
  repeat' (with_reducible refine fork_split (fun _ => ?_) (fun _ => ?_) <;> simp only [*, go_sem, Int.cast_ofNat_Int, Int.reduceToNat, Bool.true_xor, Bool.false_xor, Bool.xor_true, Bool.xor_false, Nat.reduceAdd, Nat.reduceBEq, Nat.reduceLeDiff, Nat.reduceLT, Nat.reduceMul, Nat.reduceSub, Int.reduceEq, Int.reduceLT, Int.reduceLE, Int.reduceNeg, h29, s61, s62, h54])
  all_goals (clear h29 h54; simp_all [AtV, AtE, argI])
/-- The numbers of a site's nodes. -/
def inI (N : List (Int × Int)) (x y : Int) : Bool := decide (0 ≤ x) && decide (x < N.length) && decide (0 ≤ y) && decide (y < N.length)
def nd (N : List (Int × Int)) (i : Nat) : Int × Int := N.getD i (0, 0)
/-- What 'at' gives between two nodes. -/
def btw (at1 : Int → Int → Int → Int → Int → Int) (N : List (Int × Int)) (P : List Int) (x y : Int) : Int :=
  bif decide (x = y) then 0 else at1 (nd N x.toNat).1 (nd N x.toNat).2 (P.getD x.toNat 0) (nd N y.toNat).1 (nd N y.toNat).2
theorem s104 (n : Nat) (H : Heap) (N : List (Int × Int)) (P : List Int) (W f1 f2 f3 ex no th) (x y : Nat) (hx : x < N.length) (hy : y < N.length) (hP : P.length = N.length) (hW : W.length ≤ maxLen) :
    call1 T (n + 9) (.fn 104) [st N P W f1 f2 f3 ex no th, .int .i64 x, .int .i64 y] H = some (.int .i64 (btw (atI W ex) N P x y), H) := by
  refine call_pure e104 (by rfl) ?_
  obtain ⟨p, hp⟩ := get_some hx
  obtain ⟨q, hq⟩ := get_some hy
  obtain ⟨r, hr⟩ := get_some (l := P) (i := x) (by omega)
  have hx' : x < P.length := by omega
  have h46 := fun H => s94 n H N P W f1 f2 f3 ex no th p.1 p.2 r q.1 q.2 hW
  simp only [c104, heap0, go_sem, Int.cast_ofNat_Int, Int.reduceToNat, Bool.true_xor, Bool.false_xor, Bool.xor_true, Bool.xor_false, Nat.reduceAdd, Nat.reduceBEq, Nat.reduceLeDiff, Nat.reduceLT, Nat.reduceMul, Nat.reduceSub, Int.reduceEq, Int.reduceLT, Int.reduceLE, Int.reduceNeg, hx, hy, hx', hp, hq, hr, h46]
  repeat' (with_reducible refine fork_split (fun _ => ?_) (fun _ => ?_) <;> simp only [*, go_sem, Int.cast_ofNat_Int, Int.reduceToNat, Bool.true_xor, Bool.false_xor, Bool.xor_true, Bool.xor_false, Nat.reduceAdd, Nat.reduceBEq, Nat.reduceLeDiff, Nat.reduceLT, Nat.reduceMul, Nat.reduceSub, Int.reduceEq, Int.reduceLT, Int.reduceLE, Int.reduceNeg, hx, hy, hx', hp, hq, hr, h46])
  all_goals (clear h46; simp_all [btw, nd, List.getD_eq_getElem?_getD])
theorem ok_len {N : List (Int × Int)} {P : List Int} {W : List Wl} {ex no th : Int} (h : okI N P W ex no th = true) : P.length = N.length ∧ N.length ≤ 32 ∧ W.length ≤ 32 ∧ 2 ≤ N.length := by
  simp only [okI, okB, Bool.and_eq_true, decide_eq_true_eq] at h
  omega
theorem inI_iff {N : List (Int × Int)} {x y : Int} : inI N x y = true ↔ (0 ≤ x ∧ x < N.length) ∧ 0 ≤ y ∧ y < N.length := by
  simp only [inI, Bool.and_eq_true, decide_eq_true_eq, and_assoc]
theorem s104' (n : Nat) (H : Heap) (N : List (Int × Int)) (P : List Int) (W f1 f2 f3 ex no th) (x y : Int) (h : inI N x y = true) (hP : P.length = N.length) (hW : W.length ≤ maxLen) :
    call1 T (n + 9) (.fn 104) [st N P W f1 f2 f3 ex no th, .int .i64 x, .int .i64 y] H = some (.int .i64 (btw (atI W ex) N P x y), H) := by
  rw [inI_iff] at h
  obtain ⟨⟨h1, h2⟩, h3, h4⟩ := h
  obtain ⟨x', rfl⟩ := Int.eq_ofNat_of_zero_le h1
  obtain ⟨y', rfl⟩ := Int.eq_ofNat_of_zero_le h3
  exact s104 n H N P W f1 f2 f3 ex no th x' y' (by omega) (by omega) hP hW
theorem s87 (n : Nat) (H : Heap) (N : List (Int × Int)) (P : List Int) (W f1 f2 f3 ex no th) (x y : Int) (hN : N.length ≤ maxLen) (hP : P.length ≤ maxLen) (hW : W.length ≤ maxLen) :
    call1 T (n + 10) (.fn 87) [st N P W f1 f2 f3 ex no th, .int .i64 x, .int .i64 y] H = some (.tup [.int .i64 (AtV (btw (atI W ex) N P x y) (okI N P W ex no th) (inI N x y)), .int .i64 (AtE (okI N P W ex no th) (inI N x y) 7)], H) := by
  refine call_pure e87 (by rfl) ?_
  have h23 := fun H => s58 (n + 3) H N P W f1 f2 f3 ex no th hN hP hW
  cases hok : okI N P W ex no th with
  | false =>
    simp only [c87, heap0, go_sem, Int.cast_ofNat_Int, Int.reduceToNat, Bool.true_xor, Bool.false_xor, Bool.xor_true, Bool.xor_false, Nat.reduceAdd, Nat.reduceBEq, Nat.reduceLeDiff, Nat.reduceLT, Nat.reduceMul, Nat.reduceSub, Int.reduceEq, Int.reduceLT, Int.reduceLE, Int.reduceNeg, h23, hok, AtV, AtE]
  | true =>
    cases hin : inI N x y with
    | false =>
      simp only [c87, heap0, go_sem, Int.cast_ofNat_Int, Int.reduceToNat, Bool.true_xor, Bool.false_xor, Bool.xor_true, Bool.xor_false, Nat.reduceAdd, Nat.reduceBEq, Nat.reduceLeDiff, Nat.reduceLT, Nat.reduceMul, Nat.reduceSub, Int.reduceEq, Int.reduceLT, Int.reduceLE, Int.reduceNeg, h23, hok, AtV, AtE]
      repeat' (with_reducible refine fork_split (fun _ => ?_) (fun _ => ?_) <;> simp only [*, go_sem, Int.cast_ofNat_Int, Int.reduceToNat, Bool.true_xor, Bool.false_xor, Bool.xor_true, Bool.xor_false, Nat.reduceAdd, Nat.reduceBEq, Nat.reduceLeDiff, Nat.reduceLT, Nat.reduceMul, Nat.reduceSub, Int.reduceEq, Int.reduceLT, Int.reduceLE, Int.reduceNeg])
      all_goals (exfalso; clear h23; rw [Bool.eq_false_iff, ne_eq, inI_iff] at hin; simp only [decide_eq_false_iff_not] at *; omega)
    | true =>
      have h55 := fun H => s104' n H N P W f1 f2 f3 ex no th x y hin (ok_len hok).1 hW
      rw [inI_iff] at hin
      have m1 : decide (min x y < 0) = false := by rw [decide_eq_false_iff_not]; omega
      have m2 : decide ((N.length : Int) ≤ max x y) = false := by rw [decide_eq_false_iff_not]; omega
      simp only [c87, heap0, go_sem, Int.cast_ofNat_Int, Int.reduceToNat, Bool.true_xor, Bool.false_xor, Bool.xor_true, Bool.xor_false, Nat.reduceAdd, Nat.reduceBEq, Nat.reduceLeDiff, Nat.reduceLT, Nat.reduceMul, Nat.reduceSub, Int.reduceEq, Int.reduceLT, Int.reduceLE, Int.reduceNeg, h23, hok, m1, m2, h55, AtV, AtE]
theorem s54 (n : Nat) (H : Heap) (N : List (Int × Int)) (P : List Int) (W f1 f2 f3 ex no th) (x y : Int) (hN : N.length ≤ maxLen) (hW : W.length ≤ maxLen) :
    call1 T (n + 7) (.fn 54) [st N P W f1 f2 f3 ex no th, .int .i64 x, .int .i64 y] H = some (.tup [.int .i64 (AtV (btw (atR W ex) N P x y) (okI N P W ex no th) (inI N x y)), .int .i64 (AtE (okI N P W ex no th) (inI N x y) 7)], H) := by
  refine call_pure e54 (by rfl) ?_
  have h29 := fun H => s43 n H N P W f1 f2 f3 ex no th hW hN
  cases hok : okI N P W ex no th with
  | false =>
    simp only [c54, heap0, go_sem, Int.cast_ofNat_Int, Int.reduceToNat, Bool.true_xor, Bool.false_xor, Bool.xor_true, Bool.xor_false, Nat.reduceAdd, Nat.reduceBEq, Nat.reduceLeDiff, Nat.reduceLT, Nat.reduceMul, Nat.reduceSub, Int.reduceEq, Int.reduceLT, Int.reduceLE, Int.reduceNeg, h29, hok, AtV, AtE]
  | true =>
    cases hin : inI N x y with
    | false =>
      simp only [c54, heap0, go_sem, Int.cast_ofNat_Int, Int.reduceToNat, Bool.true_xor, Bool.false_xor, Bool.xor_true, Bool.xor_false, Nat.reduceAdd, Nat.reduceBEq, Nat.reduceLeDiff, Nat.reduceLT, Nat.reduceMul, Nat.reduceSub, Int.reduceEq, Int.reduceLT, Int.reduceLE, Int.reduceNeg, h29, hok, AtV, AtE]
      repeat' (with_reducible refine fork_split (fun _ => ?_) (fun _ => ?_) <;> simp only [*, go_sem, Int.cast_ofNat_Int, Int.reduceToNat, Bool.true_xor, Bool.false_xor, Bool.xor_true, Bool.xor_false, Nat.reduceAdd, Nat.reduceBEq, Nat.reduceLeDiff, Nat.reduceLT, Nat.reduceMul, Nat.reduceSub, Int.reduceEq, Int.reduceLT, Int.reduceLE, Int.reduceNeg])
      all_goals (exfalso; clear h29; rw [Bool.eq_false_iff, ne_eq, inI_iff] at hin; simp only [decide_eq_false_iff_not] at *; omega)
    | true =>
      rw [inI_iff] at hin
      obtain ⟨⟨h1, h2⟩, h3, h4⟩ := hin
      obtain ⟨x', rfl⟩ := Int.eq_ofNat_of_zero_le h1
      obtain ⟨y', rfl⟩ := Int.eq_ofNat_of_zero_le h3
      have hl := (ok_len hok).1
      have hx : x' < N.length := by omega
      have hy : y' < N.length := by omega
      have hx' : x' < P.length := by omega
      have n1 : decide ((x' : Int) < 0) = false := by rw [decide_eq_false_iff_not]; omega
      have n2 : decide ((y' : Int) < 0) = false := by rw [decide_eq_false_iff_not]; omega
      have n3 : decide ((N.length : Int) ≤ x') = false := by rw [decide_eq_false_iff_not]; omega
      have n4 : decide ((N.length : Int) ≤ y') = false := by rw [decide_eq_false_iff_not]; omega
      obtain ⟨p, hp⟩ := get_some hx
      obtain ⟨q, hq⟩ := get_some hy
      obtain ⟨r, hr⟩ := get_some hx'
      have h54 := fun H => s72 (n + 3) H N P W f1 f2 f3 ex no th p.1 p.2 r q.1 q.2 hW
      simp only [c54, heap0, go_sem, Int.cast_ofNat_Int, Int.reduceToNat, Bool.true_xor, Bool.false_xor, Bool.xor_true, Bool.xor_false, Nat.reduceAdd, Nat.reduceBEq, Nat.reduceLeDiff, Nat.reduceLT, Nat.reduceMul, Nat.reduceSub, Int.reduceEq, Int.reduceLT, Int.reduceLE, Int.reduceNeg, h29, hok, n1, n2, n3, n4, AtV, AtE]
      repeat' (with_reducible refine fork_split (fun _ => ?_) (fun _ => ?_) <;> simp only [*, go_sem, Int.cast_ofNat_Int, Int.reduceToNat, Bool.true_xor, Bool.false_xor, Bool.xor_true, Bool.xor_false, Nat.reduceAdd, Nat.reduceBEq, Nat.reduceLeDiff, Nat.reduceLT, Nat.reduceMul, Nat.reduceSub, Int.reduceEq, Int.reduceLT, Int.reduceLE, Int.reduceNeg, hx, hy, hx', hp, hq, hr, h54])
      all_goals (clear h54 h29; simp_all [btw, nd, List.getD_eq_getElem?_getD])
theorem pow_iff {p : Int} : powI p = true ↔ 0 ≤ p ∧ p ≤ 68719476736 := by simp only [powI, Bool.and_eq_true, decide_eq_true_eq]
theorem quo_le {p m : Int} (hp : powI p = true) (hm : 100 ≤ m) : powI (w64 ((w64 (p * 100)).tdiv m)) = true ∧ w64 ((w64 (p * 100)).tdiv m) = p * 100 / m := by
  rw [pow_iff] at hp
  have e1 : w64 (p * 100) = p * 100 := w64_id (by omega) (by omega)
  have e2 : (p * 100).tdiv m = p * 100 / m := Int.tdiv_eq_ediv_of_nonneg (by omega)
  have h0 : 0 ≤ p * 100 / m := Int.ediv_nonneg (by omega) (by omega)
  have h1 : p * 100 / m ≤ p := Int.ediv_le_of_le_mul (by omega) (Int.mul_le_mul_of_nonneg_left hm hp.1)
  have e3 : w64 (p * 100 / m) = p * 100 / m := w64_id (by omega) (by omega)
  rw [e1, e2, e3]
  exact ⟨pow_iff.2 (by omega), rfl⟩
theorem mI_ge (a b c d : Int) : 100 ≤ mI a b c d := Int.le_max_right _ _
theorem start_pow {ex a b p c d : Int} (hp : powI p = true) : powI (startI ex a b p c d) = true := by
  have h1 := (quo_le hp (mI_ge a b c d)).1
  have h2 := (quo_le h1 (mI_ge a b c d)).1
  simp only [startI]
  split
  · exact h2
  · exact h1
theorem scale_le {p f : Int} (hp : powI p = true) (h0 : 0 ≤ f) (h1 : f ≤ 1000) : w64 ((w64 (p * f)).tdiv 1000) = p * f / 1000 ∧ 0 ≤ p * f / 1000 ∧ p * f / 1000 ≤ p := by
  rw [pow_iff] at hp
  have k0 : 0 ≤ p * f := Int.mul_nonneg hp.1 h0
  have k1 : p * f ≤ p * 1000 := Int.mul_le_mul_of_nonneg_left h1 hp.1
  have e1 : w64 (p * f) = p * f := w64_id (by omega) (by omega)
  rw [e1, Int.tdiv_eq_ediv_of_nonneg k0]
  have e3 : w64 (p * f / 1000) = p * f / 1000 := w64_id (by omega) (by omega)
  rw [e3]
  omega
theorem badW_iff {w : Wl} : badW w = false ↔ pointI w.a w.b = true ∧ pointI w.c w.d = true ∧ 0 ≤ w.f ∧ w.f ≤ 1000 := by
  simp only [badW, Bool.or_eq_false_iff, Bool.not_eq_false', decide_eq_false_iff_not, and_assoc, Int.not_lt]
theorem point_near {a b : Int} (h : pointI a b = true) : Near a ∧ Near b := by
  simp only [pointI, Bool.and_eq_true, decide_eq_true_eq] at h
  unfold Near
  omega
theorem step_eq {a b c d p : Int} {w : Wl} (h1 : pointI a b = true) (h2 : pointI c d = true) (hp : powI p = true) (hw : badW w = false) : stepI a b c d p w = stepR a b c d p w ∧ powI (stepR a b c d p w) = true ∧ stepR a b c d p w ≤ p := by
  obtain ⟨k1, k2, k3, k4⟩ := badW_iff.1 hw
  have hc := cross_eq (point_near h1).1 (point_near h1).2 (point_near h2).1 (point_near h2).2 (point_near k1).1 (point_near k1).2 (point_near k2).1 (point_near k2).2
  have hs := scale_le hp k3 k4
  have hok : scOk p w.f = true := by simp only [scOk, hp, Bool.true_and, Bool.and_eq_true, decide_eq_true_eq]; exact ⟨k3, k4⟩
  unfold stepI stepR
  rw [hc]
  split
  · simp only [scV, hok, if_true]
    rw [hs.1]
    rw [pow_iff] at hp ⊢
    exact ⟨trivial, by omega, by omega⟩
  · exact ⟨rfl, hp, Int.le_refl _⟩
theorem fold_eq {a b c d : Int} (h1 : pointI a b = true) (h2 : pointI c d = true) : ∀ (W : List Wl) (p : Int), powI p = true → W.any badW = false → W.foldl (stepI a b c d) p = W.foldl (stepR a b c d) p ∧ powI (W.foldl (stepR a b c d) p) = true ∧ W.foldl (stepR a b c d) p ≤ p
  | [], p, hp, _ => ⟨rfl, hp, Int.le_refl _⟩
  | w :: W, p, hp, hW => by
    simp only [List.any_cons, Bool.or_eq_false_iff] at hW
    obtain ⟨e1, e2, e3⟩ := step_eq h1 h2 hp hW.1
    obtain ⟨f1, f2, f3⟩ := fold_eq h1 h2 W _ e2 hW.2
    simp only [List.foldl_cons, e1]
    exact ⟨f1, f2, by omega⟩
theorem ok_walls {N : List (Int × Int)} {P : List Int} {W : List Wl} {ex no th : Int} (h : okI N P W ex no th = true) : W.any badW = false ∧ (∀ p ∈ N, pointI p.1 p.2 = true) ∧ (∀ p ∈ P, powI p = true) := by
  simp only [okI, okB, Bool.and_eq_true, Bool.not_eq_true'] at h
  obtain ⟨⟨⟨⟨⟨⟨⟨⟨_, _⟩, h1⟩, _⟩, h2⟩, _⟩, h3⟩, _⟩, _⟩ := h
  refine ⟨h3, fun p hp => ?_, fun p hp => ?_⟩
  · have := List.any_eq_false.1 h1 p hp; simpa using this
  · have := List.any_eq_false.1 h2 p hp; simpa using this
theorem at_eq {N : List (Int × Int)} {P : List Int} {W : List Wl} {ex no th a b p c d : Int} (h : okI N P W ex no th = true) (ha : argI a b p c d = true) : atI W ex a b p c d = atR W ex a b p c d ∧ powI (atR W ex a b p c d) = true := by
  simp only [argI, Bool.and_eq_true] at ha
  obtain ⟨⟨h1, h2⟩, h3⟩ := ha
  have := fold_eq h1 h2 W _ (start_pow (ex := ex) (a := a) (b := b) (c := c) (d := d) h3) (ok_walls h).1
  exact ⟨this.1, this.2.1⟩
theorem AtV_eq (N : List (Int × Int)) (P : List Int) (W : List Wl) (ex no th a b p c d : Int) : AtV (atI W ex a b p c d) (okI N P W ex no th) (argI a b p c d) = AtV (atR W ex a b p c d) (okI N P W ex no th) (argI a b p c d) := by
  cases h : okI N P W ex no th with
  | false => rfl
  | true =>
    cases h' : argI a b p c d with
    | false => rfl
    | true => simp only [AtV, Bool.true_and, cond_true, (at_eq h h').1]
theorem btw_eq {N : List (Int × Int)} {P : List Int} {W : List Wl} {ex no th x y : Int} (h : okI N P W ex no th = true) (hin : inI N x y = true) : btw (atI W ex) N P x y = btw (atR W ex) N P x y ∧ powI (btw (atR W ex) N P x y) = true := by
  have hl := (ok_len h).1
  have hw := ok_walls h
  rw [inI_iff] at hin
  obtain ⟨p, hp⟩ := get_some (l := N) (i := x.toNat) (by omega)
  obtain ⟨q, hq⟩ := get_some (l := N) (i := y.toNat) (by omega)
  obtain ⟨r, hr⟩ := get_some (l := P) (i := x.toNat) (by omega)
  have harg : argI p.1 p.2 r q.1 q.2 = true := by
    simp only [argI, Bool.and_eq_true]
    exact ⟨⟨hw.2.1 _ (List.mem_of_getElem? hp), hw.2.1 _ (List.mem_of_getElem? hq)⟩, hw.2.2 _ (List.mem_of_getElem? hr)⟩
  have he := at_eq h harg
  simp only [btw, nd, List.getD_eq_getElem?_getD, hp, hq, hr, Option.getD_some]
  cases decide (x = y) with
  | true => exact ⟨rfl, rfl⟩
  | false => exact he
theorem BtV_eq (N : List (Int × Int)) (P : List Int) (W : List Wl) (ex no th x y : Int) : AtV (btw (atI W ex) N P x y) (okI N P W ex no th) (inI N x y) = AtV (btw (atR W ex) N P x y) (okI N P W ex no th) (inI N x y) := by
  cases h : okI N P W ex no th with
  | false => rfl
  | true =>
    cases h' : inI N x y with
    | false => rfl
    | true => simp only [AtV, Bool.true_and, cond_true, (btw_eq h h').1]
end G
end Go.Sh
namespace Go.Sh
set_option linter.unusedSectionVars false
set_option linter.unnecessarySimpa false
set_option linter.unusedVariables false
set_option linter.unusedSimpArgs false
set_option maxRecDepth 100000
set_option maxHeartbeats 4000000
namespace U
theorem x63 : T 100 = some (stdIdxF true 7) := e100
theorem x64 : T 101 = some (stdIdxF true 6) := e101
theorem x33 : T 81 = some (stdCF 100) := e81
theorem x36 : T 84 = some (stdCF 101) := e84
def chanB (c : Int) : Bool := decide (0 ≤ c) && decide (c < 16)
theorem s66 (n : Nat) (H : Heap) (c : Int) : call1 T (n + 1) (.fn 66) [.int .i64 c] H = some (.bool (chanB c), H) := by
  refine call_pure e66 (by rfl) ?_
  simp only [c66, heap0, go_sem, Int.cast_ofNat_Int, Int.reduceToNat, Bool.true_xor, Bool.false_xor, Bool.xor_true, Bool.xor_false, Nat.reduceAdd, Nat.reduceBEq, Nat.reduceLeDiff, Nat.reduceLT, Nat.reduceMul, Nat.reduceSub, Int.reduceEq, Int.reduceLT, Int.reduceLE, Int.reduceNeg]
  repeat' (with_reducible refine fork_split (fun _ => ?_) (fun _ => ?_) <;> simp only [*, go_sem, Int.cast_ofNat_Int, Int.reduceToNat, Bool.true_xor, Bool.false_xor, Bool.xor_true, Bool.xor_false, Nat.reduceAdd, Nat.reduceBEq, Nat.reduceLeDiff, Nat.reduceLT, Nat.reduceMul, Nat.reduceSub, Int.reduceEq, Int.reduceLT, Int.reduceLE, Int.reduceNeg])
  all_goals (simp only [chanB]; refine congrArg some (congrArg SV.bool ?_); rw [Bool.eq_iff_iff]; grind)
theorem s24 (n : Nat) (H : Heap) (c : Int) : call1 T (n + 1) (.fn 24) [.int .i64 c] H = some (.bool (chanB c), H) := by
  refine call_pure e24 (by rfl) ?_
  simp only [c24, heap0, go_sem, Int.cast_ofNat_Int, Int.reduceToNat, Bool.true_xor, Bool.false_xor, Bool.xor_true, Bool.xor_false, Nat.reduceAdd, Nat.reduceBEq, Nat.reduceLeDiff, Nat.reduceLT, Nat.reduceMul, Nat.reduceSub, Int.reduceEq, Int.reduceLT, Int.reduceLE, Int.reduceNeg]
  repeat' (with_reducible refine fork_split (fun _ => ?_) (fun _ => ?_) <;> simp only [*, go_sem, Int.cast_ofNat_Int, Int.reduceToNat, Bool.true_xor, Bool.false_xor, Bool.xor_true, Bool.xor_false, Nat.reduceAdd, Nat.reduceBEq, Nat.reduceLeDiff, Nat.reduceLT, Nat.reduceMul, Nat.reduceSub, Int.reduceEq, Int.reduceLT, Int.reduceLE, Int.reduceNeg])
  all_goals (simp only [chanB]; refine congrArg some (congrArg SV.bool ?_); rw [Bool.eq_iff_iff]; grind)
def nodB (c : Int) : Bool := decide (0 ≤ c) && decide (c < 32)
theorem s103 (n : Nat) (H : Heap) (c : Int) : call1 T (n + 1) (.fn 103) [.int .i64 c] H = some (.bool (nodB c), H) := by
  refine call_pure e103 (by rfl) ?_
  simp only [c103, heap0, go_sem, Int.cast_ofNat_Int, Int.reduceToNat, Bool.true_xor, Bool.false_xor, Bool.xor_true, Bool.xor_false, Nat.reduceAdd, Nat.reduceBEq, Nat.reduceLeDiff, Nat.reduceLT, Nat.reduceMul, Nat.reduceSub, Int.reduceEq, Int.reduceLT, Int.reduceLE, Int.reduceNeg]
  repeat' (with_reducible refine fork_split (fun _ => ?_) (fun _ => ?_) <;> simp only [*, go_sem, Int.cast_ofNat_Int, Int.reduceToNat, Bool.true_xor, Bool.false_xor, Bool.xor_true, Bool.xor_false, Nat.reduceAdd, Nat.reduceBEq, Nat.reduceLeDiff, Nat.reduceLT, Nat.reduceMul, Nat.reduceSub, Int.reduceEq, Int.reduceLT, Int.reduceLE, Int.reduceNeg])
  all_goals (simp only [nodB]; refine congrArg some (congrArg SV.bool ?_); rw [Bool.eq_iff_iff]; grind)
def nodB' (c : Int) : Bool := decide (-1 ≤ c) && decide (c < 32)
theorem s102 (n : Nat) (H : Heap) (c : Int) : call1 T (n + 2) (.fn 102) [.int .i64 c] H = some (.bool (nodB' c), H) := by
  refine call_pure e102 (by rfl) ?_
  simp only [c102, heap0, go_sem, Int.cast_ofNat_Int, Int.reduceToNat, Bool.true_xor, Bool.false_xor, Bool.xor_true, Bool.xor_false, Nat.reduceAdd, Nat.reduceBEq, Nat.reduceLeDiff, Nat.reduceLT, Nat.reduceMul, Nat.reduceSub, Int.reduceEq, Int.reduceLT, Int.reduceLE, Int.reduceNeg, s103]
  repeat' (with_reducible refine fork_split (fun _ => ?_) (fun _ => ?_) <;> simp only [*, go_sem, Int.cast_ofNat_Int, Int.reduceToNat, Bool.true_xor, Bool.false_xor, Bool.xor_true, Bool.xor_false, Nat.reduceAdd, Nat.reduceBEq, Nat.reduceLeDiff, Nat.reduceLT, Nat.reduceMul, Nat.reduceSub, Int.reduceEq, Int.reduceLT, Int.reduceLE, Int.reduceNeg, s103])
  all_goals (simp only [nodB', nodB]; refine congrArg some (congrArg SV.bool ?_); rw [Bool.eq_iff_iff]; grind)
def ivB (a b : Int) : Bool := decide (0 ≤ a) && decide (a ≤ b) && decide (b ≤ 1099511627776)
theorem s69 (n : Nat) (H : Heap) (a b : Int) : call1 T (n + 1) (.fn 69) [.int .i64 a, .int .i64 b] H = some (.bool (ivB a b), H) := by
  refine call_pure e69 (by rfl) ?_
  simp only [c69, heap0, go_sem, Int.cast_ofNat_Int, Int.reduceToNat, Bool.true_xor, Bool.false_xor, Bool.xor_true, Bool.xor_false, Nat.reduceAdd, Nat.reduceBEq, Nat.reduceLeDiff, Nat.reduceLT, Nat.reduceMul, Nat.reduceSub, Int.reduceEq, Int.reduceLT, Int.reduceLE, Int.reduceNeg]
  repeat' (with_reducible refine fork_split (fun _ => ?_) (fun _ => ?_) <;> simp only [*, go_sem, Int.cast_ofNat_Int, Int.reduceToNat, Bool.true_xor, Bool.false_xor, Bool.xor_true, Bool.xor_false, Nat.reduceAdd, Nat.reduceBEq, Nat.reduceLeDiff, Nat.reduceLT, Nat.reduceMul, Nat.reduceSub, Int.reduceEq, Int.reduceLT, Int.reduceLE, Int.reduceNeg])
  all_goals (simp only [ivB]; grind)
theorem s25 (n : Nat) (H : Heap) (a b : Int) : call1 T (n + 1) (.fn 25) [.int .i64 a, .int .i64 b] H = some (.bool (ivB a b), H) := by
  refine call_pure e25 (by rfl) ?_
  simp only [c25, heap0, go_sem, Int.cast_ofNat_Int, Int.reduceToNat, Bool.true_xor, Bool.false_xor, Bool.xor_true, Bool.xor_false, Nat.reduceAdd, Nat.reduceBEq, Nat.reduceLeDiff, Nat.reduceLT, Nat.reduceMul, Nat.reduceSub, Int.reduceEq, Int.reduceLT, Int.reduceLE, Int.reduceNeg]
  repeat' (with_reducible refine fork_split (fun _ => ?_) (fun _ => ?_) <;> simp only [*, go_sem, Int.cast_ofNat_Int, Int.reduceToNat, Bool.true_xor, Bool.false_xor, Bool.xor_true, Bool.xor_false, Nat.reduceAdd, Nat.reduceBEq, Nat.reduceLeDiff, Nat.reduceLT, Nat.reduceMul, Nat.reduceSub, Int.reduceEq, Int.reduceLT, Int.reduceLE, Int.reduceNeg])
  all_goals (simp only [ivB]; grind)
abbrev pt (a b : Int) : SV := .agg [.int .i64 a, .int .i64 b]
def pointI (a b : Int) : Bool := decide (0 ≤ a) && decide (a ≤ 10000) && decide (0 ≤ b) && decide (b ≤ 10000)
theorem s61 (n : Nat) (H : Heap) (a b : Int) : call1 T (n + 1) (.fn 61) [pt a b] H = some (.bool (pointI a b), H) := by
  refine call_pure e61 (by rfl) ?_
  simp only [c61, heap0, go_sem, Int.cast_ofNat_Int, Int.reduceToNat, Bool.true_xor, Bool.false_xor, Bool.xor_true, Bool.xor_false, Nat.reduceAdd, Nat.reduceBEq, Nat.reduceLeDiff, Nat.reduceLT, Nat.reduceMul, Nat.reduceSub, Int.reduceEq, Int.reduceLT, Int.reduceLE, Int.reduceNeg]
  repeat' (with_reducible refine fork_split (fun _ => ?_) (fun _ => ?_) <;> simp only [*, go_sem, Int.cast_ofNat_Int, Int.reduceToNat, Bool.true_xor, Bool.false_xor, Bool.xor_true, Bool.xor_false, Nat.reduceAdd, Nat.reduceBEq, Nat.reduceLeDiff, Nat.reduceLT, Nat.reduceMul, Nat.reduceSub, Int.reduceEq, Int.reduceLT, Int.reduceLE, Int.reduceNeg])
  all_goals (simp only [pointI]; grind)
def powI (n : Int) : Bool := decide (0 ≤ n) && decide (n ≤ 68719476736)
theorem s62 (n : Nat) (H : Heap) (a : Int) : call1 T (n + 1) (.fn 62) [.int .i64 a] H = some (.bool (powI a), H) := by
  refine call_pure e62 (by rfl) ?_
  simp only [c62, heap0, go_sem, Int.cast_ofNat_Int, Int.reduceToNat, Bool.true_xor, Bool.false_xor, Bool.xor_true, Bool.xor_false, Nat.reduceAdd, Nat.reduceBEq, Nat.reduceLeDiff, Nat.reduceLT, Nat.reduceMul, Nat.reduceSub, Int.reduceEq, Int.reduceLT, Int.reduceLE, Int.reduceNeg]
  repeat' (with_reducible refine fork_split (fun _ => ?_) (fun _ => ?_) <;> simp only [*, go_sem, Int.cast_ofNat_Int, Int.reduceToNat, Bool.true_xor, Bool.false_xor, Bool.xor_true, Bool.xor_false, Nat.reduceAdd, Nat.reduceBEq, Nat.reduceLeDiff, Nat.reduceLT, Nat.reduceMul, Nat.reduceSub, Int.reduceEq, Int.reduceLT, Int.reduceLE, Int.reduceNeg])
  all_goals (simp only [powI]; grind)
structure Fd where
  a : Int
  b : Int
  c : Int
  x : Int
  y : Int
  f : Int
abbrev fdC (w : Fd) : List SV := [.int .i64 w.a, .int .i64 w.b, .int .i64 w.c, .int .i64 w.x, .int .i64 w.y, .int .i64 w.f]
def fdB (w : Fd) : Bool := nodB' w.a && nodB' w.b && (decide (w.c = -1) || chanB w.c) && ivB w.x w.y && decide (0 ≤ w.f) && decide (w.f ≤ 1000)
theorem s86 (n : Nat) (H : Heap) (w : Fd) : call1 T (n + 3) (.fn 86) [.agg (fdC w)] H = some (.bool (fdB w), H) := by
  refine call_pure e86 (by rfl) ?_
  simp only [c86, heap0, go_sem, Int.cast_ofNat_Int, Int.reduceToNat, Bool.true_xor, Bool.false_xor, Bool.xor_true, Bool.xor_false, Nat.reduceAdd, Nat.reduceBEq, Nat.reduceLeDiff, Nat.reduceLT, Nat.reduceMul, Nat.reduceSub, Int.reduceEq, Int.reduceLT, Int.reduceLE, Int.reduceNeg, s102, s66, s69]
  repeat' (with_reducible refine fork_split (fun _ => ?_) (fun _ => ?_) <;> simp only [*, go_sem, Int.cast_ofNat_Int, Int.reduceToNat, Bool.true_xor, Bool.false_xor, Bool.xor_true, Bool.xor_false, Nat.reduceAdd, Nat.reduceBEq, Nat.reduceLeDiff, Nat.reduceLT, Nat.reduceMul, Nat.reduceSub, Int.reduceEq, Int.reduceLT, Int.reduceLE, Int.reduceNeg, s102, s66, s69])
  all_goals (simp only [fdB]; grind)
theorem s64 (n : Nat) (H : Heap) (w : Fd) : call1 T (n + 2) (.fn 64) [.agg (fdC w)] H = some (.bool (fdB w), H) := by
  refine call_pure e64 (by rfl) ?_
  simp only [c64, heap0, go_sem, Int.cast_ofNat_Int, Int.reduceToNat, Bool.true_xor, Bool.false_xor, Bool.xor_true, Bool.xor_false, Nat.reduceAdd, Nat.reduceBEq, Nat.reduceLeDiff, Nat.reduceLT, Nat.reduceMul, Nat.reduceSub, Int.reduceEq, Int.reduceLT, Int.reduceLE, Int.reduceNeg, s25]
  repeat' (with_reducible refine fork_split (fun _ => ?_) (fun _ => ?_) <;> simp only [*, go_sem, Int.cast_ofNat_Int, Int.reduceToNat, Bool.true_xor, Bool.false_xor, Bool.xor_true, Bool.xor_false, Nat.reduceAdd, Nat.reduceBEq, Nat.reduceLeDiff, Nat.reduceLT, Nat.reduceMul, Nat.reduceSub, Int.reduceEq, Int.reduceLT, Int.reduceLE, Int.reduceNeg, s25])
  all_goals (simp only [fdB, nodB', chanB]; refine congrArg some (congrArg SV.bool ?_); rw [Bool.eq_iff_iff]; grind)
theorem s85 (n : Nat) (H : Heap) (w : Fd) : call1 T (n + 4) (.fn 85) [.agg (fdC w)] H = some (.bool (!fdB w), H) := by
  refine call_pure e85 (by rfl) ?_
  simp only [c85, heap0, go_sem, Int.cast_ofNat_Int, Int.reduceToNat, Bool.true_xor, Bool.false_xor, Bool.xor_true, Bool.xor_false, Nat.reduceAdd, Nat.reduceBEq, Nat.reduceLeDiff, Nat.reduceLT, Nat.reduceMul, Nat.reduceSub, Int.reduceEq, Int.reduceLT, Int.reduceLE, Int.reduceNeg, s86]
structure Src where
  a : Int
  b : Int
  p : Int
  C : List Int
  f : Bool
  per : Int
  fr : Int
  to : Int
abbrev srC (s : Src) : List SV := [.int .i64 s.a, .int .i64 s.b, .int .i64 s.p, .lst 1 (iS s.C) s.f, .int .i64 s.per, .int .i64 s.fr, .int .i64 s.to]
def badAt (C : List Int) (i : Nat) : Bool := match C[i]? with
  | some c => !chanB c || (decide (0 < (i : Int)) && match C[i - 1]? with | some d => decide (c ≤ d) | none => false)
  | none => false
theorem badAt_zero {C : List Int} {i : Nat} {c : Int} (h : C[i]? = some c) (hz : decide (0 < (i : Int)) = false) : badAt C i = !chanB c := by simp only [badAt, h, hz, Bool.false_and, Bool.or_false]
theorem badAt_suc {C : List Int} {i k : Nat} {c d : Int} (h : C[i]? = some c) (hi : i = k + 1) (hd : C[k]? = some d) : badAt C i = (!chanB c || decide (c ≤ d)) := by
  have h1 : decide (0 < (i : Int)) = true := decide_eq_true (by omega)
  have h2 : i - 1 = k := by omega
  simp only [badAt, h, h1, h2, hd, Bool.true_and]
def ascB (C : List Int) : Bool := !((List.range C.length).any (badAt C))
theorem asc_bad {C : List Int} {i : Nat} {c : Int} (h : C[i]? = some c) (hb : badAt C i = true) : ascB C = false := by
  have : (List.range C.length).any (badAt C) = true := List.any_eq_true.2 ⟨i, List.mem_range.2 (List.getElem?_eq_some_iff.1 h).1, hb⟩
  simp [ascB, this]
theorem asc_good {C : List Int} (h : ∀ j, j < C.length → badAt C j = false) : ascB C = true := by
  have : (List.range C.length).any (badAt C) = false := by
    rw [List.any_eq_false]
    intro j hj
    rw [h j (List.mem_range.1 hj)]; simp
  simp [ascB, this]
def perB (per fr to : Int) : Bool := decide (0 ≤ fr) && decide (fr ≤ to) && decide (to ≤ per) && decide (1 ≤ per) && decide (per ≤ 1000000000)
def srB (s : Src) : Bool := pointI s.a s.b && powI s.p && ascB s.C && perB s.per s.fr s.to
theorem srB_bad {s : Src} (h : ascB s.C = false) : srB s = false := by simp [srB, h]
theorem srB_no {s : Src} (h : (pointI s.a s.b && powI s.p) = false) : srB s = false := by simp [srB, h]
theorem srB_yes {s : Src} (h : (pointI s.a s.b && powI s.p) = true) (hc : ascB s.C = true) : srB s = perB s.per s.fr s.to := by simp [srB, h, hc]
theorem iS_nth {C : List Int} {i : Nat} : (iS C)[i]? = (C[i]?).map fun c => [SV.int .i64 c] := by simp [iS]
theorem s83 (n : Nat) (H : Heap) (s : Src) (hC : s.C.length ≤ maxLen) : call1 T (n + 2) (.fn 83) [.agg (srC s)] H = some (.bool (srB s), H) := by
  refine call_pure e83 (by rfl) ?_
  simp only [c83, heap0, go_sem, Int.cast_ofNat_Int, Int.reduceToNat, Bool.true_xor, Bool.false_xor, Bool.xor_true, Bool.xor_false, Nat.reduceAdd, Nat.reduceBEq, Nat.reduceLeDiff, Nat.reduceLT, Nat.reduceMul, Nat.reduceSub, Int.reduceEq, Int.reduceLT, Int.reduceLE, Int.reduceNeg]
  repeat' (with_reducible refine fork_split (fun _ => ?_) (fun _ => ?_) <;> simp only [*, go_sem, Int.cast_ofNat_Int, Int.reduceToNat, Bool.true_xor, Bool.false_xor, Bool.xor_true, Bool.xor_false, Nat.reduceAdd, Nat.reduceBEq, Nat.reduceLeDiff, Nat.reduceLT, Nat.reduceMul, Nat.reduceSub, Int.reduceEq, Int.reduceLT, Int.reduceLE, Int.reduceNeg])
  all_goals try (
    with_reducible refine congrArg some (congrArg SV.bool ?_)
    rw [srB_no (by rw [Bool.eq_false_iff]; simp only [pointI, powI, ne_eq, Bool.and_eq_true, decide_eq_true_eq]; grind)]
    done)
  have hpp : (pointI s.a s.b && powI s.p) = true := by
    simp only [pointI, powI, Bool.and_eq_true, decide_eq_true_eq]; grind
  refine loop_rule (fun i => ([(1, .ptr 0 0 0 0), (34, .lst 1 (iS s.C) s.f), (35, .int .i64 s.C.length), (36, .int .i64 i)], ⟨[.box (srC s)], [], 0⟩)) (fun i => ∀ (j : Nat), j < i → badAt s.C j = false) s.C.length ?_ (fun j h => by omega) ?_
  · simp only [go_sem, Int.cast_ofNat_Int, Int.reduceToNat, Bool.true_xor, Bool.false_xor, Bool.xor_true, Bool.xor_false, Nat.reduceAdd, Nat.reduceBEq, Nat.reduceLeDiff, Nat.reduceLT, Nat.reduceMul, Nat.reduceSub, Int.reduceEq, Int.reduceLT, Int.reduceLE, Int.reduceNeg] <;> rfl
  · intro i hi hP
    rcases Nat.lt_or_ge i s.C.length with hlt | hge
    · obtain ⟨c, hc⟩ := getS hlt
      have hw := w64_suc hlt hC
      have hgo : badAt s.C i = false → ∀ j, j < i + 1 → badAt s.C j = false := fun hb j hj => by
        rcases Nat.lt_or_ge j i with h3 | h3
        · exact hP j h3
        · have : j = i := by omega
          subst this
          exact hb
      cases hz : decide (0 < (i : Int)) with
      | false =>
        have hb := badAt_zero hc hz
        cases hx : chanB c with
        | false =>
          simp only [go_sem, Int.cast_ofNat_Int, Int.reduceToNat, Bool.true_xor, Bool.false_xor, Bool.xor_true, Bool.xor_false, Nat.reduceAdd, Nat.reduceBEq, Nat.reduceLeDiff, Nat.reduceLT, Nat.reduceMul, Nat.reduceSub, Int.reduceEq, Int.reduceLT, Int.reduceLE, Int.reduceNeg, hlt, hc, s66, hx]
          rw [srB_bad (asc_bad hc (by rw [hb, hx]; rfl))]
        | true =>
          simp only [go_sem, Int.cast_ofNat_Int, Int.reduceToNat, Bool.true_xor, Bool.false_xor, Bool.xor_true, Bool.xor_false, Nat.reduceAdd, Nat.reduceBEq, Nat.reduceLeDiff, Nat.reduceLT, Nat.reduceMul, Nat.reduceSub, Int.reduceEq, Int.reduceLT, Int.reduceLE, Int.reduceNeg, hlt, hc, s66, hx, hw, hz]
          refine ⟨by first | trivial | omega, by first | trivial | rfl, ?_⟩
          exact hgo (by rw [hb, hx]; rfl)
      | true =>
        obtain ⟨k, hk⟩ : ∃ k, i = k + 1 := ⟨i - 1, by have := of_decide_eq_true hz; omega⟩
        have hkl : k < s.C.length := by omega
        obtain ⟨d, hd⟩ := getS hkl
        have hb := badAt_suc hc hk hd
        have hsub : w64 ((i : Int) - 1) = (k : Int) := by
          have : ((i : Int) - 1) = ((k : Nat) : Int) := by omega
          rw [this]; exact w64_id (by omega) (by simp only [maxLen] at hC; omega)
        cases hx : chanB c with
        | false =>
          simp only [go_sem, Int.cast_ofNat_Int, Int.reduceToNat, Bool.true_xor, Bool.false_xor, Bool.xor_true, Bool.xor_false, Nat.reduceAdd, Nat.reduceBEq, Nat.reduceLeDiff, Nat.reduceLT, Nat.reduceMul, Nat.reduceSub, Int.reduceEq, Int.reduceLT, Int.reduceLE, Int.reduceNeg, hlt, hc, s66, hx]
          rw [srB_bad (asc_bad hc (by rw [hb, hx]; rfl))]
        | true =>
          simp only [go_sem, Int.cast_ofNat_Int, Int.reduceToNat, Bool.true_xor, Bool.false_xor, Bool.xor_true, Bool.xor_false, Nat.reduceAdd, Nat.reduceBEq, Nat.reduceLeDiff, Nat.reduceLT, Nat.reduceMul, Nat.reduceSub, Int.reduceEq, Int.reduceLT, Int.reduceLE, Int.reduceNeg, hlt, hc, s66, hx, hw, hsub, hz, hd, hkl]
          cases hm : decide (c ≤ d) with
          | true =>
            simp only [go_sem, Int.cast_ofNat_Int, Int.reduceToNat, Bool.true_xor, Bool.false_xor, Bool.xor_true, Bool.xor_false, Nat.reduceAdd, Nat.reduceBEq, Nat.reduceLeDiff, Nat.reduceLT, Nat.reduceMul, Nat.reduceSub, Int.reduceEq, Int.reduceLT, Int.reduceLE, Int.reduceNeg]
            rw [srB_bad (asc_bad hc (by rw [hb, hm]; simp))]
          | false =>
            simp only [go_sem, Int.cast_ofNat_Int, Int.reduceToNat, Bool.true_xor, Bool.false_xor, Bool.xor_true, Bool.xor_false, Nat.reduceAdd, Nat.reduceBEq, Nat.reduceLeDiff, Nat.reduceLT, Nat.reduceMul, Nat.reduceSub, Int.reduceEq, Int.reduceLT, Int.reduceLE, Int.reduceNeg, hw]
            refine ⟨by first | trivial | omega, by first | trivial | rfl, ?_⟩
            exact hgo (by rw [hb, hx, hm]; rfl)
    · have hlt : ¬ i < s.C.length := by omega
      have hd := asc_good (C := s.C) (fun j hj => hP j (by omega))
      rw [srB_yes hpp hd]
      simp only [go_sem, Int.cast_ofNat_Int, Int.reduceToNat, Bool.true_xor, Bool.false_xor, Bool.xor_true, Bool.xor_false, Nat.reduceAdd, Nat.reduceBEq, Nat.reduceLeDiff, Nat.reduceLT, Nat.reduceMul, Nat.reduceSub, Int.reduceEq, Int.reduceLT, Int.reduceLE, Int.reduceNeg, hlt]
      repeat' (with_reducible refine fork_split (fun _ => ?_) (fun _ => ?_) <;> simp only [*, go_sem, Int.cast_ofNat_Int, Int.reduceToNat, Bool.true_xor, Bool.false_xor, Bool.xor_true, Bool.xor_false, Nat.reduceAdd, Nat.reduceBEq, Nat.reduceLeDiff, Nat.reduceLT, Nat.reduceMul, Nat.reduceSub, Int.reduceEq, Int.reduceLT, Int.reduceLE, Int.reduceNeg])
      all_goals (simp only [perB]; refine congrArg some (congrArg SV.bool ?_); rw [Bool.eq_iff_iff]; grind)
theorem s63 (n : Nat) (H : Heap) (s : Src) (hC : s.C.length ≤ maxLen) : call1 T (n + 2) (.fn 63) [.agg (srC s)] H = some (.bool (srB s), H) := by
  refine call_pure e63 (by rfl) ?_
  simp only [c63, heap0, go_sem, Int.cast_ofNat_Int, Int.reduceToNat, Bool.true_xor, Bool.false_xor, Bool.xor_true, Bool.xor_false, Nat.reduceAdd, Nat.reduceBEq, Nat.reduceLeDiff, Nat.reduceLT, Nat.reduceMul, Nat.reduceSub, Int.reduceEq, Int.reduceLT, Int.reduceLE, Int.reduceNeg]
  refine loop_rule (fun i => ([(1, .ptr 0 0 0 0), (3, .int .i64 i)], ⟨[.box (srC s)], [], 0⟩)) (fun i => ∀ (j : Nat), j < i → badAt s.C j = false) s.C.length ?_ (fun j h => by omega) ?_
  · simp only [go_sem, Int.cast_ofNat_Int, Int.reduceToNat, Bool.true_xor, Bool.false_xor, Bool.xor_true, Bool.xor_false, Nat.reduceAdd, Nat.reduceBEq, Nat.reduceLeDiff, Nat.reduceLT, Nat.reduceMul, Nat.reduceSub, Int.reduceEq, Int.reduceLT, Int.reduceLE, Int.reduceNeg] <;> rfl
  · intro i hi hP
    rcases Nat.lt_or_ge i s.C.length with hlt | hge
    · obtain ⟨c, hc⟩ := getS hlt
      have hw := w64_suc hlt hC
      have hgo : badAt s.C i = false → ∀ j, j < i + 1 → badAt s.C j = false := fun hb j hj => by
        rcases Nat.lt_or_ge j i with h3 | h3
        · exact hP j h3
        · have : j = i := by omega
          subst this
          exact hb
      cases hz : decide (0 < (i : Int)) with
      | false =>
        have hb := badAt_zero hc hz
        cases hx : chanB c with
        | false =>
          simp only [go_sem, Int.cast_ofNat_Int, Int.reduceToNat, Bool.true_xor, Bool.false_xor, Bool.xor_true, Bool.xor_false, Nat.reduceAdd, Nat.reduceBEq, Nat.reduceLeDiff, Nat.reduceLT, Nat.reduceMul, Nat.reduceSub, Int.reduceEq, Int.reduceLT, Int.reduceLE, Int.reduceNeg, hlt, hc, s24, hx]
          rw [srB_bad (asc_bad hc (by rw [hb, hx]; rfl))]
        | true =>
          simp only [go_sem, Int.cast_ofNat_Int, Int.reduceToNat, Bool.true_xor, Bool.false_xor, Bool.xor_true, Bool.xor_false, Nat.reduceAdd, Nat.reduceBEq, Nat.reduceLeDiff, Nat.reduceLT, Nat.reduceMul, Nat.reduceSub, Int.reduceEq, Int.reduceLT, Int.reduceLE, Int.reduceNeg, hlt, hc, s24, hx, hw, hz]
          refine ⟨by first | trivial | omega, by first | trivial | rfl, ?_⟩
          exact hgo (by rw [hb, hx]; rfl)
      | true =>
        obtain ⟨k, hk⟩ : ∃ k, i = k + 1 := ⟨i - 1, by have := of_decide_eq_true hz; omega⟩
        have hkl : k < s.C.length := by omega
        obtain ⟨d, hd⟩ := getS hkl
        have hb := badAt_suc hc hk hd
        have hsub : w64 ((i : Int) - 1) = (k : Int) := by
          have : ((i : Int) - 1) = ((k : Nat) : Int) := by omega
          rw [this]; exact w64_id (by omega) (by simp only [maxLen] at hC; omega)
        cases hx : chanB c with
        | false =>
          simp only [go_sem, Int.cast_ofNat_Int, Int.reduceToNat, Bool.true_xor, Bool.false_xor, Bool.xor_true, Bool.xor_false, Nat.reduceAdd, Nat.reduceBEq, Nat.reduceLeDiff, Nat.reduceLT, Nat.reduceMul, Nat.reduceSub, Int.reduceEq, Int.reduceLT, Int.reduceLE, Int.reduceNeg, hlt, hc, s24, hx]
          rw [srB_bad (asc_bad hc (by rw [hb, hx]; rfl))]
        | true =>
          simp only [go_sem, Int.cast_ofNat_Int, Int.reduceToNat, Bool.true_xor, Bool.false_xor, Bool.xor_true, Bool.xor_false, Nat.reduceAdd, Nat.reduceBEq, Nat.reduceLeDiff, Nat.reduceLT, Nat.reduceMul, Nat.reduceSub, Int.reduceEq, Int.reduceLT, Int.reduceLE, Int.reduceNeg, hlt, hc, s24, hx, hw, hsub, hz, hd, hkl]
          cases hm : decide (c ≤ d) with
          | true =>
            simp only [go_sem, Int.cast_ofNat_Int, Int.reduceToNat, Bool.true_xor, Bool.false_xor, Bool.xor_true, Bool.xor_false, Nat.reduceAdd, Nat.reduceBEq, Nat.reduceLeDiff, Nat.reduceLT, Nat.reduceMul, Nat.reduceSub, Int.reduceEq, Int.reduceLT, Int.reduceLE, Int.reduceNeg]
            rw [srB_bad (asc_bad hc (by rw [hb, hm]; simp))]
          | false =>
            simp only [go_sem, Int.cast_ofNat_Int, Int.reduceToNat, Bool.true_xor, Bool.false_xor, Bool.xor_true, Bool.xor_false, Nat.reduceAdd, Nat.reduceBEq, Nat.reduceLeDiff, Nat.reduceLT, Nat.reduceMul, Nat.reduceSub, Int.reduceEq, Int.reduceLT, Int.reduceLE, Int.reduceNeg, hw]
            refine ⟨by first | trivial | omega, by first | trivial | rfl, ?_⟩
            exact hgo (by rw [hb, hx, hm]; rfl)
    · have hlt : ¬ i < s.C.length := by omega
      have hd := asc_good (C := s.C) (fun j hj => hP j (by omega))
      simp only [go_sem, Int.cast_ofNat_Int, Int.reduceToNat, Bool.true_xor, Bool.false_xor, Bool.xor_true, Bool.xor_false, Nat.reduceAdd, Nat.reduceBEq, Nat.reduceLeDiff, Nat.reduceLT, Nat.reduceMul, Nat.reduceSub, Int.reduceEq, Int.reduceLT, Int.reduceLE, Int.reduceNeg, hlt, s61, s62]
      cases hpp : (pointI s.a s.b && powI s.p) with
      | true =>
        rw [srB_yes hpp hd]
        rw [Bool.and_eq_true] at hpp
        simp only [go_sem, Int.cast_ofNat_Int, Int.reduceToNat, Bool.true_xor, Bool.false_xor, Bool.xor_true, Bool.xor_false, Nat.reduceAdd, Nat.reduceBEq, Nat.reduceLeDiff, Nat.reduceLT, Nat.reduceMul, Nat.reduceSub, Int.reduceEq, Int.reduceLT, Int.reduceLE, Int.reduceNeg, s61, s62, hpp.1, hpp.2]
        repeat' (with_reducible refine fork_split (fun _ => ?_) (fun _ => ?_) <;> simp only [*, go_sem, Int.cast_ofNat_Int, Int.reduceToNat, Bool.true_xor, Bool.false_xor, Bool.xor_true, Bool.xor_false, Nat.reduceAdd, Nat.reduceBEq, Nat.reduceLeDiff, Nat.reduceLT, Nat.reduceMul, Nat.reduceSub, Int.reduceEq, Int.reduceLT, Int.reduceLE, Int.reduceNeg, s61, s62])
        all_goals (simp only [perB]; refine congrArg some (congrArg SV.bool ?_); rw [Bool.eq_iff_iff]; grind)
      | false =>
        rw [srB_no hpp]
        repeat' (with_reducible refine fork_split (fun _ => ?_) (fun _ => ?_) <;> simp only [*, go_sem, Int.cast_ofNat_Int, Int.reduceToNat, Bool.true_xor, Bool.false_xor, Bool.xor_true, Bool.xor_false, Nat.reduceAdd, Nat.reduceBEq, Nat.reduceLeDiff, Nat.reduceLT, Nat.reduceMul, Nat.reduceSub, Int.reduceEq, Int.reduceLT, Int.reduceLE, Int.reduceNeg, s61, s62])
        all_goals (rw [Bool.and_eq_false_iff] at hpp; grind)
theorem s82 (n : Nat) (H : Heap) (s : Src) (hC : s.C.length ≤ maxLen) : call1 T (n + 3) (.fn 82) [.agg (srC s)] H = some (.bool (!srB s), H) := by
  have h := fun H => s83 n H s hC
  refine call_pure e82 (by rfl) ?_
  simp only [c82, heap0, go_sem, Int.cast_ofNat_Int, Int.reduceToNat, Bool.true_xor, Bool.false_xor, Bool.xor_true, Bool.xor_false, Nat.reduceAdd, Nat.reduceBEq, Nat.reduceLeDiff, Nat.reduceLT, Nat.reduceMul, Nat.reduceSub, Int.reduceEq, Int.reduceLT, Int.reduceLE, Int.reduceNeg, h]
def onB (s : Src) (x y : Int) : Bool :=
  if x = y ∨ s.fr = s.to then false else
  (decide (x % s.per < s.to) && decide (s.fr < x % s.per + y - x)) || decide (s.fr + s.per < x % s.per + y - x)
theorem s93 (n : Nat) (H : Heap) (s : Src) (x y : Int) (hs : perB s.per s.fr s.to = true) (hi : ivB x y = true) : call1 T (n + 1) (.fn 93) [.agg (srC s), .int .i64 x, .int .i64 y] H = some (.bool (onB s x y), H) := by
  refine call_pure e93 (by rfl) ?_
  simp only [perB, ivB, Bool.and_eq_true, decide_eq_true_eq] at hs hi
  have hne : s.per ≠ 0 := by omega
  have hx0 : 0 ≤ x := by omega
  have hm1 := Int.emod_nonneg x hne
  have hm2 := Int.emod_lt_of_pos x (show 0 < s.per by omega)
  have ht0 : x.tmod s.per = x % s.per := Int.tmod_eq_emod_of_nonneg hx0
  have ht : w64 (x % s.per) = x % s.per := w64_id (by omega) (by omega)
  have h1 : w64 (x % s.per + y) = x % s.per + y := w64_id (by omega) (by omega)
  have h2 : w64 (x % s.per + y - x) = x % s.per + y - x := w64_id (by omega) (by omega)
  have h3 : w64 (s.fr + s.per) = s.fr + s.per := w64_id (by omega) (by omega)
  simp only [c93, heap0, go_sem, Int.cast_ofNat_Int, Int.reduceToNat, Bool.true_xor, Bool.false_xor, Bool.xor_true, Bool.xor_false, Nat.reduceAdd, Nat.reduceBEq, Nat.reduceLeDiff, Nat.reduceLT, Nat.reduceMul, Nat.reduceSub, Int.reduceEq, Int.reduceLT, Int.reduceLE, Int.reduceNeg, hne, ht0, ht, h1, h2, h3]
  repeat' (with_reducible refine fork_split (fun _ => ?_) (fun _ => ?_) <;> simp only [*, go_sem, Int.cast_ofNat_Int, Int.reduceToNat, Bool.true_xor, Bool.false_xor, Bool.xor_true, Bool.xor_false, Nat.reduceAdd, Nat.reduceBEq, Nat.reduceLeDiff, Nat.reduceLT, Nat.reduceMul, Nat.reduceSub, Int.reduceEq, Int.reduceLT, Int.reduceLE, Int.reduceNeg, hne, ht0, ht, h1, h2, h3])
  all_goals (simp only [onB]; refine congrArg some (congrArg SV.bool ?_); rw [Bool.eq_iff_iff]; clear ht0; generalize x % s.per = r at *; grind)
def onS (s : Src) (x y : Int) : Bool := srB s && ivB x y && onB s x y
theorem srB_per {s : Src} (h : srB s = true) : perB s.per s.fr s.to = true := by
  simp only [srB, Bool.and_eq_true] at h; exact h.2
theorem s51 (n : Nat) (H : Heap) (s : Src) (x y : Int) (hC : s.C.length ≤ maxLen) : call1 T (n + 3) (.fn 51) [.agg (srC s), .int .i64 x, .int .i64 y] H = some (.bool (onS s x y), H) := by
  refine call_pure e51 (by rfl) ?_
  have h39 := fun H => s63 n H s hC
  simp only [c51, heap0, go_sem, Int.cast_ofNat_Int, Int.reduceToNat, Bool.true_xor, Bool.false_xor, Bool.xor_true, Bool.xor_false, Nat.reduceAdd, Nat.reduceBEq, Nat.reduceLeDiff, Nat.reduceLT, Nat.reduceMul, Nat.reduceSub, Int.reduceEq, Int.reduceLT, Int.reduceLE, Int.reduceNeg, h39]
  cases h1 : srB s with
  | false => simp only [go_sem, Int.cast_ofNat_Int, Int.reduceToNat, Bool.true_xor, Bool.false_xor, Bool.xor_true, Bool.xor_false, Nat.reduceAdd, Nat.reduceBEq, Nat.reduceLeDiff, Nat.reduceLT, Nat.reduceMul, Nat.reduceSub, Int.reduceEq, Int.reduceLT, Int.reduceLE, Int.reduceNeg, onS, h1]
  | true =>
    simp only [go_sem, Int.cast_ofNat_Int, Int.reduceToNat, Bool.true_xor, Bool.false_xor, Bool.xor_true, Bool.xor_false, Nat.reduceAdd, Nat.reduceBEq, Nat.reduceLeDiff, Nat.reduceLT, Nat.reduceMul, Nat.reduceSub, Int.reduceEq, Int.reduceLT, Int.reduceLE, Int.reduceNeg, s25]
    cases h2 : ivB x y with
    | false => simp only [go_sem, Int.cast_ofNat_Int, Int.reduceToNat, Bool.true_xor, Bool.false_xor, Bool.xor_true, Bool.xor_false, Nat.reduceAdd, Nat.reduceBEq, Nat.reduceLeDiff, Nat.reduceLT, Nat.reduceMul, Nat.reduceSub, Int.reduceEq, Int.reduceLT, Int.reduceLE, Int.reduceNeg, onS, h1, h2]
    | true =>
      have hs := srB_per h1
      have hi := h2
      simp only [perB, ivB, Bool.and_eq_true, decide_eq_true_eq] at hs hi
      have hne : s.per ≠ 0 := by omega
      have hx0 : 0 ≤ x := by omega
      have hm1 := Int.emod_nonneg x hne
      have hm2 := Int.emod_lt_of_pos x (show 0 < s.per by omega)
      have ht0 : x.tmod s.per = x % s.per := Int.tmod_eq_emod_of_nonneg hx0
      have ht : w64 (x % s.per) = x % s.per := w64_id (by omega) (by omega)
      have a1 : w64 (x + s.fr) = x + s.fr := w64_id (by omega) (by omega)
      have a2 : w64 (x + s.fr - x % s.per) = x + s.fr - x % s.per := w64_id (by omega) (by omega)
      have a3 : w64 (x + s.per) = x + s.per := w64_id (by omega) (by omega)
      have a4 : w64 (x + s.per - x % s.per) = x + s.per - x % s.per := w64_id (by omega) (by omega)
      have a5 : w64 (x + s.per - x % s.per + s.fr) = x + s.per - x % s.per + s.fr := w64_id (by omega) (by omega)
      simp only [onS, h1, h2, Bool.true_and, go_sem, Int.cast_ofNat_Int, Int.reduceToNat, Bool.true_xor, Bool.false_xor, Bool.xor_true, Bool.xor_false, Nat.reduceAdd, Nat.reduceBEq, Nat.reduceLeDiff, Nat.reduceLT, Nat.reduceMul, Nat.reduceSub, Int.reduceEq, Int.reduceLT, Int.reduceLE, Int.reduceNeg, hne, ht0, ht, a1, a2, a3, a4, a5]
      repeat' (with_reducible refine fork_split (fun _ => ?_) (fun _ => ?_) <;> simp only [*, go_sem, Int.cast_ofNat_Int, Int.reduceToNat, Bool.true_xor, Bool.false_xor, Bool.xor_true, Bool.xor_false, Nat.reduceAdd, Nat.reduceBEq, Nat.reduceLeDiff, Nat.reduceLT, Nat.reduceMul, Nat.reduceSub, Int.reduceEq, Int.reduceLT, Int.reduceLE, Int.reduceNeg, hne, ht0, ht, a1, a2, a3, a4, a5])
      all_goals (simp only [onB]; refine congrArg some (congrArg SV.bool ?_); rw [Bool.eq_iff_iff]; clear ht0; generalize x % s.per = r at *; grind)
def duty (s : Src) : Int := if srB s then ((s.to - s.fr) * 1000) / s.per else 0
theorem duty_aux {s : Src} (h : srB s = true) : w64 (s.to - s.fr) = s.to - s.fr ∧ w64 ((s.to - s.fr) * 1000) = (s.to - s.fr) * 1000 ∧ ((s.to - s.fr) * 1000).tdiv s.per = duty s ∧ w64 (duty s) = duty s ∧ s.per ≠ 0 ∧ 0 ≤ s.to - s.fr := by
  have hs := srB_per h
  simp only [perB, Bool.and_eq_true, decide_eq_true_eq] at hs
  have hd : duty s = (s.to - s.fr) * 1000 / s.per := by simp only [duty, h, if_true]
  have h0 : 0 ≤ (s.to - s.fr) * 1000 := by omega
  have h1 : 0 ≤ (s.to - s.fr) * 1000 / s.per := Int.ediv_nonneg h0 (by omega)
  have h2 : (s.to - s.fr) * 1000 / s.per ≤ (s.to - s.fr) * 1000 := Int.ediv_le_self _ h0
  refine ⟨w64_id (by omega) (by omega), w64_id (by omega) (by omega), ?_, ?_, by omega, by omega⟩
  · rw [hd, Int.tdiv_eq_ediv_of_nonneg h0]
  · rw [hd]; exact w64_id (by omega) (by omega)
def srsS (L : List Src) : List (List SV) := L.map srC
def fdsS (L : List Fd) : List (List SV) := L.map fdC
@[go_sem] theorem srsS_len {L : List Src} : (srsS L).length = L.length := by simp [srsS]
@[go_sem] theorem fdsS_len {L : List Fd} : (fdsS L).length = L.length := by simp [fdsS]
@[go_sem] theorem srsS_get {L : List Src} {i : Nat} : (srsS L)[i]? = (L[i]?).map srC := by simp [srsS]
@[go_sem] theorem fdsS_get {L : List Fd} {i : Nat} : (fdsS L)[i]? = (L[i]?).map fdC := by simp [fdsS]
theorem srs_row {L : List Src} : ∀ r ∈ srsS L, r.length = 7 := by
  intro r hr
  simp only [srsS, List.mem_map] at hr
  obtain ⟨h, _, rfl⟩ := hr
  rfl
theorem fds_row {L : List Fd} : ∀ r ∈ fdsS L, r.length = 6 := by
  intro r hr
  simp only [fdsS, List.mem_map] at hr
  obtain ⟨h, _, rfl⟩ := hr
  rfl
def toSr (r : List SV) : Src := match r with
  | [.int _ a, .int _ b, .int _ p, .lst _ L f, .int _ per, .int _ fr, .int _ to] => ⟨a, b, p, L.map (fun c => match c with | [.int _ x] => x | _ => 0), f, per, fr, to⟩
  | _ => ⟨0, 0, 0, [], true, 0, 0, 0⟩
theorem toSr_of (s : Src) : toSr (srC s) = s := by
  obtain ⟨a, b, p, C, f, per, fr, to⟩ := s
  simp [toSr, iS, Function.comp_def]
def toFd (r : List SV) : Fd := match r with
  | [.int _ a, .int _ b, .int _ c, .int _ x, .int _ y, .int _ f] => ⟨a, b, c, x, y, f⟩
  | _ => ⟨0, 0, 0, 0, 0, 0⟩
theorem toFd_of (w : Fd) : toFd (fdC w) = w := rfl
theorem any_sr (p : Src → Bool) (L : List Src) : (srsS L).any (fun r => p (toSr r)) = L.any p := by
  simp only [srsS, List.any_map]
  congr 1
  funext h
  exact congrArg p (toSr_of h)
theorem any_fd (p : Fd → Bool) (L : List Fd) : (fdsS L).any (fun r => p (toFd r)) = L.any p := by
  simp only [fdsS, List.any_map]
  rfl
abbrev sp (S : List Src) (f1 : Bool) (F : List Fd) (f2 : Bool) : SV := .agg [.lst 7 (srsS S) f1, .lst 6 (fdsS F) f2]
def okS (S : List Src) : Prop := S.length ≤ maxLen ∧ ∀ s ∈ S, s.C.length ≤ maxLen
def ckB (S : List Src) (F : List Fd) : Bool := decide (S.length ≤ 16) && decide (F.length ≤ 64) && !S.any (fun s => !srB s) && !F.any (fun w => !fdB w)
def ck (S : List Src) (F : List Fd) : Int := bif ckB S F then 0 else 1
theorem s12z (n : Nat) (H : Heap) (S F f1 f2) (z2 : Nat) (hz : z2 = 6 ∨ F = []) (hS : okS S) (hF : F.length ≤ maxLen) : call1 T (n + 7) (.fn 59) [.agg [.lst 7 (srsS S) f1, .lst z2 (fdsS F) f2]] H = some (.int .i64 (ck S F), H) := by
  refine call_pure e59 (by rfl) ?_
  have h33 := fun H => stdCF_ok (T := T) (f := 81) (n := n + 4) (H := H) (ag := true) (z := 7) (id := 82) (caps := []) (v := .lst 7 (srsS S) f1) (L := srsS S) (p := fun r => !srB (toSr r)) x33 x63 (.lst 7 f1 (.inl rfl)) srs_row (fun h => by cases h) (by simpa [srsS] using hS.1)
    (fun r hr bl ro _ => by
      simp only [srsS, List.mem_map] at hr
      obtain ⟨h, hh, rfl⟩ := hr
      simp only [toSr_of]
      exact s82 (n + 1) ⟨bl, [], ro⟩ h (hS.2 h hh)) (by simp [SV.refs.refsL])
  rw [any_sr (fun s => !srB s)] at h33
  have h36 := fun H => stdCF_ok (T := T) (f := 84) (n := n + 4) (H := H) (ag := true) (z := 6) (id := 85) (caps := []) (v := .lst z2 (fdsS F) f2) (L := fdsS F) (p := fun r => !fdB (toFd r)) x36 x64 (.lst z2 f2 (hz.imp id (by rintro rfl; rfl))) fds_row (fun h => by cases h) (by simpa [fdsS] using hF)
    (fun r hr bl ro _ => by
      simp only [fdsS, List.mem_map] at hr
      obtain ⟨h, hh, rfl⟩ := hr
      simp only [toFd_of]
      exact s85 n ⟨bl, [], ro⟩ h) (by simp [SV.refs.refsL])
  rw [any_fd (fun s => !fdB s)] at h36
  simp only [c59, heap0, go_sem, Int.cast_ofNat_Int, Int.reduceToNat, Bool.true_xor, Bool.false_xor, Bool.xor_true, Bool.xor_false, Nat.reduceAdd, Nat.reduceBEq, Nat.reduceLeDiff, Nat.reduceLT, Nat.reduceMul, Nat.reduceSub, Int.reduceEq, Int.reduceLT, Int.reduceLE, Int.reduceNeg]
  repeat' (with_reducible refine fork_split (fun _ => ?_) (fun _ => ?_) <;> simp only [*, go_sem, Int.cast_ofNat_Int, Int.reduceToNat, Bool.true_xor, Bool.false_xor, Bool.xor_true, Bool.xor_false, Nat.reduceAdd, Nat.reduceBEq, Nat.reduceLeDiff, Nat.reduceLT, Nat.reduceMul, Nat.reduceSub, Int.reduceEq, Int.reduceLT, Int.reduceLE, Int.reduceNeg, h33, h36])
  all_goals
    clear h33 h36
    refine congrArg some (congrArg (SV.int .i64) ?_)
    simp only [ck, ckB]
    generalize (S.any fun s => !srB s) = A at *
    generalize (F.any fun s => !fdB s) = B at *
    generalize S.length = ls at *
    generalize F.length = lf at *
    cases A <;> cases B <;> simp only [Bool.not_true, Bool.not_false, Bool.and_true, Bool.and_false, cond_false, Bool.cond_eq_ite, Bool.and_eq_true, decide_eq_true_eq] <;> grind
theorem s59 (n : Nat) (H : Heap) (S F f1 f2) (hS : okS S) (hF : F.length ≤ maxLen) : call1 T (n + 7) (.fn 59) [sp S f1 F f2] H = some (.int .i64 (ck S F), H) := s12z n H S F f1 f2 6 (.inl rfl) hS hF
theorem ck_s {S : List Src} {F : List Fd} {i : Nat} {s : Src} (h : S[i]? = some s) (hb : srB s = false) : ck S F = 1 := by
  have : S.any (fun s => !srB s) = true := List.any_eq_true.2 ⟨s, List.mem_of_getElem? h, by simp [hb]⟩
  simp only [ck, ckB, this, Bool.not_true, Bool.and_false, Bool.false_and, cond_false]
theorem ck_f {S : List Src} {F : List Fd} {i : Nat} {s : Fd} (h : F[i]? = some s) (hb : fdB s = false) : ck S F = 1 := by
  have : F.any (fun s => !fdB s) = true := List.any_eq_true.2 ⟨s, List.mem_of_getElem? h, by simp [hb]⟩
  simp only [ck, ckB, this, Bool.not_true, Bool.and_false, Bool.false_and, cond_false]
theorem ck_ok {S : List Src} {F : List Fd} (h1 : S.length ≤ 16) (h2 : F.length ≤ 64) (hS : ∀ (j : Nat) s, S[j]? = some s → srB s = true) (hF : ∀ (j : Nat) s, F[j]? = some s → fdB s = true) : ck S F = 0 := by
  have a : S.any (fun s => !srB s) = false := by
    rw [List.any_eq_false]; intro s hs
    obtain ⟨j, hj⟩ := List.mem_iff_getElem?.1 hs
    simp [hS j s hj]
  have b : F.any (fun s => !fdB s) = false := by
    rw [List.any_eq_false]; intro s hs
    obtain ⟨j, hj⟩ := List.mem_iff_getElem?.1 hs
    simp [hF j s hj]
  simp only [ck, ckB, a, b, h1, h2, decide_true, Bool.not_false, Bool.and_true, cond_true]
theorem s44 (n : Nat) (H : Heap) (S F f1 f2) (hS : okS S) (hF : F.length ≤ maxLen) : call1 T (n + 3) (.fn 44) [sp S f1 F f2] H = some (.int .i64 (ck S F), H) := by
  refine call_pure e44 (by rfl) ?_
  simp only [c44, heap0, go_sem, Int.cast_ofNat_Int, Int.reduceToNat, Bool.true_xor, Bool.false_xor, Bool.xor_true, Bool.xor_false, Nat.reduceAdd, Nat.reduceBEq, Nat.reduceLeDiff, Nat.reduceLT, Nat.reduceMul, Nat.reduceSub, Int.reduceEq, Int.reduceLT, Int.reduceLE, Int.reduceNeg]
  repeat' (with_reducible refine fork_split (fun _ => ?_) (fun _ => ?_) <;> simp only [*, go_sem, Int.cast_ofNat_Int, Int.reduceToNat, Bool.true_xor, Bool.false_xor, Bool.xor_true, Bool.xor_false, Nat.reduceAdd, Nat.reduceBEq, Nat.reduceLeDiff, Nat.reduceLT, Nat.reduceMul, Nat.reduceSub, Int.reduceEq, Int.reduceLT, Int.reduceLE, Int.reduceNeg])
  all_goals try (
    with_reducible refine congrArg some (congrArg (SV.int .i64) ?_)
    simp only [ck, ckB, Bool.cond_eq_ite, Bool.and_eq_true, decide_eq_true_eq]
    simp only [decide_eq_true_eq] at *
    rw [if_neg (by omega)]
    done)
  have hl1 : S.length ≤ 16 := by simp only [decide_eq_false_iff_not] at *; omega
  have hl2 : F.length ≤ 64 := by simp only [decide_eq_false_iff_not] at *; omega
  refine loop_rule (fun i => ([(1, .ptr 0 0 0 0), (3, .int .i64 i)], ⟨[.box [.lst 7 (srsS S) f1, .lst 6 (fdsS F) f2]], [], 0⟩)) (fun i => ∀ (j : Nat) s, j < i → S[j]? = some s → srB s = true) S.length ?_ (fun j s h => by omega) ?_
  · simp only [go_sem, Int.cast_ofNat_Int, Int.reduceToNat, Bool.true_xor, Bool.false_xor, Bool.xor_true, Bool.xor_false, Nat.reduceAdd, Nat.reduceBEq, Nat.reduceLeDiff, Nat.reduceLT, Nat.reduceMul, Nat.reduceSub, Int.reduceEq, Int.reduceLT, Int.reduceLE, Int.reduceNeg] <;> rfl
  · intro i hi hP
    rcases Nat.lt_or_ge i S.length with hlt | hge
    · obtain ⟨s, hs⟩ := getS hlt
      have hw := w64_suc hlt hS.1
      have h39 := fun H => s63 n H s (hS.2 s (List.mem_of_getElem? hs))
      cases hb : srB s with
      | false => simp only [go_sem, Int.cast_ofNat_Int, Int.reduceToNat, Bool.true_xor, Bool.false_xor, Bool.xor_true, Bool.xor_false, Nat.reduceAdd, Nat.reduceBEq, Nat.reduceLeDiff, Nat.reduceLT, Nat.reduceMul, Nat.reduceSub, Int.reduceEq, Int.reduceLT, Int.reduceLE, Int.reduceNeg, hlt, hs, h39, hb, ck_s hs hb]
      | true =>
        simp only [go_sem, Int.cast_ofNat_Int, Int.reduceToNat, Bool.true_xor, Bool.false_xor, Bool.xor_true, Bool.xor_false, Nat.reduceAdd, Nat.reduceBEq, Nat.reduceLeDiff, Nat.reduceLT, Nat.reduceMul, Nat.reduceSub, Int.reduceEq, Int.reduceLT, Int.reduceLE, Int.reduceNeg, hlt, hs, h39, hb, hw]
        refine ⟨by first | trivial | omega, by first | trivial | rfl, ?_⟩
        intro j s' hj hs'
        rcases Nat.lt_or_ge j i with h3 | h3
        · exact hP j s' h3 hs'
        · have : j = i := by omega
          subst this
          rw [hs] at hs'; cases hs'
          exact hb
    · have hlt : ¬ i < S.length := by omega
      simp only [go_sem, Int.cast_ofNat_Int, Int.reduceToNat, Bool.true_xor, Bool.false_xor, Bool.xor_true, Bool.xor_false, Nat.reduceAdd, Nat.reduceBEq, Nat.reduceLeDiff, Nat.reduceLT, Nat.reduceMul, Nat.reduceSub, Int.reduceEq, Int.reduceLT, Int.reduceLE, Int.reduceNeg, hlt]
      refine loop_rule (fun i => ([(1, .ptr 0 0 0 0), (4, .int .i64 i)], ⟨[.box [.lst 7 (srsS S) f1, .lst 6 (fdsS F) f2]], [], 0⟩)) (fun i => ∀ (j : Nat) s, j < i → F[j]? = some s → fdB s = true) F.length ?_ (fun j s h => by omega) ?_
      · simp only [go_sem, Int.cast_ofNat_Int, Int.reduceToNat, Bool.true_xor, Bool.false_xor, Bool.xor_true, Bool.xor_false, Nat.reduceAdd, Nat.reduceBEq, Nat.reduceLeDiff, Nat.reduceLT, Nat.reduceMul, Nat.reduceSub, Int.reduceEq, Int.reduceLT, Int.reduceLE, Int.reduceNeg] <;> rfl
      · intro k hk hK
        rcases Nat.lt_or_ge k F.length with hlt3 | hge3
        · obtain ⟨s, hs⟩ := getS hlt3
          have hw := w64_suc hlt3 hF
          have h40 := fun H => s64 n H s
          cases hb : fdB s with
          | false => simp only [go_sem, Int.cast_ofNat_Int, Int.reduceToNat, Bool.true_xor, Bool.false_xor, Bool.xor_true, Bool.xor_false, Nat.reduceAdd, Nat.reduceBEq, Nat.reduceLeDiff, Nat.reduceLT, Nat.reduceMul, Nat.reduceSub, Int.reduceEq, Int.reduceLT, Int.reduceLE, Int.reduceNeg, hlt3, hs, h40, hb, ck_f hs hb]
          | true =>
            simp only [go_sem, Int.cast_ofNat_Int, Int.reduceToNat, Bool.true_xor, Bool.false_xor, Bool.xor_true, Bool.xor_false, Nat.reduceAdd, Nat.reduceBEq, Nat.reduceLeDiff, Nat.reduceLT, Nat.reduceMul, Nat.reduceSub, Int.reduceEq, Int.reduceLT, Int.reduceLE, Int.reduceNeg, hlt3, hs, h40, hb, hw]
            refine ⟨by first | trivial | omega, by first | trivial | rfl, ?_⟩
            intro j s' hj hs'
            rcases Nat.lt_or_ge j k with h3 | h3
            · exact hK j s' h3 hs'
            · have : j = k := by omega
              subst this
              rw [hs] at hs'; cases hs'
              exact hb
        · have hlt3 : ¬ k < F.length := by omega
          have hck := ck_ok hl1 hl2 (fun j s hj => hP j s (by have := (List.getElem?_eq_some_iff.1 hj).1; omega) hj) (fun j s hj => hK j s (by have := (List.getElem?_eq_some_iff.1 hj).1; omega) hj)
          simp only [go_sem, Int.cast_ofNat_Int, Int.reduceToNat, Bool.true_xor, Bool.false_xor, Bool.xor_true, Bool.xor_false, Nat.reduceAdd, Nat.reduceBEq, Nat.reduceLeDiff, Nat.reduceLT, Nat.reduceMul, Nat.reduceSub, Int.reduceEq, Int.reduceLT, Int.reduceLE, Int.reduceNeg, hlt3, hck]
def fewB (S : List Src) (F : List Fd) : Bool := decide (S.length ≤ 20) && decide (F.length ≤ 70) && !S.any (fun s => decide (20 < s.C.length))
theorem few_no {S : List Src} {F : List Fd} {i : Nat} {s : Src} (h : S[i]? = some s) (hb : 20 < s.C.length) : fewB S F = false := by
  have : S.any (fun s => decide (20 < s.C.length)) = true := List.any_eq_true.2 ⟨s, List.mem_of_getElem? h, by simp [hb]⟩
  simp only [fewB, this, Bool.not_true, Bool.and_false]
theorem few_ok {S : List Src} {F : List Fd} (h1 : S.length ≤ 20) (h2 : F.length ≤ 70) (hS : ∀ (j : Nat) s, S[j]? = some s → s.C.length ≤ 20) : fewB S F = true := by
  have a : S.any (fun s => decide (20 < s.C.length)) = false := by
    rw [List.any_eq_false]; intro s hs
    obtain ⟨j, hj⟩ := List.mem_iff_getElem?.1 hs
    have := hS j s hj
    simp; omega
  simp only [fewB, a, h1, h2, decide_true, Bool.not_false, Bool.and_true]
theorem few_of {S : List Src} {F : List Fd} (h : fewB S F = true) : S.length ≤ 20 ∧ F.length ≤ 70 ∧ ∀ s ∈ S, s.C.length ≤ 20 := by
  simp only [fewB, Bool.and_eq_true, decide_eq_true_eq, Bool.not_eq_true', List.any_eq_false, Nat.not_lt] at h
  exact ⟨h.1.1, h.1.2, h.2⟩
theorem s39 (n : Nat) (H : Heap) (S F f1 f2) (hS : S.length ≤ maxLen) : call1 T (n + 2) (.fn 39) [sp S f1 F f2] H = some (.bool (fewB S F), H) := by
  refine call_pure e39 (by rfl) ?_
  simp only [c39, heap0, go_sem, Int.cast_ofNat_Int, Int.reduceToNat, Bool.true_xor, Bool.false_xor, Bool.xor_true, Bool.xor_false, Nat.reduceAdd, Nat.reduceBEq, Nat.reduceLeDiff, Nat.reduceLT, Nat.reduceMul, Nat.reduceSub, Int.reduceEq, Int.reduceLT, Int.reduceLE, Int.reduceNeg]
  repeat' (with_reducible refine fork_split (fun _ => ?_) (fun _ => ?_) <;> simp only [*, go_sem, Int.cast_ofNat_Int, Int.reduceToNat, Bool.true_xor, Bool.false_xor, Bool.xor_true, Bool.xor_false, Nat.reduceAdd, Nat.reduceBEq, Nat.reduceLeDiff, Nat.reduceLT, Nat.reduceMul, Nat.reduceSub, Int.reduceEq, Int.reduceLT, Int.reduceLE, Int.reduceNeg])
  all_goals try (
    with_reducible refine congrArg some (congrArg SV.bool ?_)
    simp only [decide_eq_true_eq] at *
    rw [eq_comm, Bool.eq_false_iff]
    intro hq
    have := few_of hq
    omega)
  have hl1 : S.length ≤ 20 := by simp only [decide_eq_false_iff_not] at *; omega
  have hl2 : F.length ≤ 70 := by simp only [decide_eq_false_iff_not] at *; omega
  refine loop_rule (fun i => ([(1, .ptr 0 0 0 0), (3, .int .i64 i)], ⟨[.box [.lst 7 (srsS S) f1, .lst 6 (fdsS F) f2]], [], 0⟩)) (fun i => ∀ (j : Nat) s, j < i → S[j]? = some s → s.C.length ≤ 20) S.length ?_ (fun j s h => by omega) ?_
  · simp only [go_sem, Int.cast_ofNat_Int, Int.reduceToNat, Bool.true_xor, Bool.false_xor, Bool.xor_true, Bool.xor_false, Nat.reduceAdd, Nat.reduceBEq, Nat.reduceLeDiff, Nat.reduceLT, Nat.reduceMul, Nat.reduceSub, Int.reduceEq, Int.reduceLT, Int.reduceLE, Int.reduceNeg] <;> rfl
  · intro i hi hP
    rcases Nat.lt_or_ge i S.length with hlt | hge
    · obtain ⟨s, hs⟩ := getS hlt
      have hw := w64_suc hlt hS
      rcases Nat.lt_or_ge 20 s.C.length with hb | hb
      · have hb' : decide (20 < (s.C.length : Int)) = true := decide_eq_true (by omega)
        simp only [go_sem, Int.cast_ofNat_Int, Int.reduceToNat, Bool.true_xor, Bool.false_xor, Bool.xor_true, Bool.xor_false, Nat.reduceAdd, Nat.reduceBEq, Nat.reduceLeDiff, Nat.reduceLT, Nat.reduceMul, Nat.reduceSub, Int.reduceEq, Int.reduceLT, Int.reduceLE, Int.reduceNeg, hlt, hs, hb', few_no hs hb]
      · have hb' : decide (20 < (s.C.length : Int)) = false := decide_eq_false (by omega)
        simp only [go_sem, Int.cast_ofNat_Int, Int.reduceToNat, Bool.true_xor, Bool.false_xor, Bool.xor_true, Bool.xor_false, Nat.reduceAdd, Nat.reduceBEq, Nat.reduceLeDiff, Nat.reduceLT, Nat.reduceMul, Nat.reduceSub, Int.reduceEq, Int.reduceLT, Int.reduceLE, Int.reduceNeg, hlt, hs, hb', hw]
        refine ⟨by first | trivial | omega, by first | trivial | rfl, ?_⟩
        intro j s' hj hs'
        rcases Nat.lt_or_ge j i with h3 | h3
        · exact hP j s' h3 hs'
        · have : j = i := by omega
          subst this
          rw [hs] at hs'; cases hs'
          exact hb
    · have hlt : ¬ i < S.length := by omega
      have hfo := few_ok hl1 hl2 (fun j s hj => hP j s (by have := (List.getElem?_eq_some_iff.1 hj).1; omega) hj)
      simp only [go_sem, Int.cast_ofNat_Int, Int.reduceToNat, Bool.true_xor, Bool.false_xor, Bool.xor_true, Bool.xor_false, Nat.reduceAdd, Nat.reduceBEq, Nat.reduceLeDiff, Nat.reduceLT, Nat.reduceMul, Nat.reduceSub, Int.reduceEq, Int.reduceLT, Int.reduceLE, Int.reduceNeg, hlt, hfo]
theorem x48 : T 105 = some stdIdx := e105
theorem x20 : T 92 = some (stdCon 105) := e92
theorem x24 : T 12 = some stdEq := e12
theorem s92 (n : Nat) (H : Heap) (C : List Int) (f : Bool) (c : Int) (hC : C.length ≤ maxLen) : call1 T (n + 2) (.fn 92) [.lst 1 (iS C) f, .int .i64 c] H = some (.bool (decide (c ∈ C)), H) :=
  stdCon_ok x20 x48 (.lst 1 f (.inl rfl)) hC
theorem s50 (n : Nat) (H : Heap) (C : List Int) (f : Bool) (c : Int) (hC : C.length ≤ maxLen) : call1 T (n + 1) (.fn 50) [.lst 1 (iS C) f, .int .i64 c] H = some (.bool (decide (c ∈ C)), H) := by
  refine call_pure e50 (by rfl) ?_
  simp only [c50, heap0, go_sem, Int.cast_ofNat_Int, Int.reduceToNat, Bool.true_xor, Bool.false_xor, Bool.xor_true, Bool.xor_false, Nat.reduceAdd, Nat.reduceBEq, Nat.reduceLeDiff, Nat.reduceLT, Nat.reduceMul, Nat.reduceSub, Int.reduceEq, Int.reduceLT, Int.reduceLE, Int.reduceNeg]
  refine loop_rule (fun i => ([(0, .lst 1 (iS C) f), (1, .int .i64 c), (5, .int .i64 i)], ⟨[], [], 0⟩)) (fun i => ∀ (j : Nat) x, j < i → C[j]? = some x → x ≠ c) C.length ?_ (fun j x h => by omega) ?_
  · simp only [go_sem, Int.cast_ofNat_Int, Int.reduceToNat, Bool.true_xor, Bool.false_xor, Bool.xor_true, Bool.xor_false, Nat.reduceAdd, Nat.reduceBEq, Nat.reduceLeDiff, Nat.reduceLT, Nat.reduceMul, Nat.reduceSub, Int.reduceEq, Int.reduceLT, Int.reduceLE, Int.reduceNeg] <;> rfl
  · intro i hi hP
    rcases Nat.lt_or_ge i C.length with hlt | hge
    · obtain ⟨x, hx⟩ := getS hlt
      have hw := w64_suc hlt hC
      by_cases hb : x = c
      · have hm : decide (c ∈ C) = true := decide_eq_true (hb ▸ List.mem_of_getElem? hx)
        simp only [go_sem, Int.cast_ofNat_Int, Int.reduceToNat, Bool.true_xor, Bool.false_xor, Bool.xor_true, Bool.xor_false, Nat.reduceAdd, Nat.reduceBEq, Nat.reduceLeDiff, Nat.reduceLT, Nat.reduceMul, Nat.reduceSub, Int.reduceEq, Int.reduceLT, Int.reduceLE, Int.reduceNeg, hlt, hx, hb, hm]
      · simp only [go_sem, Int.cast_ofNat_Int, Int.reduceToNat, Bool.true_xor, Bool.false_xor, Bool.xor_true, Bool.xor_false, Nat.reduceAdd, Nat.reduceBEq, Nat.reduceLeDiff, Nat.reduceLT, Nat.reduceMul, Nat.reduceSub, Int.reduceEq, Int.reduceLT, Int.reduceLE, Int.reduceNeg, hlt, hx, hb, hw, decide_false]
        refine ⟨by first | trivial | omega, by first | trivial | rfl, ?_⟩
        intro j y hj hy
        rcases Nat.lt_or_ge j i with h3 | h3
        · exact hP j y h3 hy
        · have : j = i := by omega
          subst this
          rw [hx] at hy; cases hy
          exact hb
    · have hlt : ¬ i < C.length := by omega
      have hm : decide (c ∈ C) = false := decide_eq_false (fun h => by
        obtain ⟨j, hj⟩ := List.mem_iff_getElem?.1 h
        exact hP j c (by have := (List.getElem?_eq_some_iff.1 hj).1; omega) hj rfl)
      simp only [go_sem, Int.cast_ofNat_Int, Int.reduceToNat, Bool.true_xor, Bool.false_xor, Bool.xor_true, Bool.xor_false, Nat.reduceAdd, Nat.reduceBEq, Nat.reduceLeDiff, Nat.reduceLT, Nat.reduceMul, Nat.reduceSub, Int.reduceEq, Int.reduceLT, Int.reduceLE, Int.reduceNeg, hlt, hm]
theorem s46k (n : Nat) (bl es ro) (S f1 F f2) (c x y : Int) : call1 T (n + 1) (.kfn 70) [sp S f1 F f2, .int .i64 c, .int .i64 x, .int .i64 y] ⟨bl, es, ro⟩ =
    some (.fn 91 [.ptr bl.length 0 0 0, .ptr (bl.length + 1) 0 0 0, .ptr (bl.length + 2) 0 0 0, .ptr (bl.length + 3) 0 0 0], ⟨bl ++ [.box [.lst 7 (srsS S) f1, .lst 6 (fdsS F) f2], .box [.int .i64 c], .box [.int .i64 x], .box [.int .i64 y]], es, ro⟩) := by
  refine kcall_in e70 ?_
  simp only [c70, go_sem, Int.cast_ofNat_Int, Int.reduceToNat, Bool.true_xor, Bool.false_xor, Bool.xor_true, Bool.xor_false, Nat.reduceAdd, Nat.reduceBEq, Nat.reduceLeDiff, Nat.reduceLT, Nat.reduceMul, Nat.reduceSub, Int.reduceEq, Int.reduceLT, Int.reduceLE, Int.reduceNeg, List.append_assoc, List.length_append]
/-- Whether a transmitter is on, on a channel, if all is valid. -/
def hit (c x y : Int) (s : Src) : Bool := decide (c ∈ s.C) && onB s x y
def hitF {A : Type} (u : A → Src → A) (c x y : Int) (v : A) (s : Src) : A := if hit c x y s = true then u v s else v
theorem foldl_take {A B : Type} (f : A → B → A) (z : A) {l : List B} {i : Nat} {x : B} (h : l[i]? = some x) : (l.take (i + 1)).foldl f z = f ((l.take i).foldl f z) x := by
  rw [List.take_add_one, h]; simp
theorem s76a (n : Nat) (q : LoopRec) (X0 X1 X2 : SBlk) {A : Type} (Xa : A → SBlk) (u : A → Src → A) (f1 f2 : Bool) (S : List Src) (F : List Fd) (c x y : Int) (hS : okS S) (hv : ∀ s ∈ S, perB s.per s.fr s.to = true) (hi : ivB x y = true)
    (hy : ∀ (v : A) (s : Src) (X : SBlk), s ∈ S → call1 T (n + 6) (.yld 8) [.agg (srC s)] ⟨[X0, X1, X2, Xa v, .box [.lst 7 (srsS S) f1, .lst 6 (fdsS F) f2], .box [.int .i64 c], .box [.int .i64 x], .box [.int .i64 y], .loop q .ready .normal, X], [], 0⟩ = some (.bool true, ⟨[X0, X1, X2, Xa (u v s), .box [.lst 7 (srsS S) f1, .lst 6 (fdsS F) f2], .box [.int .i64 c], .box [.int .i64 x], .box [.int .i64 y], .loop q .ready .normal, X], [], 0⟩)) (v : A) :
    call1 T (n + 7) (.fn 91) [.yld 8, .ptr 4 0 0 0, .ptr 5 0 0 0, .ptr 6 0 0 0, .ptr 7 0 0 0] ⟨[X0, X1, X2, Xa v, .box [.lst 7 (srsS S) f1, .lst 6 (fdsS F) f2], .box [.int .i64 c], .box [.int .i64 x], .box [.int .i64 y], .loop q .ready .normal], [], 0⟩ = some (.tup [], ⟨[X0, X1, X2, Xa (S.foldl (hitF u c x y) v), .box [.lst 7 (srsS S) f1, .lst 6 (fdsS F) f2], .box [.int .i64 c], .box [.int .i64 x], .box [.int .i64 y], .loop q .ready .normal], [], 0⟩) := by
  refine call_in e91 (by rfl) ?_
  simp only [c91, go_sem, Int.cast_ofNat_Int, Int.reduceToNat, Bool.true_xor, Bool.false_xor, Bool.xor_true, Bool.xor_false, Nat.reduceAdd, Nat.reduceBEq, Nat.reduceLeDiff, Nat.reduceLT, Nat.reduceMul, Nat.reduceSub, Int.reduceEq, Int.reduceLT, Int.reduceLE, Int.reduceNeg]
  refine loop_rule (fun i => ([(0, .yld 8), (2, .ptr 5 0 0 0), (3, .ptr 6 0 0 0), (4, .ptr 7 0 0 0), (9, .lst 7 (srsS S) f1), (10, .int .i64 S.length), (11, .int .i64 i)], ⟨[X0, X1, X2, Xa ((S.take i).foldl (hitF u c x y) v), .box [.lst 7 (srsS S) f1, .lst 6 (fdsS F) f2], .box [.int .i64 c], .box [.int .i64 x], .box [.int .i64 y], .loop q .ready .normal], [], 0⟩)) (fun _ => True) S.length ?_ trivial ?_
  · simp only [go_sem, Int.cast_ofNat_Int, Int.reduceToNat, Bool.true_xor, Bool.false_xor, Bool.xor_true, Bool.xor_false, Nat.reduceAdd, Nat.reduceBEq, Nat.reduceLeDiff, Nat.reduceLT, Nat.reduceMul, Nat.reduceSub, Int.reduceEq, Int.reduceLT, Int.reduceLE, Int.reduceNeg] <;> rfl
  · intro i hi' _
    rcases Nat.lt_or_ge i S.length with hlt | hge
    · obtain ⟨s, hs⟩ := getS hlt
      have hm := List.mem_of_getElem? hs
      have hw := w64_suc hlt hS.1
      have hf := foldl_take (hitF u c x y) v hs
      have h20 := fun H => s92 (n + 4) H s.C s.f c (hS.2 s hm)
      have h42 := fun H => s93 (n + 5) H s x y (hv s hm) hi
      have hyy := fun v X => hy v s X hm
      simp only [go_sem, Int.cast_ofNat_Int, Int.reduceToNat, Bool.true_xor, Bool.false_xor, Bool.xor_true, Bool.xor_false, Nat.reduceAdd, Nat.reduceBEq, Nat.reduceLeDiff, Nat.reduceLT, Nat.reduceMul, Nat.reduceSub, Int.reduceEq, Int.reduceLT, Int.reduceLE, Int.reduceNeg, hlt, hs, h20, hf, hitF, hit]
      cases hc : decide (c ∈ s.C) with
      | false =>
        simp only [go_sem, Int.cast_ofNat_Int, Int.reduceToNat, Bool.true_xor, Bool.false_xor, Bool.xor_true, Bool.xor_false, Nat.reduceAdd, Nat.reduceBEq, Nat.reduceLeDiff, Nat.reduceLT, Nat.reduceMul, Nat.reduceSub, Int.reduceEq, Int.reduceLT, Int.reduceLE, Int.reduceNeg, hw, hf, hitF, hit, hc, Bool.false_and, Bool.false_eq_true, if_false]
        exact ⟨hlt, rfl, trivial⟩
      | true =>
        simp only [go_sem, Int.cast_ofNat_Int, Int.reduceToNat, Bool.true_xor, Bool.false_xor, Bool.xor_true, Bool.xor_false, Nat.reduceAdd, Nat.reduceBEq, Nat.reduceLeDiff, Nat.reduceLT, Nat.reduceMul, Nat.reduceSub, Int.reduceEq, Int.reduceLT, Int.reduceLE, Int.reduceNeg, h42, hc, Bool.true_and]
        cases ho : onB s x y with
        | false =>
          simp only [go_sem, Int.cast_ofNat_Int, Int.reduceToNat, Bool.true_xor, Bool.false_xor, Bool.xor_true, Bool.xor_false, Nat.reduceAdd, Nat.reduceBEq, Nat.reduceLeDiff, Nat.reduceLT, Nat.reduceMul, Nat.reduceSub, Int.reduceEq, Int.reduceLT, Int.reduceLE, Int.reduceNeg, hw, hf, hitF, hit, hc, ho, Bool.true_and, Bool.false_eq_true, if_false]
          exact ⟨hlt, rfl, trivial⟩
        | true =>
          simp only [go_sem, Int.cast_ofNat_Int, Int.reduceToNat, Bool.true_xor, Bool.false_xor, Bool.xor_true, Bool.xor_false, Nat.reduceAdd, Nat.reduceBEq, Nat.reduceLeDiff, Nat.reduceLT, Nat.reduceMul, Nat.reduceSub, Int.reduceEq, Int.reduceLT, Int.reduceLE, Int.reduceNeg, hw, hf, hitF, hit, hc, ho, hyy, Bool.true_and, if_true]
          exact ⟨hlt, rfl, trivial⟩
    · have hlt : ¬ i < S.length := by omega
      have ht : S.take i = S := List.take_of_length_le hge
      simp only [go_sem, Int.cast_ofNat_Int, Int.reduceToNat, Bool.true_xor, Bool.false_xor, Bool.xor_true, Bool.xor_false, Nat.reduceAdd, Nat.reduceBEq, Nat.reduceLeDiff, Nat.reduceLT, Nat.reduceMul, Nat.reduceSub, Int.reduceEq, Int.reduceLT, Int.reduceLE, Int.reduceNeg, hlt, ht]
theorem s76b (n : Nat) (q : LoopRec) (X0 X1 : SBlk) {A : Type} (Xa : A → SBlk) (u : A → Src → A) (f1 f2 : Bool) (S : List Src) (F : List Fd) (c x y : Int) (hS : okS S) (hv : ∀ s ∈ S, perB s.per s.fr s.to = true) (hi : ivB x y = true)
    (hy : ∀ (v : A) (s : Src) (X : SBlk), s ∈ S → call1 T (n + 6) (.yld 7) [.agg (srC s)] ⟨[X0, X1, Xa v, .box [.lst 7 (srsS S) f1, .lst 6 (fdsS F) f2], .box [.int .i64 c], .box [.int .i64 x], .box [.int .i64 y], .loop q .ready .normal, X], [], 0⟩ = some (.bool true, ⟨[X0, X1, Xa (u v s), .box [.lst 7 (srsS S) f1, .lst 6 (fdsS F) f2], .box [.int .i64 c], .box [.int .i64 x], .box [.int .i64 y], .loop q .ready .normal, X], [], 0⟩)) (v : A) :
    call1 T (n + 7) (.fn 91) [.yld 7, .ptr 3 0 0 0, .ptr 4 0 0 0, .ptr 5 0 0 0, .ptr 6 0 0 0] ⟨[X0, X1, Xa v, .box [.lst 7 (srsS S) f1, .lst 6 (fdsS F) f2], .box [.int .i64 c], .box [.int .i64 x], .box [.int .i64 y], .loop q .ready .normal], [], 0⟩ = some (.tup [], ⟨[X0, X1, Xa (S.foldl (hitF u c x y) v), .box [.lst 7 (srsS S) f1, .lst 6 (fdsS F) f2], .box [.int .i64 c], .box [.int .i64 x], .box [.int .i64 y], .loop q .ready .normal], [], 0⟩) := by
  refine call_in e91 (by rfl) ?_
  simp only [c91, go_sem, Int.cast_ofNat_Int, Int.reduceToNat, Bool.true_xor, Bool.false_xor, Bool.xor_true, Bool.xor_false, Nat.reduceAdd, Nat.reduceBEq, Nat.reduceLeDiff, Nat.reduceLT, Nat.reduceMul, Nat.reduceSub, Int.reduceEq, Int.reduceLT, Int.reduceLE, Int.reduceNeg]
  refine loop_rule (fun i => ([(0, .yld 7), (2, .ptr 4 0 0 0), (3, .ptr 5 0 0 0), (4, .ptr 6 0 0 0), (9, .lst 7 (srsS S) f1), (10, .int .i64 S.length), (11, .int .i64 i)], ⟨[X0, X1, Xa ((S.take i).foldl (hitF u c x y) v), .box [.lst 7 (srsS S) f1, .lst 6 (fdsS F) f2], .box [.int .i64 c], .box [.int .i64 x], .box [.int .i64 y], .loop q .ready .normal], [], 0⟩)) (fun _ => True) S.length ?_ trivial ?_
  · simp only [go_sem, Int.cast_ofNat_Int, Int.reduceToNat, Bool.true_xor, Bool.false_xor, Bool.xor_true, Bool.xor_false, Nat.reduceAdd, Nat.reduceBEq, Nat.reduceLeDiff, Nat.reduceLT, Nat.reduceMul, Nat.reduceSub, Int.reduceEq, Int.reduceLT, Int.reduceLE, Int.reduceNeg] <;> rfl
  · intro i hi' _
    rcases Nat.lt_or_ge i S.length with hlt | hge
    · obtain ⟨s, hs⟩ := getS hlt
      have hm := List.mem_of_getElem? hs
      have hw := w64_suc hlt hS.1
      have hf := foldl_take (hitF u c x y) v hs
      have h20 := fun H => s92 (n + 4) H s.C s.f c (hS.2 s hm)
      have h42 := fun H => s93 (n + 5) H s x y (hv s hm) hi
      have hyy := fun v X => hy v s X hm
      simp only [go_sem, Int.cast_ofNat_Int, Int.reduceToNat, Bool.true_xor, Bool.false_xor, Bool.xor_true, Bool.xor_false, Nat.reduceAdd, Nat.reduceBEq, Nat.reduceLeDiff, Nat.reduceLT, Nat.reduceMul, Nat.reduceSub, Int.reduceEq, Int.reduceLT, Int.reduceLE, Int.reduceNeg, hlt, hs, h20, hf, hitF, hit]
      cases hc : decide (c ∈ s.C) with
      | false =>
        simp only [go_sem, Int.cast_ofNat_Int, Int.reduceToNat, Bool.true_xor, Bool.false_xor, Bool.xor_true, Bool.xor_false, Nat.reduceAdd, Nat.reduceBEq, Nat.reduceLeDiff, Nat.reduceLT, Nat.reduceMul, Nat.reduceSub, Int.reduceEq, Int.reduceLT, Int.reduceLE, Int.reduceNeg, hw, hf, hitF, hit, hc, Bool.false_and, Bool.false_eq_true, if_false]
        exact ⟨hlt, rfl, trivial⟩
      | true =>
        simp only [go_sem, Int.cast_ofNat_Int, Int.reduceToNat, Bool.true_xor, Bool.false_xor, Bool.xor_true, Bool.xor_false, Nat.reduceAdd, Nat.reduceBEq, Nat.reduceLeDiff, Nat.reduceLT, Nat.reduceMul, Nat.reduceSub, Int.reduceEq, Int.reduceLT, Int.reduceLE, Int.reduceNeg, h42, hc, Bool.true_and]
        cases ho : onB s x y with
        | false =>
          simp only [go_sem, Int.cast_ofNat_Int, Int.reduceToNat, Bool.true_xor, Bool.false_xor, Bool.xor_true, Bool.xor_false, Nat.reduceAdd, Nat.reduceBEq, Nat.reduceLeDiff, Nat.reduceLT, Nat.reduceMul, Nat.reduceSub, Int.reduceEq, Int.reduceLT, Int.reduceLE, Int.reduceNeg, hw, hf, hitF, hit, hc, ho, Bool.true_and, Bool.false_eq_true, if_false]
          exact ⟨hlt, rfl, trivial⟩
        | true =>
          simp only [go_sem, Int.cast_ofNat_Int, Int.reduceToNat, Bool.true_xor, Bool.false_xor, Bool.xor_true, Bool.xor_false, Nat.reduceAdd, Nat.reduceBEq, Nat.reduceLeDiff, Nat.reduceLT, Nat.reduceMul, Nat.reduceSub, Int.reduceEq, Int.reduceLT, Int.reduceLE, Int.reduceNeg, hw, hf, hitF, hit, hc, ho, hyy, Bool.true_and, if_true]
          exact ⟨hlt, rfl, trivial⟩
    · have hlt : ¬ i < S.length := by omega
      have ht : S.take i = S := List.take_of_length_le hge
      simp only [go_sem, Int.cast_ofNat_Int, Int.reduceToNat, Bool.true_xor, Bool.false_xor, Bool.xor_true, Bool.xor_false, Nat.reduceAdd, Nat.reduceBEq, Nat.reduceLeDiff, Nat.reduceLT, Nat.reduceMul, Nat.reduceSub, Int.reduceEq, Int.reduceLT, Int.reduceLE, Int.reduceNeg, hlt, ht]
@[go_sem] theorem ck0 (S F) : decide (ck S F = 0) = ckB S F := by unfold ck; cases ckB S F <;> rfl
@[go_sem] theorem gchk0 (N P W ex no th) : decide (G.chkI N P W ex no th = 0) = G.okI N P W ex no th := by
  unfold G.chkI; cases G.okI N P W ex no th <;> rfl
def V3 (a b c : Bool) (v : Int) : Int := bif a && b && c then v else 0
def E3 (a b c : Bool) : Int := bif a then (bif b then (bif c then 0 else 2) else 7) else 1
def inB (n : Nat) (a : Int) : Bool := decide (0 ≤ a) && decide (a < n)
theorem in_iff {n : Nat} {a : Int} : inB n a = true ↔ ∃ k : Nat, a = k ∧ k < n := by
  unfold inB
  rw [Bool.and_eq_true, decide_eq_true_eq, decide_eq_true_eq]
  constructor
  · rintro ⟨h1, h2⟩; exact ⟨a.toNat, by omega, by omega⟩
  · rintro ⟨k, rfl, h⟩; omega
theorem in_no {n : Nat} {a : Int} (h : inB n a = false) : decide (a < 0) = true ∨ (decide (a < 0) = false ∧ decide ((n : Int) ≤ a) = true) := by
  unfold inB at h
  simp only [Bool.and_eq_false_iff, decide_eq_false_iff_not, decide_eq_true_eq] at *
  omega
theorem in_yes {n k : Nat} (h : k < n) : decide ((k : Int) < 0) = false ∧ decide ((n : Int) ≤ (k : Int)) = false := by
  simp only [decide_eq_false_iff_not]; omega
theorem ckB_src {S F} (h : ckB S F = true) : ∀ s ∈ S, srB s = true := by
  intro s hs
  simp only [ckB, Bool.and_eq_true, Bool.not_eq_true'] at h
  have := List.any_eq_false.1 h.1.2 s hs
  simpa using this
def exA (N : List (Int × Int)) (P : List Int) (W : List G.Wl) (ex no th : Int) (k : Nat) (s : Src) : Int :=
  G.AtV (G.atI W ex s.a s.b s.p (G.nd N k).1 (G.nd N k).2) (G.okI N P W ex no th) (G.argI s.a s.b s.p (G.nd N k).1 (G.nd N k).2)
def exR (N : List (Int × Int)) (P : List Int) (W : List G.Wl) (ex no th : Int) (k : Nat) (s : Src) : Int :=
  G.AtV (G.atR W ex s.a s.b s.p (G.nd N k).1 (G.nd N k).2) (G.okI N P W ex no th) (G.argI s.a s.b s.p (G.nd N k).1 (G.nd N k).2)
theorem exA_eq (N P W ex no th k) : exA N P W ex no th k = exR N P W ex no th k := by
  funext s; exact G.AtV_eq N P W ex no th s.a s.b s.p _ _
def extV (f : Src → Int) (S : List Src) (c x y : Int) : Int := S.foldl (hitF (fun v s => w64 (v + f s)) c x y) 0
theorem s47 (m : Nat) (H : Heap) (N P W g1 g2 g3 ex no th S f1 F f2) (a c x y : Int) (hN : N.length ≤ maxLen) (hP : P.length ≤ maxLen) (hW : W.length ≤ maxLen) (hS : okS S) (hF : F.length ≤ maxLen) :
    call1 T (m + 12) (.fn 47) [G.st N P W g1 g2 g3 ex no th, sp S f1 F f2, .int .i64 a, .int .i64 c, .int .i64 x, .int .i64 y] H =
      some (.tup [.int .i64 (V3 (G.okI N P W ex no th && ckB S F) (inB N.length a) (chanB c && ivB x y) (extV (exR N P W ex no th a.toNat) S c x y)), .int .i64 (E3 (G.okI N P W ex no th && ckB S F) (inB N.length a) (chanB c && ivB x y))], H) := by
  refine call_pure e47 (by rfl) ?_
  have h44 := fun H => G.s58 (m + 5) H N P W g1 g2 g3 ex no th hN hP hW
  have h12 := fun H => s59 (m + 4) H S F f1 f2 hS hF
  simp only [c47, heap0, go_sem, Int.cast_ofNat_Int, Int.reduceToNat, Bool.true_xor, Bool.false_xor, Bool.xor_true, Bool.xor_false, Nat.reduceAdd, Nat.reduceBEq, Nat.reduceLeDiff, Nat.reduceLT, Nat.reduceMul, Nat.reduceSub, Int.reduceEq, Int.reduceLT, Int.reduceLE, Int.reduceNeg, h44]
  cases hok : G.okI N P W ex no th with
  | false => simp only [go_sem, Int.cast_ofNat_Int, Int.reduceToNat, Bool.true_xor, Bool.false_xor, Bool.xor_true, Bool.xor_false, Nat.reduceAdd, Nat.reduceBEq, Nat.reduceLeDiff, Nat.reduceLT, Nat.reduceMul, Nat.reduceSub, Int.reduceEq, Int.reduceLT, Int.reduceLE, Int.reduceNeg, V3, E3, Bool.false_and]
  | true =>
    simp only [go_sem, Int.cast_ofNat_Int, Int.reduceToNat, Bool.true_xor, Bool.false_xor, Bool.xor_true, Bool.xor_false, Nat.reduceAdd, Nat.reduceBEq, Nat.reduceLeDiff, Nat.reduceLT, Nat.reduceMul, Nat.reduceSub, Int.reduceEq, Int.reduceLT, Int.reduceLE, Int.reduceNeg, h12]
    cases hck : ckB S F with
    | false => simp only [go_sem, Int.cast_ofNat_Int, Int.reduceToNat, Bool.true_xor, Bool.false_xor, Bool.xor_true, Bool.xor_false, Nat.reduceAdd, Nat.reduceBEq, Nat.reduceLeDiff, Nat.reduceLT, Nat.reduceMul, Nat.reduceSub, Int.reduceEq, Int.reduceLT, Int.reduceLE, Int.reduceNeg, V3, E3, Bool.false_and, Bool.and_false]
    | true =>
      cases hin : inB N.length a with
      | false =>
        rcases in_no hin with q | ⟨q, q'⟩
        · simp only [go_sem, Int.cast_ofNat_Int, Int.reduceToNat, Bool.true_xor, Bool.false_xor, Bool.xor_true, Bool.xor_false, Nat.reduceAdd, Nat.reduceBEq, Nat.reduceLeDiff, Nat.reduceLT, Nat.reduceMul, Nat.reduceSub, Int.reduceEq, Int.reduceLT, Int.reduceLE, Int.reduceNeg, q, V3, E3, G.ptsS_len', Bool.true_and, Bool.false_and, Bool.and_false]
        · simp only [go_sem, Int.cast_ofNat_Int, Int.reduceToNat, Bool.true_xor, Bool.false_xor, Bool.xor_true, Bool.xor_false, Nat.reduceAdd, Nat.reduceBEq, Nat.reduceLeDiff, Nat.reduceLT, Nat.reduceMul, Nat.reduceSub, Int.reduceEq, Int.reduceLT, Int.reduceLE, Int.reduceNeg, q, q', V3, E3, G.ptsS_len', Bool.true_and, Bool.false_and, Bool.and_false]
      | true =>
        obtain ⟨k, rfl, hk⟩ := in_iff.1 hin
        obtain ⟨q, q'⟩ := in_yes hk
        simp only [go_sem, Int.cast_ofNat_Int, Int.reduceToNat, Bool.true_xor, Bool.false_xor, Bool.xor_true, Bool.xor_false, Nat.reduceAdd, Nat.reduceBEq, Nat.reduceLeDiff, Nat.reduceLT, Nat.reduceMul, Nat.reduceSub, Int.reduceEq, Int.reduceLT, Int.reduceLE, Int.reduceNeg, q, q', G.ptsS_len', s66, s69]
        cases hc : chanB c with
        | false => simp only [go_sem, Int.cast_ofNat_Int, Int.reduceToNat, Bool.true_xor, Bool.false_xor, Bool.xor_true, Bool.xor_false, Nat.reduceAdd, Nat.reduceBEq, Nat.reduceLeDiff, Nat.reduceLT, Nat.reduceMul, Nat.reduceSub, Int.reduceEq, Int.reduceLT, Int.reduceLE, Int.reduceNeg, V3, E3, Bool.true_and, Bool.false_and, Bool.and_false]
        | true =>
          simp only [go_sem, Int.cast_ofNat_Int, Int.reduceToNat, Bool.true_xor, Bool.false_xor, Bool.xor_true, Bool.xor_false, Nat.reduceAdd, Nat.reduceBEq, Nat.reduceLeDiff, Nat.reduceLT, Nat.reduceMul, Nat.reduceSub, Int.reduceEq, Int.reduceLT, Int.reduceLE, Int.reduceNeg, s69]
          cases hi : ivB x y with
          | false => simp only [go_sem, Int.cast_ofNat_Int, Int.reduceToNat, Bool.true_xor, Bool.false_xor, Bool.xor_true, Bool.xor_false, Nat.reduceAdd, Nat.reduceBEq, Nat.reduceLeDiff, Nat.reduceLT, Nat.reduceMul, Nat.reduceSub, Int.reduceEq, Int.reduceLT, Int.reduceLE, Int.reduceNeg, V3, E3, Bool.true_and, Bool.false_and, Bool.and_false]
          | true =>
            have hv : ∀ s ∈ S, perB s.per s.fr s.to = true := fun s hs => srB_per (ckB_src hck s hs)
            obtain ⟨p, hp⟩ := getS hk
            have hnd : G.nd N k = p := by simp only [G.nd, List.getD_eq_getElem?_getD, hp, Option.getD_some]
            have h47 := fun H (s : Src) => G.s71 m H N P W g1 g2 g3 ex no th s.a s.b s.p p.1 p.2 hN hP hW
            simp only [G.AtV_eq] at h47
            simp only [go_sem, Int.cast_ofNat_Int, Int.reduceToNat, Bool.true_xor, Bool.false_xor, Bool.xor_true, Bool.xor_false, Nat.reduceAdd, Nat.reduceBEq, Nat.reduceLeDiff, Nat.reduceLT, Nat.reduceMul, Nat.reduceSub, Int.reduceEq, Int.reduceLT, Int.reduceLE, Int.reduceNeg, s46k]
            refine G.onSome_of _ (s76a (m + 4) _ _ _ _ (fun v => .box [.int .i64 v]) (fun v s => w64 (v + exR N P W ex no th k s)) f1 f2 S F c x y hS hv hi ?_ 0) ?_
            · intro v s X hs
              refine yld_in rfl rfl ?_
              simp only [go_sem, Int.cast_ofNat_Int, Int.reduceToNat, Bool.true_xor, Bool.false_xor, Bool.xor_true, Bool.xor_false, Nat.reduceAdd, Nat.reduceBEq, Nat.reduceLeDiff, Nat.reduceLT, Nat.reduceMul, Nat.reduceSub, Int.reduceEq, Int.reduceLT, Int.reduceLE, Int.reduceNeg, hp, hk, h47, exR, hnd]
            · simp only [go_sem, Int.cast_ofNat_Int, Int.reduceToNat, Bool.true_xor, Bool.false_xor, Bool.xor_true, Bool.xor_false, Nat.reduceAdd, Nat.reduceBEq, Nat.reduceLeDiff, Nat.reduceLT, Nat.reduceMul, Nat.reduceSub, Int.reduceEq, Int.reduceLT, Int.reduceLE, Int.reduceNeg, V3, E3, extV, Bool.true_and]
def nodE (a b : Bool) : Int := bif a then (bif b then 0 else 7) else 1
theorem s49 (n : Nat) (H : Heap) (N P W g1 g2 g3 ex no th S f1 F f2) (a b : Int) (hN : N.length ≤ maxLen) (hW : W.length ≤ maxLen) (hS : okS S) (hF : F.length ≤ maxLen) :
    call1 T (n + 7) (.fn 49) [G.st N P W g1 g2 g3 ex no th, sp S f1 F f2, .int .i64 a, .int .i64 b] H =
      some (.int .i64 (nodE (G.okI N P W ex no th && ckB S F) (inB N.length a && inB N.length b)), H) := by
  refine call_pure e49 (by rfl) ?_
  have h78 := fun H => G.s43 n H N P W g1 g2 g3 ex no th hW hN
  have h13 := fun H => s44 (n + 3) H S F f1 f2 hS hF
  simp only [c49, heap0, go_sem, Int.cast_ofNat_Int, Int.reduceToNat, Bool.true_xor, Bool.false_xor, Bool.xor_true, Bool.xor_false, Nat.reduceAdd, Nat.reduceBEq, Nat.reduceLeDiff, Nat.reduceLT, Nat.reduceMul, Nat.reduceSub, Int.reduceEq, Int.reduceLT, Int.reduceLE, Int.reduceNeg, h78]
  cases hok : G.okI N P W ex no th with
  | false => simp only [go_sem, Int.cast_ofNat_Int, Int.reduceToNat, Bool.true_xor, Bool.false_xor, Bool.xor_true, Bool.xor_false, Nat.reduceAdd, Nat.reduceBEq, Nat.reduceLeDiff, Nat.reduceLT, Nat.reduceMul, Nat.reduceSub, Int.reduceEq, Int.reduceLT, Int.reduceLE, Int.reduceNeg, nodE, Bool.false_and]
  | true =>
    simp only [go_sem, Int.cast_ofNat_Int, Int.reduceToNat, Bool.true_xor, Bool.false_xor, Bool.xor_true, Bool.xor_false, Nat.reduceAdd, Nat.reduceBEq, Nat.reduceLeDiff, Nat.reduceLT, Nat.reduceMul, Nat.reduceSub, Int.reduceEq, Int.reduceLT, Int.reduceLE, Int.reduceNeg, h13]
    cases hck : ckB S F with
    | false => simp only [go_sem, Int.cast_ofNat_Int, Int.reduceToNat, Bool.true_xor, Bool.false_xor, Bool.xor_true, Bool.xor_false, Nat.reduceAdd, Nat.reduceBEq, Nat.reduceLeDiff, Nat.reduceLT, Nat.reduceMul, Nat.reduceSub, Int.reduceEq, Int.reduceLT, Int.reduceLE, Int.reduceNeg, nodE, Bool.true_and]
    | true =>
      simp only [go_sem, Int.cast_ofNat_Int, Int.reduceToNat, Bool.true_xor, Bool.false_xor, Bool.xor_true, Bool.xor_false, Nat.reduceAdd, Nat.reduceBEq, Nat.reduceLeDiff, Nat.reduceLT, Nat.reduceMul, Nat.reduceSub, Int.reduceEq, Int.reduceLT, Int.reduceLE, Int.reduceNeg, G.ptsS_len', Bool.true_and]
      repeat' (with_reducible refine fork_split (fun _ => ?_) (fun _ => ?_) <;> simp only [*, go_sem, Int.cast_ofNat_Int, Int.reduceToNat, Bool.true_xor, Bool.false_xor, Bool.xor_true, Bool.xor_false, Nat.reduceAdd, Nat.reduceBEq, Nat.reduceLeDiff, Nat.reduceLT, Nat.reduceMul, Nat.reduceSub, Int.reduceEq, Int.reduceLT, Int.reduceLE, Int.reduceNeg, G.ptsS_len'])
      all_goals (clear h78 h13; refine congrArg some (congrArg (SV.int .i64) ?_); simp only [nodE, cond_true, inB]; simp only [decide_eq_true_eq, decide_eq_false_iff_not] at *; grind)
theorem s32 (n : Nat) (H : Heap) (N P W g1 g2 g3 ex no th S f1 F f2) (a c x y : Int) (hN : N.length ≤ maxLen) (hW : W.length ≤ maxLen) (hS : okS S) (hF : F.length ≤ maxLen) :
    call1 T (n + 8) (.fn 32) [G.st N P W g1 g2 g3 ex no th, sp S f1 F f2, .int .i64 a, .int .i64 c, .int .i64 x, .int .i64 y] H =
      some (.tup [.int .i64 (V3 (G.okI N P W ex no th && ckB S F) (inB N.length a) (chanB c && ivB x y) (extV (exR N P W ex no th a.toNat) S c x y)), .int .i64 (E3 (G.okI N P W ex no th && ckB S F) (inB N.length a) (chanB c && ivB x y))], H) := by
  refine call_pure e32 (by rfl) ?_
  have h49 := fun H => s49 n H N P W g1 g2 g3 ex no th S f1 F f2 a a hN hW hS hF
  simp only [Bool.and_self] at h49
  simp only [c32, heap0, go_sem, Int.cast_ofNat_Int, Int.reduceToNat, Bool.true_xor, Bool.false_xor, Bool.xor_true, Bool.xor_false, Nat.reduceAdd, Nat.reduceBEq, Nat.reduceLeDiff, Nat.reduceLT, Nat.reduceMul, Nat.reduceSub, Int.reduceEq, Int.reduceLT, Int.reduceLE, Int.reduceNeg, h49]
  cases hok : G.okI N P W ex no th && ckB S F with
  | false => simp only [go_sem, Int.cast_ofNat_Int, Int.reduceToNat, Bool.true_xor, Bool.false_xor, Bool.xor_true, Bool.xor_false, Nat.reduceAdd, Nat.reduceBEq, Nat.reduceLeDiff, Nat.reduceLT, Nat.reduceMul, Nat.reduceSub, Int.reduceEq, Int.reduceLT, Int.reduceLE, Int.reduceNeg, V3, E3, nodE, Bool.false_and]
  | true =>
    cases hin : inB N.length a with
    | false => simp only [go_sem, Int.cast_ofNat_Int, Int.reduceToNat, Bool.true_xor, Bool.false_xor, Bool.xor_true, Bool.xor_false, Nat.reduceAdd, Nat.reduceBEq, Nat.reduceLeDiff, Nat.reduceLT, Nat.reduceMul, Nat.reduceSub, Int.reduceEq, Int.reduceLT, Int.reduceLE, Int.reduceNeg, V3, E3, nodE, Bool.true_and, Bool.false_and]
    | true =>
      obtain ⟨k, rfl, hk⟩ := in_iff.1 hin
      simp only [go_sem, Int.cast_ofNat_Int, Int.reduceToNat, Bool.true_xor, Bool.false_xor, Bool.xor_true, Bool.xor_false, Nat.reduceAdd, Nat.reduceBEq, Nat.reduceLeDiff, Nat.reduceLT, Nat.reduceMul, Nat.reduceSub, Int.reduceEq, Int.reduceLT, Int.reduceLE, Int.reduceNeg, nodE, s24]
      cases hc : chanB c with
      | false => simp only [go_sem, Int.cast_ofNat_Int, Int.reduceToNat, Bool.true_xor, Bool.false_xor, Bool.xor_true, Bool.xor_false, Nat.reduceAdd, Nat.reduceBEq, Nat.reduceLeDiff, Nat.reduceLT, Nat.reduceMul, Nat.reduceSub, Int.reduceEq, Int.reduceLT, Int.reduceLE, Int.reduceNeg, V3, E3, Bool.true_and, Bool.false_and, Bool.and_false]
      | true =>
        simp only [go_sem, Int.cast_ofNat_Int, Int.reduceToNat, Bool.true_xor, Bool.false_xor, Bool.xor_true, Bool.xor_false, Nat.reduceAdd, Nat.reduceBEq, Nat.reduceLeDiff, Nat.reduceLT, Nat.reduceMul, Nat.reduceSub, Int.reduceEq, Int.reduceLT, Int.reduceLE, Int.reduceNeg, s25]
        cases hi : ivB x y with
        | false => simp only [go_sem, Int.cast_ofNat_Int, Int.reduceToNat, Bool.true_xor, Bool.false_xor, Bool.xor_true, Bool.xor_false, Nat.reduceAdd, Nat.reduceBEq, Nat.reduceLeDiff, Nat.reduceLT, Nat.reduceMul, Nat.reduceSub, Int.reduceEq, Int.reduceLT, Int.reduceLE, Int.reduceNeg, V3, E3, Bool.true_and, Bool.false_and, Bool.and_false]
        | true =>
          obtain ⟨hok, hck⟩ := Bool.and_eq_true_iff.1 hok
          obtain ⟨p, hp⟩ := getS hk
          have hnd : G.nd N k = p := by simp only [G.nd, List.getD_eq_getElem?_getD, hp, Option.getD_some]
          simp only [go_sem, Int.cast_ofNat_Int, Int.reduceToNat, Bool.true_xor, Bool.false_xor, Bool.xor_true, Bool.xor_false, Nat.reduceAdd, Nat.reduceBEq, Nat.reduceLeDiff, Nat.reduceLT, Nat.reduceMul, Nat.reduceSub, Int.reduceEq, Int.reduceLT, Int.reduceLE, Int.reduceNeg]
          refine loop_rule (fun i => ([(2, .int .i64 k), (3, .int .i64 c), (4, .int .i64 x), (5, .int .i64 y), (6, .ptr 0 0 0 0), (7, .ptr 1 0 0 0), (15, .int .i64 ((S.take i).foldl (hitF (fun v s => w64 (v + exR N P W ex no th k s)) c x y) 0)), (16, .int .i64 i)],
            ⟨[.box [.lst 2 (G.ptsS N) g1, .lst 1 (G.intsS P) g2, .lst 5 (G.wlsS W) g3, .int .i64 ex, .int .i64 no, .int .i64 th], .box [.lst 7 (srsS S) f1, .lst 6 (fdsS F) f2]], [], 0⟩)) (fun _ => True) S.length ?_ trivial ?_
          · simp only [go_sem, Int.cast_ofNat_Int, Int.reduceToNat, Bool.true_xor, Bool.false_xor, Bool.xor_true, Bool.xor_false, Nat.reduceAdd, Nat.reduceBEq, Nat.reduceLeDiff, Nat.reduceLT, Nat.reduceMul, Nat.reduceSub, Int.reduceEq, Int.reduceLT, Int.reduceLE, Int.reduceNeg] <;> rfl
          · intro i hi' _
            rcases Nat.lt_or_ge i S.length with hlt | hge
            · obtain ⟨s, hs⟩ := getS hlt
              have hm := List.mem_of_getElem? hs
              have hw := w64_suc hlt hS.1
              have hf := foldl_take (hitF (fun v s => w64 (v + exR N P W ex no th k s)) c x y) 0 hs
              have h51 := fun H => s50 (n + 6) H s.C s.f c (hS.2 s hm)
              have h15 := fun H => s51 (n + 4) H s x y (hS.2 s hm)
              have hon : onS s x y = onB s x y := by simp only [onS, ckB_src hck s hm, hi, Bool.true_and]
              have hE : exR N P W ex no th k s = G.AtV (G.atR W ex s.a s.b s.p p.1 p.2) (G.okI N P W ex no th) (G.argI s.a s.b s.p p.1 p.2) := by simp only [exR, hnd]
              have h52 := fun H => G.s52 n H N P W g1 g2 g3 ex no th s.a s.b s.p p.1 p.2 hN hW
              rw [← hE] at h52
              simp only [go_sem, Int.cast_ofNat_Int, Int.reduceToNat, Bool.true_xor, Bool.false_xor, Bool.xor_true, Bool.xor_false, Nat.reduceAdd, Nat.reduceBEq, Nat.reduceLeDiff, Nat.reduceLT, Nat.reduceMul, Nat.reduceSub, Int.reduceEq, Int.reduceLT, Int.reduceLE, Int.reduceNeg, hlt, hs, h51, hf, hitF, hit]
              cases hcc : decide (c ∈ s.C) with
              | false =>
                simp only [go_sem, Int.cast_ofNat_Int, Int.reduceToNat, Bool.true_xor, Bool.false_xor, Bool.xor_true, Bool.xor_false, Nat.reduceAdd, Nat.reduceBEq, Nat.reduceLeDiff, Nat.reduceLT, Nat.reduceMul, Nat.reduceSub, Int.reduceEq, Int.reduceLT, Int.reduceLE, Int.reduceNeg, hw, hf, hitF, hit, hcc, Bool.false_and, Bool.false_eq_true, if_false]
                exact ⟨hlt, rfl, trivial⟩
              | true =>
                simp only [go_sem, Int.cast_ofNat_Int, Int.reduceToNat, Bool.true_xor, Bool.false_xor, Bool.xor_true, Bool.xor_false, Nat.reduceAdd, Nat.reduceBEq, Nat.reduceLeDiff, Nat.reduceLT, Nat.reduceMul, Nat.reduceSub, Int.reduceEq, Int.reduceLT, Int.reduceLE, Int.reduceNeg, h15, hon, hcc, Bool.true_and]
                cases ho : onB s x y with
                | false =>
                  simp only [go_sem, Int.cast_ofNat_Int, Int.reduceToNat, Bool.true_xor, Bool.false_xor, Bool.xor_true, Bool.xor_false, Nat.reduceAdd, Nat.reduceBEq, Nat.reduceLeDiff, Nat.reduceLT, Nat.reduceMul, Nat.reduceSub, Int.reduceEq, Int.reduceLT, Int.reduceLE, Int.reduceNeg, hw, hf, hitF, hit, hcc, ho, Bool.true_and, Bool.false_eq_true, if_false]
                  exact ⟨hlt, rfl, trivial⟩
                | true =>
                  simp only [go_sem, Int.cast_ofNat_Int, Int.reduceToNat, Bool.true_xor, Bool.false_xor, Bool.xor_true, Bool.xor_false, Nat.reduceAdd, Nat.reduceBEq, Nat.reduceLeDiff, Nat.reduceLT, Nat.reduceMul, Nat.reduceSub, Int.reduceEq, Int.reduceLT, Int.reduceLE, Int.reduceNeg, hw, hf, hitF, hit, hcc, ho, hp, hk, h52, Bool.true_and, if_true]
                  exact ⟨hlt, rfl, trivial⟩
            · have hlt : ¬ i < S.length := by omega
              have ht : S.take i = S := List.take_of_length_le hge
              simp only [go_sem, Int.cast_ofNat_Int, Int.reduceToNat, Bool.true_xor, Bool.false_xor, Bool.xor_true, Bool.xor_false, Nat.reduceAdd, Nat.reduceBEq, Nat.reduceLeDiff, Nat.reduceLT, Nat.reduceMul, Nat.reduceSub, Int.reduceEq, Int.reduceLT, Int.reduceLE, Int.reduceNeg, hlt, ht, V3, E3, extV, Bool.true_and]
def clrB (S : List Src) (x y : Int) (c : Int) : Bool := !S.any (hit c x y)
def clrL (S : List Src) (x y : Int) (k : Nat) : List Int := ((List.range k).filter fun (i : Nat) => clrB S x y (i : Int)).map fun (i : Nat) => (i : Int)
theorem clrL_yes {S x y} {k : Nat} (h : clrB S x y (k : Int) = true) : clrL S x y (k + 1) = clrL S x y k ++ [(k : Int)] := by
  simp [clrL, List.range_succ, List.filter_append, h]
theorem clrL_no {S x y} {k : Nat} (h : clrB S x y (k : Int) = false) : clrL S x y (k + 1) = clrL S x y k := by
  simp [clrL, List.range_succ, List.filter_append, h]
theorem clrL_len {S x y} (k : Nat) : (clrL S x y k).length ≤ k := by
  simp only [clrL, List.length_map]
  exact Nat.le_trans (List.length_filter_le _ _) (by simp)
theorem room1 {n : Nat} (h : n ≤ 100) : decide ((n + 1) * 8 ≤ mostLen) = true := by
  simp only [decide_eq_true_eq]
  exact Nat.le_trans (show (n + 1) * 8 ≤ 1000 by omega) (by decide)
theorem fold_false (S : List Src) (c x y : Int) : S.foldl (hitF (fun (_ : Bool) _ => false) c x y) false = false := by
  induction S with
  | nil => rfl
  | cons s S ih => simp only [List.foldl_cons, hitF, ite_self]; exact ih
theorem fold_clear (S : List Src) (c x y : Int) : S.foldl (hitF (fun (_ : Bool) _ => false) c x y) true = clrB S x y c := by
  unfold clrB
  induction S with
  | nil => rfl
  | cons s S ih =>
    simp only [List.foldl_cons, List.any_cons]
    cases h : hit c x y s with
    | true => simp only [hitF, h, if_true, Bool.true_or, Bool.not_true]; exact fold_false S c x y
    | false => simp only [hitF, h, Bool.false_eq_true, if_false, Bool.false_or]; exact ih
def ClrV (ok : Bool) (L : List Int) : SV := bif ok then .lst 1 (iS L) false else .lst 0 [] true
theorem post_onSome {A R : Type} {v : Option A} {f : A → Option R} {t : Tok f} {Q : R → Prop} (o : A) (h : v = some o) (k : post (f o) Q) : post (onSome v f t) Q := by rw [h]; exact k
@[go_sem] theorem iS_len' (W : List Int) : (iS W).length = W.length := by simp [iS]



/-- A spectrum whose lists may be nil. -/
abbrev spz (z1 : Nat) (S : List Src) (f1 : Bool) (z2 : Nat) (F : List Fd) (f2 : Bool) : SV := .agg [.lst z1 (srsS S) f1, .lst z2 (fdsS F) f2]
theorem s12zz (n : Nat) (H : Heap) (S F f1 f2) (z1 z2 : Nat) (hz1 : z1 = 7 ∨ S = []) (hz : z2 = 6 ∨ F = []) (hS : okS S) (hF : F.length ≤ maxLen) : call1 T (n + 7) (.fn 59) [spz z1 S f1 z2 F f2] H = some (.int .i64 (ck S F), H) := by
  refine call_pure e59 (by rfl) ?_
  have h33 := fun H => stdCF_ok (T := T) (f := 81) (n := n + 4) (H := H) (ag := true) (z := 7) (id := 82) (caps := []) (v := .lst z1 (srsS S) f1) (L := srsS S) (p := fun r => !srB (toSr r)) x33 x63 (.lst z1 f1 (hz1.imp id (by rintro rfl; rfl))) srs_row (fun h => by cases h) (by simpa [srsS] using hS.1)
    (fun r hr bl ro _ => by
      simp only [srsS, List.mem_map] at hr
      obtain ⟨h, hh, rfl⟩ := hr
      simp only [toSr_of]
      exact s82 (n + 1) ⟨bl, [], ro⟩ h (hS.2 h hh)) (by simp [SV.refs.refsL])
  rw [any_sr (fun s => !srB s)] at h33
  have h36 := fun H => stdCF_ok (T := T) (f := 84) (n := n + 4) (H := H) (ag := true) (z := 6) (id := 85) (caps := []) (v := .lst z2 (fdsS F) f2) (L := fdsS F) (p := fun r => !fdB (toFd r)) x36 x64 (.lst z2 f2 (hz.imp id (by rintro rfl; rfl))) fds_row (fun h => by cases h) (by simpa [fdsS] using hF)
    (fun r hr bl ro _ => by
      simp only [fdsS, List.mem_map] at hr
      obtain ⟨h, hh, rfl⟩ := hr
      simp only [toFd_of]
      exact s85 n ⟨bl, [], ro⟩ h) (by simp [SV.refs.refsL])
  rw [any_fd (fun s => !fdB s)] at h36
  simp only [c59, heap0, go_sem, Int.cast_ofNat_Int, Int.reduceToNat, Bool.true_xor, Bool.false_xor, Bool.xor_true, Bool.xor_false, Nat.reduceAdd, Nat.reduceBEq, Nat.reduceLeDiff, Nat.reduceLT, Nat.reduceMul, Nat.reduceSub, Int.reduceEq, Int.reduceLT, Int.reduceLE, Int.reduceNeg]
  repeat' (with_reducible refine fork_split (fun _ => ?_) (fun _ => ?_) <;> simp only [*, go_sem, Int.cast_ofNat_Int, Int.reduceToNat, Bool.true_xor, Bool.false_xor, Bool.xor_true, Bool.xor_false, Nat.reduceAdd, Nat.reduceBEq, Nat.reduceLeDiff, Nat.reduceLT, Nat.reduceMul, Nat.reduceSub, Int.reduceEq, Int.reduceLT, Int.reduceLE, Int.reduceNeg, h33, h36])
  all_goals
    clear h33 h36
    refine congrArg some (congrArg (SV.int .i64) ?_)
    simp only [ck, ckB]
    generalize (S.any fun s => !srB s) = A at *
    generalize (F.any fun s => !fdB s) = B at *
    generalize S.length = ls at *
    generalize F.length = lf at *
    cases A <;> cases B <;> simp only [Bool.not_true, Bool.not_false, Bool.and_true, Bool.and_false, cond_false, Bool.cond_eq_ite, Bool.and_eq_true, decide_eq_true_eq] <;> grind
def apP (a b : Int) (w : Fd) : Bool := (decide (w.a = -1) || decide (w.a = a)) && (decide (w.b = -1) || decide (w.b = b))
def apF (a b c t : Int) (w : Fd) : Bool := apP a b w && (decide (w.c = -1) || decide (w.c = c)) && decide (w.x ≤ t) && decide (t < w.y)
def apW (a b : Int) (w : Fd) : Bool := apP a b w && decide (w.x < w.y)
def leS (p : Fd → Bool) (v : Int) (w : Fd) : Int := if p w = true then min v w.f else v
def leV (p : Fd → Bool) (F : List Fd) : Int := F.foldl (leS p) 1000
theorem s89 (n : Nat) (H : Heap) (w : Fd) (a b : Int) : call1 T (n + 1) (.fn 89) [.agg (fdC w), .int .i64 a, .int .i64 b] H = some (.bool (apP a b w), H) := by
  refine call_pure e89 (by rfl) ?_
  simp only [c89, heap0, go_sem, Int.cast_ofNat_Int, Int.reduceToNat, Bool.true_xor, Bool.false_xor, Bool.xor_true, Bool.xor_false, Nat.reduceAdd, Nat.reduceBEq, Nat.reduceLeDiff, Nat.reduceLT, Nat.reduceMul, Nat.reduceSub, Int.reduceEq, Int.reduceLT, Int.reduceLE, Int.reduceNeg]
  repeat' (with_reducible refine fork_split (fun _ => ?_) (fun _ => ?_) <;> simp only [*, go_sem, Int.cast_ofNat_Int, Int.reduceToNat, Bool.true_xor, Bool.false_xor, Bool.xor_true, Bool.xor_false, Nat.reduceAdd, Nat.reduceBEq, Nat.reduceLeDiff, Nat.reduceLT, Nat.reduceMul, Nat.reduceSub, Int.reduceEq, Int.reduceLT, Int.reduceLE, Int.reduceNeg])
  all_goals (simp only [apP]; grind)
theorem s88 (n : Nat) (X0 X5 X6 : SBlk) (w : Fd) (a b c t : Int) : call1 T (n + 2) (.fn 88) [.agg (fdC w), .ptr 1 0 0 0, .ptr 2 0 0 0, .ptr 3 0 0 0, .ptr 4 0 0 0] ⟨[X0, .box [.int .i64 a], .box [.int .i64 b], .box [.int .i64 c], .box [.int .i64 t], X5, X6], [], 0⟩ =
    some (.bool (apF a b c t w), ⟨[X0, .box [.int .i64 a], .box [.int .i64 b], .box [.int .i64 c], .box [.int .i64 t], X5, X6], [], 0⟩) := by
  refine call_in e88 (by rfl) ?_
  simp only [c88, go_sem, Int.cast_ofNat_Int, Int.reduceToNat, Bool.true_xor, Bool.false_xor, Bool.xor_true, Bool.xor_false, Nat.reduceAdd, Nat.reduceBEq, Nat.reduceLeDiff, Nat.reduceLT, Nat.reduceMul, Nat.reduceSub, Int.reduceEq, Int.reduceLT, Int.reduceLE, Int.reduceNeg, s89]
  repeat' (with_reducible refine fork_split (fun _ => ?_) (fun _ => ?_) <;> simp only [*, go_sem, Int.cast_ofNat_Int, Int.reduceToNat, Bool.true_xor, Bool.false_xor, Bool.xor_true, Bool.xor_false, Nat.reduceAdd, Nat.reduceBEq, Nat.reduceLeDiff, Nat.reduceLT, Nat.reduceMul, Nat.reduceSub, Int.reduceEq, Int.reduceLT, Int.reduceLE, Int.reduceNeg, s89])
  all_goals (simp only [apF]; grind)
theorem s90 (n : Nat) (X0 X1 X2 X3 X4 : SBlk) (id : Nat) (caps : List SV) (p : Fd → Bool) (z2 : Nat) (F : List Fd) (f2 : Bool) (hz : z2 = 6 ∨ F = []) (hF : F.length ≤ maxLen) (hr : SV.refs.refsL caps ≤ 5) (hr0 : (SV.refs.refsL caps == 0) = false)
    (hc : ∀ w ∈ F, ∀ X5 X6, call1 T n (.fn id) (.agg (fdC w) :: caps) ⟨[X0, X1, X2, X3, X4, X5, X6], [], 0⟩ = some (.bool (p w), ⟨[X0, X1, X2, X3, X4, X5, X6], [], 0⟩)) :
    call1 T (n + 1) (.fn 90) [.agg [.fn id caps], .lst z2 (fdsS F) f2] ⟨[X0, X1, X2, X3, X4], [], 0⟩ = some (.int .i64 (leV p F), ⟨[X0, X1, X2, X3, X4], [], 0⟩) := by
  refine call_in e90 (by simp only [pure0, SV.refs.refsL, SV.refs, c90, Bool.not_false, Bool.and_true, Nat.max_zero, Nat.zero_max]; exact hr0) ?_
  simp only [c90, go_sem, Int.cast_ofNat_Int, Int.reduceToNat, Bool.true_xor, Bool.false_xor, Bool.xor_true, Bool.xor_false, Nat.reduceAdd, Nat.reduceBEq, Nat.reduceLeDiff, Nat.reduceLT, Nat.reduceMul, Nat.reduceSub, Int.reduceEq, Int.reduceLT, Int.reduceLE, Int.reduceNeg]
  refine loop_rule (fun i => ([(2, .ptr 5 0 0 0), (5, .int .i64 ((F.take i).foldl (leS p) 1000)), (8, .lst z2 (fdsS F) f2), (9, .int .i64 F.length), (10, .int .i64 i)], ⟨[X0, X1, X2, X3, X4, .box [.fn id caps]], [], 0⟩)) (fun _ => True) F.length ?_ trivial ?_
  · simp only [go_sem, Int.cast_ofNat_Int, Int.reduceToNat, Bool.true_xor, Bool.false_xor, Bool.xor_true, Bool.xor_false, Nat.reduceAdd, Nat.reduceBEq, Nat.reduceLeDiff, Nat.reduceLT, Nat.reduceMul, Nat.reduceSub, Int.reduceEq, Int.reduceLT, Int.reduceLE, Int.reduceNeg] <;> rfl
  · intro i hi _
    rcases Nat.lt_or_ge i F.length with hlt | hge
    · obtain ⟨w, hw⟩ := getS hlt
      have hm := List.mem_of_getElem? hw
      have hz6 : z2 = 6 := hz.resolve_right (by rintro rfl; simp at hlt)
      subst hz6
      have hs := w64_suc hlt hF
      have hf := foldl_take (leS p) 1000 hw
      have hcw := hc w hm
      cases hp : p w with
      | true =>
        simp only [go_sem, Int.cast_ofNat_Int, Int.reduceToNat, Bool.true_xor, Bool.false_xor, Bool.xor_true, Bool.xor_false, Nat.reduceAdd, Nat.reduceBEq, Nat.reduceLeDiff, Nat.reduceLT, Nat.reduceMul, Nat.reduceSub, Int.reduceEq, Int.reduceLT, Int.reduceLE, Int.reduceNeg, hlt, hw, hs, hf, hcw, hp, leS, if_true]
        exact ⟨by first | trivial | exact hlt, rfl, trivial⟩
      | false =>
        simp only [go_sem, Int.cast_ofNat_Int, Int.reduceToNat, Bool.true_xor, Bool.false_xor, Bool.xor_true, Bool.xor_false, Nat.reduceAdd, Nat.reduceBEq, Nat.reduceLeDiff, Nat.reduceLT, Nat.reduceMul, Nat.reduceSub, Int.reduceEq, Int.reduceLT, Int.reduceLE, Int.reduceNeg, hlt, hw, hs, hf, hcw, hp, leS, Bool.false_eq_true, if_false]
        exact ⟨by first | trivial | exact hlt, rfl, trivial⟩
    · have hlt : ¬ i < F.length := by omega
      have ht : F.take i = F := List.take_of_length_le hge
      simp only [go_sem, Int.cast_ofNat_Int, Int.reduceToNat, Bool.true_xor, Bool.false_xor, Bool.xor_true, Bool.xor_false, Nat.reduceAdd, Nat.reduceBEq, Nat.reduceLeDiff, Nat.reduceLT, Nat.reduceMul, Nat.reduceSub, Int.reduceEq, Int.reduceLT, Int.reduceLE, Int.reduceNeg, hlt, ht, leV]
theorem s68 (n : Nat) (H : Heap) (z1 : Nat) (S : List Src) (f1 : Bool) (z2 : Nat) (F : List Fd) (f2 : Bool) (a b c t : Int) (hz : z2 = 6 ∨ F = []) (hF : F.length ≤ maxLen) :
    call1 T (n + 4) (.fn 68) [spz z1 S f1 z2 F f2, .int .i64 a, .int .i64 b, .int .i64 c, .int .i64 t] H = some (.int .i64 (leV (apF a b c t) F), H) := by
  refine call_pure e68 (by rfl) ?_
  have h62 := s90 (id := 88) (n + 2) (.box [.lst z1 (srsS S) f1, .lst z2 (fdsS F) f2]) (.box [.int .i64 a]) (.box [.int .i64 b]) (.box [.int .i64 c]) (.box [.int .i64 t]) [.ptr 1 0 0 0, .ptr 2 0 0 0, .ptr 3 0 0 0, .ptr 4 0 0 0] (apF a b c t) z2 F f2 hz hF
    (by simp [SV.refs, SV.refs.refsL]) (by simp [SV.refs, SV.refs.refsL]) (fun w _ X5 X6 => s88 n _ X5 X6 w a b c t)
  simp only [c68, heap0, go_sem, Int.cast_ofNat_Int, Int.reduceToNat, Bool.true_xor, Bool.false_xor, Bool.xor_true, Bool.xor_false, Nat.reduceAdd, Nat.reduceBEq, Nat.reduceLeDiff, Nat.reduceLT, Nat.reduceMul, Nat.reduceSub, Int.reduceEq, Int.reduceLT, Int.reduceLE, Int.reduceNeg, h62]
def tmB (t : Int) : Bool := decide (0 ≤ t) && decide (t ≤ 1099511627776)
theorem s53 (n : Nat) (H : Heap) (t : Int) : call1 T (n + 1) (.fn 53) [.int .i64 t] H = some (.bool (tmB t), H) := by
  refine call_pure e53 (by rfl) ?_
  simp only [c53, heap0, go_sem, Int.cast_ofNat_Int, Int.reduceToNat, Bool.true_xor, Bool.false_xor, Bool.xor_true, Bool.xor_false, Nat.reduceAdd, Nat.reduceBEq, Nat.reduceLeDiff, Nat.reduceLT, Nat.reduceMul, Nat.reduceSub, Int.reduceEq, Int.reduceLT, Int.reduceLE, Int.reduceNeg]
  repeat' (with_reducible refine fork_split (fun _ => ?_) (fun _ => ?_) <;> simp only [*, go_sem, Int.cast_ofNat_Int, Int.reduceToNat, Bool.true_xor, Bool.false_xor, Bool.xor_true, Bool.xor_false, Nat.reduceAdd, Nat.reduceBEq, Nat.reduceLeDiff, Nat.reduceLT, Nat.reduceMul, Nat.reduceSub, Int.reduceEq, Int.reduceLT, Int.reduceLE, Int.reduceNeg])
  all_goals (simp only [tmB]; grind)
def fcA (a b c t : Int) : Bool := nodB a && nodB b && chanB c && tmB t
theorem leS_yes {p : Fd → Bool} {v : Int} {w : Fd} (h : p w = true) : leS p v w = min v w.f := by unfold leS; rw [if_pos h]
theorem leS_no {p : Fd → Bool} {v : Int} {w : Fd} (h : p w = false) : leS p v w = v := by unfold leS; rw [if_neg (by simp [h])]
theorem s55 (n : Nat) (H : Heap) (z1 : Nat) (S : List Src) (f1 : Bool) (z2 : Nat) (F : List Fd) (f2 : Bool) (a b c t : Int) (hz : z2 = 6 ∨ F = []) (hF : F.length ≤ maxLen) :
    call1 T (n + 1) (.fn 55) [spz z1 S f1 z2 F f2, .int .i64 a, .int .i64 b, .int .i64 c, .int .i64 t] H = some (.int .i64 (leV (apF a b c t) F), H) := by
  refine call_pure e55 (by rfl) ?_
  simp only [c55, heap0, go_sem, Int.cast_ofNat_Int, Int.reduceToNat, Bool.true_xor, Bool.false_xor, Bool.xor_true, Bool.xor_false, Nat.reduceAdd, Nat.reduceBEq, Nat.reduceLeDiff, Nat.reduceLT, Nat.reduceMul, Nat.reduceSub, Int.reduceEq, Int.reduceLT, Int.reduceLE, Int.reduceNeg]
  refine loop_rule (fun i => ([(1, .int .i64 a), (2, .int .i64 b), (3, .int .i64 c), (4, .int .i64 t), (5, .ptr 0 0 0 0), (11, .int .i64 ((F.take i).foldl (leS (apF a b c t)) 1000)), (12, .int .i64 i)], ⟨[.box [.lst z1 (srsS S) f1, .lst z2 (fdsS F) f2]], [], 0⟩)) (fun _ => True) F.length ?_ trivial ?_
  · simp only [go_sem, Int.cast_ofNat_Int, Int.reduceToNat, Bool.true_xor, Bool.false_xor, Bool.xor_true, Bool.xor_false, Nat.reduceAdd, Nat.reduceBEq, Nat.reduceLeDiff, Nat.reduceLT, Nat.reduceMul, Nat.reduceSub, Int.reduceEq, Int.reduceLT, Int.reduceLE, Int.reduceNeg] <;> rfl
  · intro i hi _
    rcases Nat.lt_or_ge i F.length with hlt | hge
    · obtain ⟨w, hw⟩ := getS hlt
      have hz6 : z2 = 6 := hz.resolve_right (by rintro rfl; simp at hlt)
      subst hz6
      have hs := w64_suc hlt hF
      have hf := foldl_take (leS (apF a b c t)) 1000 hw
      simp only [go_sem, Int.cast_ofNat_Int, Int.reduceToNat, Bool.true_xor, Bool.false_xor, Bool.xor_true, Bool.xor_false, Nat.reduceAdd, Nat.reduceBEq, Nat.reduceLeDiff, Nat.reduceLT, Nat.reduceMul, Nat.reduceSub, Int.reduceEq, Int.reduceLT, Int.reduceLE, Int.reduceNeg, hlt, hw, hs]
      repeat' (with_reducible refine post_fork (fun _ => ?_) (fun _ => ?_) <;> simp only [*, go_sem, Int.cast_ofNat_Int, Int.reduceToNat, Bool.true_xor, Bool.false_xor, Bool.xor_true, Bool.xor_false, Nat.reduceAdd, Nat.reduceBEq, Nat.reduceLeDiff, Nat.reduceLT, Nat.reduceMul, Nat.reduceSub, Int.reduceEq, Int.reduceLT, Int.reduceLE, Int.reduceNeg, hlt, hw, hs])
      all_goals
        refine ⟨by first | trivial | exact hlt, ?_, trivial⟩
        try rw [hf]
        first
        | (rw [leS_yes (by simp only [apF, apP]; grind)]; rfl)
        | (rw [leS_no (by simp only [apF, apP]; grind)]; rfl)
    · have hlt : ¬ i < F.length := by omega
      have ht : F.take i = F := List.take_of_length_le hge
      simp only [go_sem, Int.cast_ofNat_Int, Int.reduceToNat, Bool.true_xor, Bool.false_xor, Bool.xor_true, Bool.xor_false, Nat.reduceAdd, Nat.reduceBEq, Nat.reduceLeDiff, Nat.reduceLT, Nat.reduceMul, Nat.reduceSub, Int.reduceEq, Int.reduceLT, Int.reduceLE, Int.reduceNeg, hlt, ht, leV]
theorem in2 (N : List (Int × Int)) (a b : Int) : (inB N.length a && inB N.length b) = G.inI N a b := by
  simp only [inB, G.inI, Bool.and_assoc]
def sgV (p f : Int) : Int := w64 ((w64 (p * f)).tdiv 1000)
theorem le_rng {F : List Fd} (p : Fd → Bool) (h : ∀ w ∈ F, 0 ≤ w.f) : 0 ≤ leV p F ∧ leV p F ≤ 1000 := by
  have key : ∀ (F : List Fd) (v : Int), (∀ w ∈ F, 0 ≤ w.f) → 0 ≤ v → v ≤ 1000 → 0 ≤ F.foldl (leS p) v ∧ F.foldl (leS p) v ≤ 1000 := by
    intro F
    induction F with
    | nil => intro v _ h1 h2; exact ⟨h1, h2⟩
    | cons w F ih =>
      intro v hw h1 h2
      have hf := hw w (by simp)
      refine ih _ (fun w' hw' => hw w' (by simp [hw'])) ?_ ?_
      · unfold leS; split <;> omega
      · unfold leS; split <;> omega
  exact key F 1000 h (by omega) (by omega)
theorem ckB_fd {S F} (h : ckB S F = true) : ∀ w ∈ F, fdB w = true := by
  intro w hw
  simp only [ckB, Bool.and_eq_true, Bool.not_eq_true'] at h
  have := List.any_eq_false.1 h.2 w hw
  simpa using this
theorem ckB_f0 {S F} (h : ckB S F = true) : ∀ w ∈ F, 0 ≤ w.f := fun w hw => by
  have := ckB_fd h w hw
  simp only [fdB, Bool.and_eq_true, decide_eq_true_eq] at this
  exact this.1.2
theorem s65 (n : Nat) (H : Heap) (N P W g1 g2 g3 ex no th) (z1 : Nat) (S : List Src) (f1 : Bool) (z2 : Nat) (F : List Fd) (f2 : Bool) (a b : Int) (hN : N.length ≤ maxLen) (hP : P.length ≤ maxLen) (hW : W.length ≤ maxLen) (hz1 : z1 = 7 ∨ S = []) (hz : z2 = 6 ∨ F = []) (hS : okS S) (hF : F.length ≤ maxLen) :
    call1 T (n + 11) (.fn 65) [G.st N P W g1 g2 g3 ex no th, spz z1 S f1 z2 F f2, .int .i64 a, .int .i64 b] H =
      some (.tup [.int .i64 (G.AtV (G.btw (G.atR W ex) N P a b) (G.okI N P W ex no th && ckB S F) (G.inI N a b)), .int .i64 (G.AtE (G.okI N P W ex no th && ckB S F) (G.inI N a b) 7)], H) := by
  refine call_pure e65 (by rfl) ?_
  have h44 := fun H => G.s58 (n + 4) H N P W g1 g2 g3 ex no th hN hP hW
  have h12 := fun H => s12zz (n + 3) H S F f1 f2 z1 z2 hz1 hz hS hF
  have h81 := fun H => G.s87 n H N P W g1 g2 g3 ex no th a b hN hP hW
  rw [G.BtV_eq] at h81
  simp only [c65, heap0, go_sem, Int.cast_ofNat_Int, Int.reduceToNat, Bool.true_xor, Bool.false_xor, Bool.xor_true, Bool.xor_false, Nat.reduceAdd, Nat.reduceBEq, Nat.reduceLeDiff, Nat.reduceLT, Nat.reduceMul, Nat.reduceSub, Int.reduceEq, Int.reduceLT, Int.reduceLE, Int.reduceNeg, h44]
  cases hok : G.okI N P W ex no th with
  | false => simp only [go_sem, Int.cast_ofNat_Int, Int.reduceToNat, Bool.true_xor, Bool.false_xor, Bool.xor_true, Bool.xor_false, Nat.reduceAdd, Nat.reduceBEq, Nat.reduceLeDiff, Nat.reduceLT, Nat.reduceMul, Nat.reduceSub, Int.reduceEq, Int.reduceLT, Int.reduceLE, Int.reduceNeg, G.AtV, G.AtE, Bool.false_and]
  | true =>
    rw [hok] at h81
    simp only [go_sem, Int.cast_ofNat_Int, Int.reduceToNat, Bool.true_xor, Bool.false_xor, Bool.xor_true, Bool.xor_false, Nat.reduceAdd, Nat.reduceBEq, Nat.reduceLeDiff, Nat.reduceLT, Nat.reduceMul, Nat.reduceSub, Int.reduceEq, Int.reduceLT, Int.reduceLE, Int.reduceNeg, h12]
    cases hck : ckB S F with
    | false => simp only [go_sem, Int.cast_ofNat_Int, Int.reduceToNat, Bool.true_xor, Bool.false_xor, Bool.xor_true, Bool.xor_false, Nat.reduceAdd, Nat.reduceBEq, Nat.reduceLeDiff, Nat.reduceLT, Nat.reduceMul, Nat.reduceSub, Int.reduceEq, Int.reduceLT, Int.reduceLE, Int.reduceNeg, G.AtV, G.AtE, Bool.false_and, Bool.and_false]
    | true => simp only [go_sem, Int.cast_ofNat_Int, Int.reduceToNat, Bool.true_xor, Bool.false_xor, Bool.xor_true, Bool.xor_false, Nat.reduceAdd, Nat.reduceBEq, Nat.reduceLeDiff, Nat.reduceLT, Nat.reduceMul, Nat.reduceSub, Int.reduceEq, Int.reduceLT, Int.reduceLE, Int.reduceNeg, h81, Bool.and_self]
theorem V3_eq (a b c : Bool) (v : Int) : V3 a b c v = bif a then (bif b then (bif c then v else 0) else 0) else 0 := by cases a <;> cases b <;> cases c <;> rfl
theorem tm_no {t : Int} (h : tmB t = false) : decide (t < 0) = true ∨ (decide (t < 0) = false ∧ decide (1099511627776 < t) = true) := by
  simp only [tmB, Bool.and_eq_false_iff, decide_eq_false_iff_not, decide_eq_true_eq] at *; omega
theorem tm_yes {t : Int} (h : tmB t = true) : decide (t < 0) = false ∧ decide (1099511627776 < t) = false := by
  simp only [tmB, Bool.and_eq_true, decide_eq_true_eq, decide_eq_false_iff_not] at *; omega
theorem s46 (n : Nat) (H : Heap) (N P W g1 g2 g3 ex no th) (z1 : Nat) (S : List Src) (f1 : Bool) (z2 : Nat) (F : List Fd) (f2 : Bool) (a b c t : Int) (hN : N.length ≤ maxLen) (hP : P.length ≤ maxLen) (hW : W.length ≤ maxLen) (hz1 : z1 = 7 ∨ S = []) (hz : z2 = 6 ∨ F = []) (hS : okS S) (hF : F.length ≤ maxLen) :
    call1 T (n + 12) (.fn 46) [G.st N P W g1 g2 g3 ex no th, spz z1 S f1 z2 F f2, .int .i64 a, .int .i64 b, .int .i64 c, .int .i64 t] H =
      some (.tup [.int .i64 (V3 (G.okI N P W ex no th && ckB S F) (G.inI N a b) (chanB c && tmB t) (sgV (G.btw (G.atR W ex) N P a b) (leV (apF a b c t) F))), .int .i64 (E3 (G.okI N P W ex no th && ckB S F) (G.inI N a b) (chanB c && tmB t))], H) := by
  refine call_pure e46 (by rfl) ?_
  have h57 := fun H => s65 n H N P W g1 g2 g3 ex no th z1 S f1 z2 F f2 a b hN hP hW hz1 hz hS hF
  have h54 := fun H => s68 (n + 7) H z1 S f1 z2 F f2 a b c t hz hF
  simp only [c46, heap0, go_sem, Int.cast_ofNat_Int, Int.reduceToNat, Bool.true_xor, Bool.false_xor, Bool.xor_true, Bool.xor_false, Nat.reduceAdd, Nat.reduceBEq, Nat.reduceLeDiff, Nat.reduceLT, Nat.reduceMul, Nat.reduceSub, Int.reduceEq, Int.reduceLT, Int.reduceLE, Int.reduceNeg, h57]
  cases hok : G.okI N P W ex no th && ckB S F with
  | false => simp only [go_sem, Int.cast_ofNat_Int, Int.reduceToNat, Bool.true_xor, Bool.false_xor, Bool.xor_true, Bool.xor_false, Nat.reduceAdd, Nat.reduceBEq, Nat.reduceLeDiff, Nat.reduceLT, Nat.reduceMul, Nat.reduceSub, Int.reduceEq, Int.reduceLT, Int.reduceLE, Int.reduceNeg, V3_eq, E3, G.AtV, G.AtE, Bool.false_and]
  | true =>
    cases hin : G.inI N a b with
    | false => simp only [go_sem, Int.cast_ofNat_Int, Int.reduceToNat, Bool.true_xor, Bool.false_xor, Bool.xor_true, Bool.xor_false, Nat.reduceAdd, Nat.reduceBEq, Nat.reduceLeDiff, Nat.reduceLT, Nat.reduceMul, Nat.reduceSub, Int.reduceEq, Int.reduceLT, Int.reduceLE, Int.reduceNeg, V3_eq, E3, G.AtV, G.AtE, Bool.and_false]
    | true =>
      obtain ⟨hok, hck⟩ := Bool.and_eq_true_iff.1 hok
      have hb := (G.btw_eq hok hin).2
      have hr := le_rng (apF a b c t) (ckB_f0 hck)
      have h58 := fun H => G.s67 (n + 9) H (G.btw (G.atR W ex) N P a b) (leV (apF a b c t) F)
      have hsc : G.scOk (G.btw (G.atR W ex) N P a b) (leV (apF a b c t) F) = true := by
        simp only [G.scOk, hb, Bool.true_and, Bool.and_eq_true, decide_eq_true_eq]; exact hr
      have hE : G.scE (G.btw (G.atR W ex) N P a b) (leV (apF a b c t) F) = 0 := by simp only [G.scE, hsc, if_true]
      have hV : G.scV (G.btw (G.atR W ex) N P a b) (leV (apF a b c t) F) = sgV (G.btw (G.atR W ex) N P a b) (leV (apF a b c t) F) := by simp only [G.scV, hsc, if_true, sgV]
      rw [hE, hV] at h58
      simp only [go_sem, Int.cast_ofNat_Int, Int.reduceToNat, Bool.true_xor, Bool.false_xor, Bool.xor_true, Bool.xor_false, Nat.reduceAdd, Nat.reduceBEq, Nat.reduceLeDiff, Nat.reduceLT, Nat.reduceMul, Nat.reduceSub, Int.reduceEq, Int.reduceLT, Int.reduceLE, Int.reduceNeg, G.AtV, G.AtE, Bool.and_self, s66]
      cases hc : chanB c with
      | false => simp only [go_sem, Int.cast_ofNat_Int, Int.reduceToNat, Bool.true_xor, Bool.false_xor, Bool.xor_true, Bool.xor_false, Nat.reduceAdd, Nat.reduceBEq, Nat.reduceLeDiff, Nat.reduceLT, Nat.reduceMul, Nat.reduceSub, Int.reduceEq, Int.reduceLT, Int.reduceLE, Int.reduceNeg, V3_eq, E3, Bool.false_and]
      | true =>
        cases ht : tmB t with
        | false =>
          rcases tm_no ht with q | ⟨q, q'⟩
          · simp only [go_sem, Int.cast_ofNat_Int, Int.reduceToNat, Bool.true_xor, Bool.false_xor, Bool.xor_true, Bool.xor_false, Nat.reduceAdd, Nat.reduceBEq, Nat.reduceLeDiff, Nat.reduceLT, Nat.reduceMul, Nat.reduceSub, Int.reduceEq, Int.reduceLT, Int.reduceLE, Int.reduceNeg, V3_eq, E3, Bool.true_and, q]
          · simp only [go_sem, Int.cast_ofNat_Int, Int.reduceToNat, Bool.true_xor, Bool.false_xor, Bool.xor_true, Bool.xor_false, Nat.reduceAdd, Nat.reduceBEq, Nat.reduceLeDiff, Nat.reduceLT, Nat.reduceMul, Nat.reduceSub, Int.reduceEq, Int.reduceLT, Int.reduceLE, Int.reduceNeg, V3_eq, E3, Bool.true_and, q, q']
        | true =>
          obtain ⟨q, q'⟩ := tm_yes ht
          simp only [go_sem, Int.cast_ofNat_Int, Int.reduceToNat, Bool.true_xor, Bool.false_xor, Bool.xor_true, Bool.xor_false, Nat.reduceAdd, Nat.reduceBEq, Nat.reduceLeDiff, Nat.reduceLT, Nat.reduceMul, Nat.reduceSub, Int.reduceEq, Int.reduceLT, Int.reduceLE, Int.reduceNeg, V3_eq, E3, Bool.true_and, q, q', h54, h58]
theorem s33 (n : Nat) (H : Heap) (N P W g1 g2 g3 ex no th) (S : List Src) (f1 : Bool) (F : List Fd) (f2 : Bool) (a b c t : Int) (hN : N.length ≤ maxLen) (hW : W.length ≤ maxLen) (hS : okS S) (hF : F.length ≤ maxLen) :
    call1 T (n + 8) (.fn 33) [G.st N P W g1 g2 g3 ex no th, sp S f1 F f2, .int .i64 a, .int .i64 b, .int .i64 c, .int .i64 t] H =
      some (.tup [.int .i64 (V3 (G.okI N P W ex no th && ckB S F) (G.inI N a b) (chanB c && tmB t) (sgV (G.btw (G.atR W ex) N P a b) (leV (apF a b c t) F))), .int .i64 (E3 (G.okI N P W ex no th && ckB S F) (G.inI N a b) (chanB c && tmB t))], H) := by
  refine call_pure e33 (by rfl) ?_
  have h49 := fun H => s49 n H N P W g1 g2 g3 ex no th S f1 F f2 a b hN hW hS hF
  have h59 := fun H => G.s54 n H N P W g1 g2 g3 ex no th a b hN hW
  have h56 := fun H => s55 (n + 6) H 7 S f1 6 F f2 a b c t (.inl rfl) hF
  rw [in2] at h49
  simp only [c33, heap0, go_sem, Int.cast_ofNat_Int, Int.reduceToNat, Bool.true_xor, Bool.false_xor, Bool.xor_true, Bool.xor_false, Nat.reduceAdd, Nat.reduceBEq, Nat.reduceLeDiff, Nat.reduceLT, Nat.reduceMul, Nat.reduceSub, Int.reduceEq, Int.reduceLT, Int.reduceLE, Int.reduceNeg, h49]
  cases hok : G.okI N P W ex no th && ckB S F with
  | false => simp only [go_sem, Int.cast_ofNat_Int, Int.reduceToNat, Bool.true_xor, Bool.false_xor, Bool.xor_true, Bool.xor_false, Nat.reduceAdd, Nat.reduceBEq, Nat.reduceLeDiff, Nat.reduceLT, Nat.reduceMul, Nat.reduceSub, Int.reduceEq, Int.reduceLT, Int.reduceLE, Int.reduceNeg, V3_eq, E3, nodE, Bool.false_and]
  | true =>
    cases hin : G.inI N a b with
    | false => simp only [go_sem, Int.cast_ofNat_Int, Int.reduceToNat, Bool.true_xor, Bool.false_xor, Bool.xor_true, Bool.xor_false, Nat.reduceAdd, Nat.reduceBEq, Nat.reduceLeDiff, Nat.reduceLT, Nat.reduceMul, Nat.reduceSub, Int.reduceEq, Int.reduceLT, Int.reduceLE, Int.reduceNeg, V3_eq, E3, nodE]
    | true =>
      obtain ⟨hok, hck⟩ := Bool.and_eq_true_iff.1 hok
      simp only [hok, hin, G.AtV, G.AtE, Bool.and_self, cond_true] at h59
      simp only [go_sem, Int.cast_ofNat_Int, Int.reduceToNat, Bool.true_xor, Bool.false_xor, Bool.xor_true, Bool.xor_false, Nat.reduceAdd, Nat.reduceBEq, Nat.reduceLeDiff, Nat.reduceLT, Nat.reduceMul, Nat.reduceSub, Int.reduceEq, Int.reduceLT, Int.reduceLE, Int.reduceNeg, nodE, s24]
      cases hc : chanB c with
      | false => simp only [go_sem, Int.cast_ofNat_Int, Int.reduceToNat, Bool.true_xor, Bool.false_xor, Bool.xor_true, Bool.xor_false, Nat.reduceAdd, Nat.reduceBEq, Nat.reduceLeDiff, Nat.reduceLT, Nat.reduceMul, Nat.reduceSub, Int.reduceEq, Int.reduceLT, Int.reduceLE, Int.reduceNeg, V3_eq, E3, Bool.false_and]
      | true =>
        simp only [go_sem, Int.cast_ofNat_Int, Int.reduceToNat, Bool.true_xor, Bool.false_xor, Bool.xor_true, Bool.xor_false, Nat.reduceAdd, Nat.reduceBEq, Nat.reduceLeDiff, Nat.reduceLT, Nat.reduceMul, Nat.reduceSub, Int.reduceEq, Int.reduceLT, Int.reduceLE, Int.reduceNeg, V3_eq, E3, s53, Bool.true_and]
        cases ht : tmB t with
        | false => simp only [go_sem, Int.cast_ofNat_Int, Int.reduceToNat, Bool.true_xor, Bool.false_xor, Bool.xor_true, Bool.xor_false, Nat.reduceAdd, Nat.reduceBEq, Nat.reduceLeDiff, Nat.reduceLT, Nat.reduceMul, Nat.reduceSub, Int.reduceEq, Int.reduceLT, Int.reduceLE, Int.reduceNeg]
        | true => simp only [go_sem, Int.cast_ofNat_Int, Int.reduceToNat, Bool.true_xor, Bool.false_xor, Bool.xor_true, Bool.xor_false, Nat.reduceAdd, Nat.reduceBEq, Nat.reduceLeDiff, Nat.reduceLT, Nat.reduceMul, Nat.reduceSub, Int.reduceEq, Int.reduceLT, Int.reduceLE, Int.reduceNeg, h59, h56, sgV]
end U
end Go.Sh
namespace Go.Sh
set_option linter.unusedSectionVars false
set_option linter.unnecessarySimpa false
set_option linter.unusedVariables false
set_option linter.unusedSimpArgs false
set_option maxRecDepth 100000
set_option maxHeartbeats 4000000
structure Em where
  n : Int
  c : Int
  x : Int
  y : Int
abbrev emC (e : Em) : List SV := [.int .i64 e.n, .int .i64 e.c, .int .i64 e.x, .int .i64 e.y]
def emsS (L : List Em) : List (List SV) := L.map emC
@[go_sem] theorem emsS_len {L : List Em} : (emsS L).length = L.length := by simp [emsS]
@[go_sem] theorem emsS_get {L : List Em} {i : Nat} : (emsS L)[i]? = (L[i]?).map emC := by simp [emsS]
theorem emsS_take (L : List Em) (i : Nat) : (emsS L).take i = emsS (L.take i) := by simp [emsS]
def ovB (a b : Em) : Bool := decide (max a.x b.x < min a.y b.y)
theorem ov_comm (a b : Em) : ovB a b = ovB b a := by unfold ovB; rw [Int.max_comm, Int.min_comm]
theorem s19 (n : Nat) (H : Heap) (a b : Em) : call1 T (n + 1) (.fn 19) [.agg (emC a), .agg (emC b)] H = some (.bool (ovB a b), H) := by
  refine call_pure e19 (by rfl) ?_
  simp only [c19, heap0, go_sem, Int.cast_ofNat_Int, Int.reduceToNat, Bool.true_xor, Bool.false_xor, Bool.xor_true, Bool.xor_false, Nat.reduceAdd, Nat.reduceBEq, Nat.reduceLeDiff, Nat.reduceLT, Nat.reduceMul, Nat.reduceSub, Int.reduceEq, Int.reduceLT, Int.reduceLE, Int.reduceNeg]
  rfl
theorem s45 (n : Nat) (H : Heap) (a b : Em) : call1 T (n + 1) (.fn 45) [.agg (emC a), .agg (emC b)] H = some (.bool (ovB a b), H) := by
  refine call_pure e45 (by rfl) ?_
  simp only [c45, heap0, go_sem, Int.cast_ofNat_Int, Int.reduceToNat, Bool.true_xor, Bool.false_xor, Bool.xor_true, Bool.xor_false, Nat.reduceAdd, Nat.reduceBEq, Nat.reduceLeDiff, Nat.reduceLT, Nat.reduceMul, Nat.reduceSub, Int.reduceEq, Int.reduceLT, Int.reduceLE, Int.reduceNeg]
  rfl
/-- Whether an emission's numbers are right. -/
def emB (a : Em) : Bool := U.chanB a.c && decide (0 ≤ a.x) && decide (a.x < a.y) && decide (a.y ≤ 1099511627776)
def clashB (a b : Em) : Bool := decide (b.n = a.n) && ovB a b
/-- The error of an emission behind others. -/
def emE (n : Nat) (pre : List Em) (a : Em) : Int := bif U.inB n a.n then (bif emB a then (bif pre.any (clashB a) then 16 else 0) else 2) else 7
/-- The first error from the emission i on. -/
def chF (n : Nat) (L : List Em) : Nat → Nat → Int
  | 0, _ => 0
  | k + 1, i => match L[i]? with
    | none => 0
    | some a => bif decide (emE n (L.take i) a = 0) then chF n L k (i + 1) else emE n (L.take i) a
def chE (n : Nat) (L : List Em) : Int := chF n L L.length 0
theorem chF_at {n : Nat} {L : List Em} {i : Nat} {a : Em} (ha : L[i]? = some a) (h0 : ∀ (j : Nat) b, j < i → L[j]? = some b → emE n (L.take j) b = 0) (hn : emE n (L.take i) a ≠ 0) : chE n L = emE n (L.take i) a := by
  have key : ∀ (k j : Nat), i - j < k → j ≤ i → chF n L k j = emE n (L.take i) a := by
    intro k
    induction k with
    | zero => intro j h1; omega
    | succ k ih =>
      intro j h1 h2
      have hlt := (List.getElem?_eq_some_iff.1 ha).1
      obtain ⟨b, hb⟩ := getS (l := L) (i := j) (by omega)
      simp only [chF, hb]
      by_cases hj : j = i
      · subst hj
        rw [ha] at hb; cases hb
        rw [decide_eq_false hn]; rfl
      · rw [decide_eq_true (h0 j b (by omega) hb)]
        exact ih (j + 1) (by omega) (by omega)
  exact key L.length 0 (by have := (List.getElem?_eq_some_iff.1 ha).1; omega) (by omega)
theorem chF_ok {n : Nat} {L : List Em} (h0 : ∀ (j : Nat) b, L[j]? = some b → emE n (L.take j) b = 0) : chE n L = 0 := by
  have key : ∀ (k j : Nat), chF n L k j = 0 := by
    intro k
    induction k with
    | zero => intro j; rfl
    | succ k ih =>
      intro j
      simp only [chF]
      cases hb : L[j]? with
      | none => rfl
      | some b =>
        simp only
        rw [decide_eq_true (h0 j b hb)]
        exact ih (j + 1)
  exact key _ _
def acE (okS : Bool) (n : Nat) (L : List Em) : Int := bif okS then (bif decide (48 < L.length) then 8 else chE n L) else 1
theorem anyT_succ {A : Type} {S : List A} {p : A → Bool} {j : Nat} {s : A} (h : S[j]? = some s) : (S.take (j + 1)).any p = ((S.take j).any p || p s) := by
  rw [List.take_add_one, h]; simp
theorem em_no {a : Em} (h : emB a = false) : decide (a.c < 0) = true ∨ (decide (a.c < 0) = false ∧ decide (16 ≤ a.c) = true) ∨ (decide (a.c < 0) = false ∧ decide (16 ≤ a.c) = false ∧ decide (a.x < 0) = true) ∨
    (decide (a.c < 0) = false ∧ decide (16 ≤ a.c) = false ∧ decide (a.x < 0) = false ∧ decide (a.y ≤ a.x) = true) ∨ (decide (a.c < 0) = false ∧ decide (16 ≤ a.c) = false ∧ decide (a.x < 0) = false ∧ decide (a.y ≤ a.x) = false ∧ decide (1099511627776 < a.y) = true) := by
  simp only [emB, U.chanB, Bool.and_eq_false_iff, decide_eq_true_eq, decide_eq_false_iff_not] at *
  omega
theorem em_yes {a : Em} (h : emB a = true) : decide (a.c < 0) = false ∧ decide (16 ≤ a.c) = false ∧ decide (a.x < 0) = false ∧ decide (a.y ≤ a.x) = false ∧ decide (1099511627776 < a.y) = false := by
  simp only [emB, U.chanB, Bool.and_eq_true, decide_eq_true_eq, decide_eq_false_iff_not] at *
  omega
theorem in_yes' {n : Nat} {a : Int} (h : U.inB n a = true) : decide (a < 0) = false ∧ decide ((n : Int) ≤ a) = false := by
  simp only [U.inB, Bool.and_eq_true, decide_eq_true_eq, decide_eq_false_iff_not] at *
  omega
theorem emE_7 {n : Nat} {pre : List Em} {a : Em} (h : U.inB n a.n = false) : emE n pre a = 7 := by simp only [emE, h, cond_false]
theorem emE_2 {n : Nat} {pre : List Em} {a : Em} (h : U.inB n a.n = true) (h2 : emB a = false) : emE n pre a = 2 := by simp only [emE, h, h2, cond_false, cond_true]
theorem emE_16 {n : Nat} {pre : List Em} {a : Em} (h : U.inB n a.n = true) (h2 : emB a = true) (h3 : pre.any (clashB a) = true) : emE n pre a = 16 := by simp only [emE, h, h2, h3, cond_true]
theorem emE_0 {n : Nat} {pre : List Em} {a : Em} (h : U.inB n a.n = true) (h2 : emB a = true) (h3 : pre.any (clashB a) = false) : emE n pre a = 0 := by simp only [emE, h, h2, h3, cond_true, cond_false]
theorem s42 (m : Nat) (H : Heap) (N P W g1 g2 g3 ex no th) (z1 : Nat) (S : List U.Src) (f1 : Bool) (z2 : Nat) (F : List U.Fd) (f2 : Bool) (L : List Em) (f : Bool) (hN : N.length ≤ maxLen) (hP : P.length ≤ maxLen) (hW : W.length ≤ maxLen) (hz1 : z1 = 7 ∨ S = []) (hz : z2 = 6 ∨ F = []) (hS : U.okS S) (hF : F.length ≤ maxLen) (hL : L.length ≤ maxLen) :
    call1 T (m + 8) (.fn 42) [G.st N P W g1 g2 g3 ex no th, U.spz z1 S f1 z2 F f2, .lst 4 (emsS L) f] H = some (.int .i64 (acE (G.okI N P W ex no th && U.ckB S F) N.length L), H) := by
  refine call_pure e42 (by rfl) ?_
  have h32 := fun H => G.s58 (m + 1) H N P W g1 g2 g3 ex no th hN hP hW
  have h33 := fun H => U.s12zz m H S F f1 f2 z1 z2 hz1 hz hS hF
  simp only [c42, heap0, go_sem, Int.cast_ofNat_Int, Int.reduceToNat, Bool.true_xor, Bool.false_xor, Bool.xor_true, Bool.xor_false, Nat.reduceAdd, Nat.reduceBEq, Nat.reduceLeDiff, Nat.reduceLT, Nat.reduceMul, Nat.reduceSub, Int.reduceEq, Int.reduceLT, Int.reduceLE, Int.reduceNeg, h32]
  cases hok : G.okI N P W ex no th with
  | false => simp only [go_sem, Int.cast_ofNat_Int, Int.reduceToNat, Bool.true_xor, Bool.false_xor, Bool.xor_true, Bool.xor_false, Nat.reduceAdd, Nat.reduceBEq, Nat.reduceLeDiff, Nat.reduceLT, Nat.reduceMul, Nat.reduceSub, Int.reduceEq, Int.reduceLT, Int.reduceLE, Int.reduceNeg, acE, Bool.false_and]
  | true =>
    simp only [go_sem, Int.cast_ofNat_Int, Int.reduceToNat, Bool.true_xor, Bool.false_xor, Bool.xor_true, Bool.xor_false, Nat.reduceAdd, Nat.reduceBEq, Nat.reduceLeDiff, Nat.reduceLT, Nat.reduceMul, Nat.reduceSub, Int.reduceEq, Int.reduceLT, Int.reduceLE, Int.reduceNeg, h33]
    cases hck : U.ckB S F with
    | false => simp only [go_sem, Int.cast_ofNat_Int, Int.reduceToNat, Bool.true_xor, Bool.false_xor, Bool.xor_true, Bool.xor_false, Nat.reduceAdd, Nat.reduceBEq, Nat.reduceLeDiff, Nat.reduceLT, Nat.reduceMul, Nat.reduceSub, Int.reduceEq, Int.reduceLT, Int.reduceLE, Int.reduceNeg, acE, Bool.and_false]
    | true =>
      simp only [go_sem, Int.cast_ofNat_Int, Int.reduceToNat, Bool.true_xor, Bool.false_xor, Bool.xor_true, Bool.xor_false, Nat.reduceAdd, Nat.reduceBEq, Nat.reduceLeDiff, Nat.reduceLT, Nat.reduceMul, Nat.reduceSub, Int.reduceEq, Int.reduceLT, Int.reduceLE, Int.reduceNeg, acE, Bool.and_self]
      by_cases h48 : 48 < L.length
      · have q : decide ((48 : Int) < (L.length : Int)) = true := decide_eq_true (by omega)
        simp only [go_sem, Int.cast_ofNat_Int, Int.reduceToNat, Bool.true_xor, Bool.false_xor, Bool.xor_true, Bool.xor_false, Nat.reduceAdd, Nat.reduceBEq, Nat.reduceLeDiff, Nat.reduceLT, Nat.reduceMul, Nat.reduceSub, Int.reduceEq, Int.reduceLT, Int.reduceLE, Int.reduceNeg, q, h48, decide_true]
      · have q : decide ((48 : Int) < (L.length : Int)) = false := decide_eq_false (by omega)
        simp only [go_sem, Int.cast_ofNat_Int, Int.reduceToNat, Bool.true_xor, Bool.false_xor, Bool.xor_true, Bool.xor_false, Nat.reduceAdd, Nat.reduceBEq, Nat.reduceLeDiff, Nat.reduceLT, Nat.reduceMul, Nat.reduceSub, Int.reduceEq, Int.reduceLT, Int.reduceLE, Int.reduceNeg, q, h48, decide_false]
        refine loop_rule (fun i => ([(2, .lst 4 (emsS L) f), (3, .ptr 0 0 0 0), (24, .lst 4 (emsS L) f), (25, .int .i64 L.length), (26, .int .i64 i)],
          ⟨[.box [.lst 2 (G.ptsS N) g1, .lst 1 (G.intsS P) g2, .lst 5 (G.wlsS W) g3, .int .i64 ex, .int .i64 no, .int .i64 th], .box [.lst z1 (U.srsS S) f1, .lst z2 (U.fdsS F) f2]], [], 0⟩))
          (fun i => ∀ (j : Nat) b, j < i → L[j]? = some b → emE N.length (L.take j) b = 0) L.length ?_ (fun j b h => by omega) ?_
        · simp only [go_sem, Int.cast_ofNat_Int, Int.reduceToNat, Bool.true_xor, Bool.false_xor, Bool.xor_true, Bool.xor_false, Nat.reduceAdd, Nat.reduceBEq, Nat.reduceLeDiff, Nat.reduceLT, Nat.reduceMul, Nat.reduceSub, Int.reduceEq, Int.reduceLT, Int.reduceLE, Int.reduceNeg] <;> rfl
        · intro i hi hP'
          rcases Nat.lt_or_ge i L.length with hlt | hge
          · obtain ⟨a, ha⟩ := getS hlt
            have hw := w64_suc hlt hL
            simp only [go_sem, Int.cast_ofNat_Int, Int.reduceToNat, Bool.true_xor, Bool.false_xor, Bool.xor_true, Bool.xor_false, Nat.reduceAdd, Nat.reduceBEq, Nat.reduceLeDiff, Nat.reduceLT, Nat.reduceMul, Nat.reduceSub, Int.reduceEq, Int.reduceLT, Int.reduceLE, Int.reduceNeg, hlt, ha, G.ptsS_len']
            cases hin : U.inB N.length a.n with
            | false =>
              have hE := chF_at ha hP' (by rw [emE_7 hin]; decide)
              rw [emE_7 hin] at hE
              rcases U.in_no hin with q | ⟨q, q'⟩
              · simp only [go_sem, Int.cast_ofNat_Int, Int.reduceToNat, Bool.true_xor, Bool.false_xor, Bool.xor_true, Bool.xor_false, Nat.reduceAdd, Nat.reduceBEq, Nat.reduceLeDiff, Nat.reduceLT, Nat.reduceMul, Nat.reduceSub, Int.reduceEq, Int.reduceLT, Int.reduceLE, Int.reduceNeg, q, hE]
              · simp only [go_sem, Int.cast_ofNat_Int, Int.reduceToNat, Bool.true_xor, Bool.false_xor, Bool.xor_true, Bool.xor_false, Nat.reduceAdd, Nat.reduceBEq, Nat.reduceLeDiff, Nat.reduceLT, Nat.reduceMul, Nat.reduceSub, Int.reduceEq, Int.reduceLT, Int.reduceLE, Int.reduceNeg, q, q', G.ptsS_len', hE]
            | true =>
              obtain ⟨q, q'⟩ := in_yes' hin
              simp only [go_sem, Int.cast_ofNat_Int, Int.reduceToNat, Bool.true_xor, Bool.false_xor, Bool.xor_true, Bool.xor_false, Nat.reduceAdd, Nat.reduceBEq, Nat.reduceLeDiff, Nat.reduceLT, Nat.reduceMul, Nat.reduceSub, Int.reduceEq, Int.reduceLT, Int.reduceLE, Int.reduceNeg, q, q', G.ptsS_len']
              cases hem : emB a with
              | false =>
                have hE := chF_at ha hP' (by rw [emE_2 hin hem]; decide)
                rw [emE_2 hin hem] at hE
                rcases em_no hem with r1 | ⟨r1, r2⟩ | ⟨r1, r2, r3⟩ | ⟨r1, r2, r3, r4⟩ | ⟨r1, r2, r3, r4, r5⟩
                · simp only [go_sem, Int.cast_ofNat_Int, Int.reduceToNat, Bool.true_xor, Bool.false_xor, Bool.xor_true, Bool.xor_false, Nat.reduceAdd, Nat.reduceBEq, Nat.reduceLeDiff, Nat.reduceLT, Nat.reduceMul, Nat.reduceSub, Int.reduceEq, Int.reduceLT, Int.reduceLE, Int.reduceNeg, r1, hE]
                · simp only [go_sem, Int.cast_ofNat_Int, Int.reduceToNat, Bool.true_xor, Bool.false_xor, Bool.xor_true, Bool.xor_false, Nat.reduceAdd, Nat.reduceBEq, Nat.reduceLeDiff, Nat.reduceLT, Nat.reduceMul, Nat.reduceSub, Int.reduceEq, Int.reduceLT, Int.reduceLE, Int.reduceNeg, r1, r2, hE]
                · simp only [go_sem, Int.cast_ofNat_Int, Int.reduceToNat, Bool.true_xor, Bool.false_xor, Bool.xor_true, Bool.xor_false, Nat.reduceAdd, Nat.reduceBEq, Nat.reduceLeDiff, Nat.reduceLT, Nat.reduceMul, Nat.reduceSub, Int.reduceEq, Int.reduceLT, Int.reduceLE, Int.reduceNeg, r1, r2, r3, hE]
                · simp only [go_sem, Int.cast_ofNat_Int, Int.reduceToNat, Bool.true_xor, Bool.false_xor, Bool.xor_true, Bool.xor_false, Nat.reduceAdd, Nat.reduceBEq, Nat.reduceLeDiff, Nat.reduceLT, Nat.reduceMul, Nat.reduceSub, Int.reduceEq, Int.reduceLT, Int.reduceLE, Int.reduceNeg, r1, r2, r3, r4, hE]
                · simp only [go_sem, Int.cast_ofNat_Int, Int.reduceToNat, Bool.true_xor, Bool.false_xor, Bool.xor_true, Bool.xor_false, Nat.reduceAdd, Nat.reduceBEq, Nat.reduceLeDiff, Nat.reduceLT, Nat.reduceMul, Nat.reduceSub, Int.reduceEq, Int.reduceLT, Int.reduceLE, Int.reduceNeg, r1, r2, r3, r4, r5, hE]
              | true =>
                obtain ⟨r1, r2, r3, r4, r5⟩ := em_yes hem
                have hle : i ≤ L.length := by omega
                have d1 : decide ((i : Int) ≤ (L.length : Int)) = true := decide_eq_true (by omega)
                simp only [go_sem, Int.cast_ofNat_Int, Int.reduceToNat, Bool.true_xor, Bool.false_xor, Bool.xor_true, Bool.xor_false, Nat.reduceAdd, Nat.reduceBEq, Nat.reduceLeDiff, Nat.reduceLT, Nat.reduceMul, Nat.reduceSub, Int.reduceEq, Int.reduceLT, Int.reduceLE, Int.reduceNeg, r1, r2, r3, r4, r5, hle, d1, emsS_take]
                have hmin : min i L.length = i := Nat.min_eq_left hle
                refine loop_post (fun j => ([(2, .lst 4 (emsS L) f), (3, .ptr 0 0 0 0), (8, .ptr 2 0 0 0), (24, .lst 4 (emsS L) f), (25, .int .i64 L.length), (26, .int .i64 i), (71, .lst 4 (emsS (L.take i)) (f && i == L.length)), (72, .int .i64 i), (73, .int .i64 j)],
                  ⟨[.box [.lst 2 (G.ptsS N) g1, .lst 1 (G.intsS P) g2, .lst 5 (G.wlsS W) g3, .int .i64 ex, .int .i64 no, .int .i64 th], .box [.lst z1 (U.srsS S) f1, .lst z2 (U.fdsS F) f2], .box (emC a)], [], 0⟩))
                  (fun j => (L.take j).any (clashB a) = false) i ?_ rfl ?_
                · simp only [go_sem, Int.cast_ofNat_Int, Int.reduceToNat, Bool.true_xor, Bool.false_xor, Bool.xor_true, Bool.xor_false, Nat.reduceAdd, Nat.reduceBEq, Nat.reduceLeDiff, Nat.reduceLT, Nat.reduceMul, Nat.reduceSub, Int.reduceEq, Int.reduceLT, Int.reduceLE, Int.reduceNeg, List.length_take, hmin]
                  rfl
                · intro j hj hjP
                  have hlen : (L.take i).length = i := by rw [List.length_take]; exact hmin
                  rcases Nat.lt_or_ge j i with hlt2 | hge2
                  · obtain ⟨b, hb⟩ := getS (l := L) (i := j) (by omega)
                    have hb' : (L.take i)[j]? = some b := by rw [List.getElem?_take, if_pos hlt2]; exact hb
                    have hw2 := w64_suc hlt2 (Nat.le_trans hle hL)
                    have han := anyT_succ (p := clashB a) hb
                    have h14 := fun H => s19 (m + 6) H a b
                    cases hcl : clashB a b with
                    | true =>
                      have hE := chF_at ha hP' (by rw [emE_16 hin hem (List.any_eq_true.2 ⟨b, List.mem_of_getElem? hb', hcl⟩)]; decide)
                      rw [emE_16 hin hem (List.any_eq_true.2 ⟨b, List.mem_of_getElem? hb', hcl⟩)] at hE
                      simp only [clashB, Bool.and_eq_true] at hcl
                      simp only [go_sem, Int.cast_ofNat_Int, Int.reduceToNat, Bool.true_xor, Bool.false_xor, Bool.xor_true, Bool.xor_false, Nat.reduceAdd, Nat.reduceBEq, Nat.reduceLeDiff, Nat.reduceLT, Nat.reduceMul, Nat.reduceSub, Int.reduceEq, Int.reduceLT, Int.reduceLE, Int.reduceNeg, hlen, hlt2, hb', hcl.1, hcl.2, h14, hE]
                    | false =>
                      have hn : (L.take (j + 1)).any (clashB a) = false := by rw [han, hjP, hcl]; rfl
                      simp only [clashB] at hcl
                      cases hnn : decide (b.n = a.n) with
                      | false =>
                        simp only [go_sem, Int.cast_ofNat_Int, Int.reduceToNat, Bool.true_xor, Bool.false_xor, Bool.xor_true, Bool.xor_false, Nat.reduceAdd, Nat.reduceBEq, Nat.reduceLeDiff, Nat.reduceLT, Nat.reduceMul, Nat.reduceSub, Int.reduceEq, Int.reduceLT, Int.reduceLE, Int.reduceNeg, hlen, hlt2, hb', hnn, hw2]
                        exact ⟨by first | trivial | exact hlt2, rfl, hn⟩
                      | true =>
                        rw [hnn, Bool.true_and] at hcl
                        simp only [go_sem, Int.cast_ofNat_Int, Int.reduceToNat, Bool.true_xor, Bool.false_xor, Bool.xor_true, Bool.xor_false, Nat.reduceAdd, Nat.reduceBEq, Nat.reduceLeDiff, Nat.reduceLT, Nat.reduceMul, Nat.reduceSub, Int.reduceEq, Int.reduceLT, Int.reduceLE, Int.reduceNeg, hlen, hlt2, hb', hnn, h14, hcl, hw2]
                        exact ⟨by first | trivial | exact hlt2, rfl, hn⟩
                  · have hji : j = i := by omega
                    subst hji
                    simp only [go_sem, Int.cast_ofNat_Int, Int.reduceToNat, Bool.true_xor, Bool.false_xor, Bool.xor_true, Bool.xor_false, Nat.reduceAdd, Nat.reduceBEq, Nat.reduceLeDiff, Nat.reduceLT, Nat.reduceMul, Nat.reduceSub, Int.reduceEq, Int.reduceLT, Int.reduceLE, Int.reduceNeg, Int.lt_irrefl, decide_false, hw]
                    refine ⟨by first | trivial | exact hlt, rfl, fun k b hk hb => ?_⟩
                    rcases Nat.lt_or_ge k j with h3 | h3
                    · exact hP' k b h3 hb
                    · have : k = j := by omega
                      subst this
                      rw [ha] at hb; cases hb
                      exact emE_0 hin hem hjP
          · have hlt : ¬ i < L.length := by omega
            have hE := chF_ok (n := N.length) (L := L) (fun j b hj => hP' j b (by have := (List.getElem?_eq_some_iff.1 hj).1; omega) hj)
            simp only [go_sem, Int.cast_ofNat_Int, Int.reduceToNat, Bool.true_xor, Bool.false_xor, Bool.xor_true, Bool.xor_false, Nat.reduceAdd, Nat.reduceBEq, Nat.reduceLeDiff, Nat.reduceLT, Nat.reduceMul, Nat.reduceSub, Int.reduceEq, Int.reduceLT, Int.reduceLE, Int.reduceNeg, hlt, hE]
end Go.Sh
namespace Go.Sh
set_option linter.unusedSectionVars false
set_option linter.unnecessarySimpa false
set_option linter.unusedVariables false
set_option linter.unusedSimpArgs false
set_option maxRecDepth 100000
set_option maxHeartbeats 4000000
theorem em_iv (a : Em) : emB a = (U.chanB a.c && U.ivB a.x a.y && !decide (a.x = a.y)) := by
  simp only [emB, U.ivB]
  cases U.chanB a.c with
  | false => simp only [Bool.false_and]
  | true =>
    rw [Bool.eq_iff_iff]
    simp only [Bool.true_and, Bool.and_eq_true, decide_eq_true_eq, Bool.not_eq_true', decide_eq_false_iff_not]
    omega
theorem em_no' {a : Em} (h : emB a = false) : U.chanB a.c = false ∨ (U.chanB a.c = true ∧ U.ivB a.x a.y = false) ∨ (U.chanB a.c = true ∧ U.ivB a.x a.y = true ∧ decide (a.x = a.y) = true) := by
  rw [em_iv] at h
  cases h1 : U.chanB a.c with
  | false => exact .inl rfl
  | true =>
    cases h2 : U.ivB a.x a.y with
    | false => exact .inr (.inl ⟨rfl, rfl⟩)
    | true =>
      rw [h1, h2] at h
      exact .inr (.inr ⟨rfl, rfl, by simpa using h⟩)
theorem em_yes' {a : Em} (h : emB a = true) : U.chanB a.c = true ∧ U.ivB a.x a.y = true ∧ decide (a.x = a.y) = false := by
  rw [em_iv] at h
  simp only [Bool.and_eq_true, Bool.not_eq_true'] at h
  exact ⟨h.1.1, h.1.2, h.2⟩
theorem s23 (m : Nat) (H : Heap) (N P W g1 g2 g3 ex no th) (S : List U.Src) (f1 : Bool) (F : List U.Fd) (f2 : Bool) (L : List Em) (f : Bool) (hN : N.length ≤ maxLen) (hW : W.length ≤ maxLen) (hS : U.okS S) (hF : F.length ≤ maxLen) (hL : L.length ≤ maxLen) :
    call1 T (m + 8) (.fn 23) [G.st N P W g1 g2 g3 ex no th, U.sp S f1 F f2, .lst 4 (emsS L) f] H = some (.int .i64 (acE (G.okI N P W ex no th && U.ckB S F) N.length L), H) := by
  refine call_pure e23 (by rfl) ?_
  have h34 := fun H => G.s43 (m + 1) H N P W g1 g2 g3 ex no th hW hN
  have h35 := fun H => U.s44 (m + 4) H S F f1 f2 hS hF
  simp only [c23, heap0, go_sem, Int.cast_ofNat_Int, Int.reduceToNat, Bool.true_xor, Bool.false_xor, Bool.xor_true, Bool.xor_false, Nat.reduceAdd, Nat.reduceBEq, Nat.reduceLeDiff, Nat.reduceLT, Nat.reduceMul, Nat.reduceSub, Int.reduceEq, Int.reduceLT, Int.reduceLE, Int.reduceNeg, h34]
  cases hok : G.okI N P W ex no th with
  | false => simp only [go_sem, Int.cast_ofNat_Int, Int.reduceToNat, Bool.true_xor, Bool.false_xor, Bool.xor_true, Bool.xor_false, Nat.reduceAdd, Nat.reduceBEq, Nat.reduceLeDiff, Nat.reduceLT, Nat.reduceMul, Nat.reduceSub, Int.reduceEq, Int.reduceLT, Int.reduceLE, Int.reduceNeg, acE, Bool.false_and]
  | true =>
    simp only [go_sem, Int.cast_ofNat_Int, Int.reduceToNat, Bool.true_xor, Bool.false_xor, Bool.xor_true, Bool.xor_false, Nat.reduceAdd, Nat.reduceBEq, Nat.reduceLeDiff, Nat.reduceLT, Nat.reduceMul, Nat.reduceSub, Int.reduceEq, Int.reduceLT, Int.reduceLE, Int.reduceNeg, h35]
    cases hck : U.ckB S F with
    | false => simp only [go_sem, Int.cast_ofNat_Int, Int.reduceToNat, Bool.true_xor, Bool.false_xor, Bool.xor_true, Bool.xor_false, Nat.reduceAdd, Nat.reduceBEq, Nat.reduceLeDiff, Nat.reduceLT, Nat.reduceMul, Nat.reduceSub, Int.reduceEq, Int.reduceLT, Int.reduceLE, Int.reduceNeg, acE, Bool.and_false]
    | true =>
      simp only [go_sem, Int.cast_ofNat_Int, Int.reduceToNat, Bool.true_xor, Bool.false_xor, Bool.xor_true, Bool.xor_false, Nat.reduceAdd, Nat.reduceBEq, Nat.reduceLeDiff, Nat.reduceLT, Nat.reduceMul, Nat.reduceSub, Int.reduceEq, Int.reduceLT, Int.reduceLE, Int.reduceNeg, acE, Bool.and_self]
      by_cases h48 : 48 < L.length
      · have q : decide ((48 : Int) < (L.length : Int)) = true := decide_eq_true (by omega)
        simp only [go_sem, Int.cast_ofNat_Int, Int.reduceToNat, Bool.true_xor, Bool.false_xor, Bool.xor_true, Bool.xor_false, Nat.reduceAdd, Nat.reduceBEq, Nat.reduceLeDiff, Nat.reduceLT, Nat.reduceMul, Nat.reduceSub, Int.reduceEq, Int.reduceLT, Int.reduceLE, Int.reduceNeg, q, h48, decide_true]
      · have q : decide ((48 : Int) < (L.length : Int)) = false := decide_eq_false (by omega)
        simp only [go_sem, Int.cast_ofNat_Int, Int.reduceToNat, Bool.true_xor, Bool.false_xor, Bool.xor_true, Bool.xor_false, Nat.reduceAdd, Nat.reduceBEq, Nat.reduceLeDiff, Nat.reduceLT, Nat.reduceMul, Nat.reduceSub, Int.reduceEq, Int.reduceLT, Int.reduceLE, Int.reduceNeg, q, h48, decide_false]
        refine loop_rule (fun i => ([(2, .lst 4 (emsS L) f), (3, .ptr 0 0 0 0), (7, .int .i64 i)],
          ⟨[.box [.lst 2 (G.ptsS N) g1, .lst 1 (G.intsS P) g2, .lst 5 (G.wlsS W) g3, .int .i64 ex, .int .i64 no, .int .i64 th], .box [.lst 7 (U.srsS S) f1, .lst 6 (U.fdsS F) f2]], [], 0⟩))
          (fun i => ∀ (j : Nat) b, j < i → L[j]? = some b → emE N.length (L.take j) b = 0) L.length ?_ (fun j b h => by omega) ?_
        · simp only [go_sem, Int.cast_ofNat_Int, Int.reduceToNat, Bool.true_xor, Bool.false_xor, Bool.xor_true, Bool.xor_false, Nat.reduceAdd, Nat.reduceBEq, Nat.reduceLeDiff, Nat.reduceLT, Nat.reduceMul, Nat.reduceSub, Int.reduceEq, Int.reduceLT, Int.reduceLE, Int.reduceNeg] <;> rfl
        · intro i hi hP'
          rcases Nat.lt_or_ge i L.length with hlt | hge
          · obtain ⟨a, ha⟩ := getS hlt
            have hw := w64_suc hlt hL
            simp only [go_sem, Int.cast_ofNat_Int, Int.reduceToNat, Bool.true_xor, Bool.false_xor, Bool.xor_true, Bool.xor_false, Nat.reduceAdd, Nat.reduceBEq, Nat.reduceLeDiff, Nat.reduceLT, Nat.reduceMul, Nat.reduceSub, Int.reduceEq, Int.reduceLT, Int.reduceLE, Int.reduceNeg, hlt, ha, G.ptsS_len']
            cases hin : U.inB N.length a.n with
            | false =>
              have hE := chF_at ha hP' (by rw [emE_7 hin]; decide)
              rw [emE_7 hin] at hE
              rcases U.in_no hin with q | ⟨q, q'⟩
              · simp only [go_sem, Int.cast_ofNat_Int, Int.reduceToNat, Bool.true_xor, Bool.false_xor, Bool.xor_true, Bool.xor_false, Nat.reduceAdd, Nat.reduceBEq, Nat.reduceLeDiff, Nat.reduceLT, Nat.reduceMul, Nat.reduceSub, Int.reduceEq, Int.reduceLT, Int.reduceLE, Int.reduceNeg, q, hE]
              · simp only [go_sem, Int.cast_ofNat_Int, Int.reduceToNat, Bool.true_xor, Bool.false_xor, Bool.xor_true, Bool.xor_false, Nat.reduceAdd, Nat.reduceBEq, Nat.reduceLeDiff, Nat.reduceLT, Nat.reduceMul, Nat.reduceSub, Int.reduceEq, Int.reduceLT, Int.reduceLE, Int.reduceNeg, hlt, ha, q, q', G.ptsS_len', hE]
            | true =>
              obtain ⟨q, q'⟩ := in_yes' hin
              simp only [go_sem, Int.cast_ofNat_Int, Int.reduceToNat, Bool.true_xor, Bool.false_xor, Bool.xor_true, Bool.xor_false, Nat.reduceAdd, Nat.reduceBEq, Nat.reduceLeDiff, Nat.reduceLT, Nat.reduceMul, Nat.reduceSub, Int.reduceEq, Int.reduceLT, Int.reduceLE, Int.reduceNeg, hlt, ha, q, q', G.ptsS_len', U.s24]
              cases hem : emB a with
              | false =>
                have hE := chF_at ha hP' (by rw [emE_2 hin hem]; decide)
                rw [emE_2 hin hem] at hE
                rcases em_no' hem with r1 | ⟨r1, r2⟩ | ⟨r1, r2, r3⟩
                · simp only [go_sem, Int.cast_ofNat_Int, Int.reduceToNat, Bool.true_xor, Bool.false_xor, Bool.xor_true, Bool.xor_false, Nat.reduceAdd, Nat.reduceBEq, Nat.reduceLeDiff, Nat.reduceLT, Nat.reduceMul, Nat.reduceSub, Int.reduceEq, Int.reduceLT, Int.reduceLE, Int.reduceNeg, r1, hE]
                · simp only [go_sem, Int.cast_ofNat_Int, Int.reduceToNat, Bool.true_xor, Bool.false_xor, Bool.xor_true, Bool.xor_false, Nat.reduceAdd, Nat.reduceBEq, Nat.reduceLeDiff, Nat.reduceLT, Nat.reduceMul, Nat.reduceSub, Int.reduceEq, Int.reduceLT, Int.reduceLE, Int.reduceNeg, hlt, ha, r1, r2, U.s25, hE]
                · simp only [go_sem, Int.cast_ofNat_Int, Int.reduceToNat, Bool.true_xor, Bool.false_xor, Bool.xor_true, Bool.xor_false, Nat.reduceAdd, Nat.reduceBEq, Nat.reduceLeDiff, Nat.reduceLT, Nat.reduceMul, Nat.reduceSub, Int.reduceEq, Int.reduceLT, Int.reduceLE, Int.reduceNeg, hlt, ha, r1, r2, r3, U.s25, hE]
              | true =>
                obtain ⟨r1, r2, r3⟩ := em_yes' hem
                have hle : i ≤ L.length := by omega
                simp only [go_sem, Int.cast_ofNat_Int, Int.reduceToNat, Bool.true_xor, Bool.false_xor, Bool.xor_true, Bool.xor_false, Nat.reduceAdd, Nat.reduceBEq, Nat.reduceLeDiff, Nat.reduceLT, Nat.reduceMul, Nat.reduceSub, Int.reduceEq, Int.reduceLT, Int.reduceLE, Int.reduceNeg, hlt, ha, r1, r2, r3, U.s25]
                refine loop_post (fun j => ([(2, .lst 4 (emsS L) f), (3, .ptr 0 0 0 0), (7, .int .i64 i), (8, .int .i64 j)],
                  ⟨[.box [.lst 2 (G.ptsS N) g1, .lst 1 (G.intsS P) g2, .lst 5 (G.wlsS W) g3, .int .i64 ex, .int .i64 no, .int .i64 th], .box [.lst 7 (U.srsS S) f1, .lst 6 (U.fdsS F) f2]], [], 0⟩))
                  (fun j => (L.take j).any (clashB a) = false) i ?_ rfl ?_
                · simp only [go_sem, Int.cast_ofNat_Int, Int.reduceToNat, Bool.true_xor, Bool.false_xor, Bool.xor_true, Bool.xor_false, Nat.reduceAdd, Nat.reduceBEq, Nat.reduceLeDiff, Nat.reduceLT, Nat.reduceMul, Nat.reduceSub, Int.reduceEq, Int.reduceLT, Int.reduceLE, Int.reduceNeg] <;> rfl
                · intro j hj hjP
                  rcases Nat.lt_or_ge j i with hlt2 | hge2
                  · obtain ⟨b, hb⟩ := getS (l := L) (i := j) (by omega)
                    have hjl : j < L.length := by omega
                    have hb' : (L.take i)[j]? = some b := by rw [List.getElem?_take, if_pos hlt2]; exact hb
                    have hw2 := w64_suc hlt2 (Nat.le_trans hle hL)
                    have han := anyT_succ (p := clashB a) hb
                    have h15 := fun H => s45 (m + 6) H b a
                    rw [ov_comm] at h15
                    cases hcl : clashB a b with
                    | true =>
                      have hE := chF_at ha hP' (by rw [emE_16 hin hem (List.any_eq_true.2 ⟨b, List.mem_of_getElem? hb', hcl⟩)]; decide)
                      rw [emE_16 hin hem (List.any_eq_true.2 ⟨b, List.mem_of_getElem? hb', hcl⟩)] at hE
                      simp only [clashB, Bool.and_eq_true] at hcl
                      simp only [go_sem, Int.cast_ofNat_Int, Int.reduceToNat, Bool.true_xor, Bool.false_xor, Bool.xor_true, Bool.xor_false, Nat.reduceAdd, Nat.reduceBEq, Nat.reduceLeDiff, Nat.reduceLT, Nat.reduceMul, Nat.reduceSub, Int.reduceEq, Int.reduceLT, Int.reduceLE, Int.reduceNeg, hlt, ha, hlt2, hjl, hb, hcl.1, hcl.2, h15, hE]
                    | false =>
                      have hn : (L.take (j + 1)).any (clashB a) = false := by rw [han, hjP, hcl]; rfl
                      simp only [clashB] at hcl
                      cases hnn : decide (b.n = a.n) with
                      | false =>
                        simp only [go_sem, Int.cast_ofNat_Int, Int.reduceToNat, Bool.true_xor, Bool.false_xor, Bool.xor_true, Bool.xor_false, Nat.reduceAdd, Nat.reduceBEq, Nat.reduceLeDiff, Nat.reduceLT, Nat.reduceMul, Nat.reduceSub, Int.reduceEq, Int.reduceLT, Int.reduceLE, Int.reduceNeg, hlt, ha, hlt2, hjl, hb, hnn, hw2]
                        exact ⟨by first | trivial | exact hlt2, rfl, hn⟩
                      | true =>
                        rw [hnn, Bool.true_and] at hcl
                        simp only [go_sem, Int.cast_ofNat_Int, Int.reduceToNat, Bool.true_xor, Bool.false_xor, Bool.xor_true, Bool.xor_false, Nat.reduceAdd, Nat.reduceBEq, Nat.reduceLeDiff, Nat.reduceLT, Nat.reduceMul, Nat.reduceSub, Int.reduceEq, Int.reduceLT, Int.reduceLE, Int.reduceNeg, hlt, ha, hlt2, hjl, hb, hnn, h15, hcl, hw2]
                        exact ⟨by first | trivial | exact hlt2, rfl, hn⟩
                  · have hji : j = i := by omega
                    subst hji
                    simp only [go_sem, Int.cast_ofNat_Int, Int.reduceToNat, Bool.true_xor, Bool.false_xor, Bool.xor_true, Bool.xor_false, Nat.reduceAdd, Nat.reduceBEq, Nat.reduceLeDiff, Nat.reduceLT, Nat.reduceMul, Nat.reduceSub, Int.reduceEq, Int.reduceLT, Int.reduceLE, Int.reduceNeg, Int.lt_irrefl, Nat.lt_irrefl, decide_false, hw]
                    refine ⟨by first | trivial | exact hlt, rfl, fun k b hk hb => ?_⟩
                    rcases Nat.lt_or_ge k j with h3 | h3
                    · exact hP' k b h3 hb
                    · have : k = j := by omega
                      subst this
                      rw [ha] at hb; cases hb
                      exact emE_0 hin hem hjP
          · have hlt : ¬ i < L.length := by omega
            have hE := chF_ok (n := N.length) (L := L) (fun j b hj => hP' j b (by have := (List.getElem?_eq_some_iff.1 hj).1; omega) hj)
            simp only [go_sem, Int.cast_ofNat_Int, Int.reduceToNat, Bool.true_xor, Bool.false_xor, Bool.xor_true, Bool.xor_false, Nat.reduceAdd, Nat.reduceBEq, Nat.reduceLeDiff, Nat.reduceLT, Nat.reduceMul, Nat.reduceSub, Int.reduceEq, Int.reduceLT, Int.reduceLE, Int.reduceNeg, hlt, hE]
end Go.Sh
namespace Go.Sh
set_option linter.unusedSectionVars false
set_option linter.unnecessarySimpa false
set_option linter.unusedVariables false
set_option linter.unusedSimpArgs false
set_option maxRecDepth 100000
set_option maxHeartbeats 4000000
abbrev scC (N : List (Int × Int)) (P : List Int) (W : List G.Wl) (g1 g2 g3 : Bool) (ex no th : Int) (S : List U.Src) (f1 : Bool) (F : List U.Fd) (f2 : Bool) (L : List Em) (f : Bool) : List SV :=
  [.lst 2 (G.ptsS N) g1, .lst 1 (G.intsS P) g2, .lst 5 (G.wlsS W) g3, .int .i64 ex, .int .i64 no, .int .i64 th, .lst 7 (U.srsS S) f1, .lst 6 (U.fdsS F) f2, .lst 4 (emsS L) f]
def fwB (N : List (Int × Int)) (P : List Int) (W : List G.Wl) (S : List U.Src) (F : List U.Fd) (L : List Em) : Bool := G.fewI N P W && U.fewB S F && decide (L.length ≤ 50)
theorem s20 (n : Nat) (H : Heap) (N P W g1 g2 g3 ex no th S f1 F f2 L f) (hS : S.length ≤ maxLen) : call1 T (n + 3) (.fn 20) [G.st N P W g1 g2 g3 ex no th, U.sp S f1 F f2, .lst 4 (emsS L) f] H = some (.bool (fwB N P W S F L), H) := by
  refine call_pure e20 (by rfl) ?_
  have h49 := fun H => G.s38 (n + 1) H N P W g1 g2 g3 ex no th
  have h50 := fun H => U.s39 n H S F f1 f2 hS
  simp only [c20, heap0, go_sem, Int.cast_ofNat_Int, Int.reduceToNat, Bool.true_xor, Bool.false_xor, Bool.xor_true, Bool.xor_false, Nat.reduceAdd, Nat.reduceBEq, Nat.reduceLeDiff, Nat.reduceLT, Nat.reduceMul, Nat.reduceSub, Int.reduceEq, Int.reduceLT, Int.reduceLE, Int.reduceNeg, h49]
  cases h1 : G.fewI N P W with
  | false => simp only [go_sem, Int.cast_ofNat_Int, Int.reduceToNat, Bool.true_xor, Bool.false_xor, Bool.xor_true, Bool.xor_false, Nat.reduceAdd, Nat.reduceBEq, Nat.reduceLeDiff, Nat.reduceLT, Nat.reduceMul, Nat.reduceSub, Int.reduceEq, Int.reduceLT, Int.reduceLE, Int.reduceNeg, fwB, h1, Bool.false_and]
  | true =>
    simp only [go_sem, Int.cast_ofNat_Int, Int.reduceToNat, Bool.true_xor, Bool.false_xor, Bool.xor_true, Bool.xor_false, Nat.reduceAdd, Nat.reduceBEq, Nat.reduceLeDiff, Nat.reduceLT, Nat.reduceMul, Nat.reduceSub, Int.reduceEq, Int.reduceLT, Int.reduceLE, Int.reduceNeg, h50]
    cases h2 : U.fewB S F with
    | false => simp only [go_sem, Int.cast_ofNat_Int, Int.reduceToNat, Bool.true_xor, Bool.false_xor, Bool.xor_true, Bool.xor_false, Nat.reduceAdd, Nat.reduceBEq, Nat.reduceLeDiff, Nat.reduceLT, Nat.reduceMul, Nat.reduceSub, Int.reduceEq, Int.reduceLT, Int.reduceLE, Int.reduceNeg, fwB, h1, h2, Bool.false_and, Bool.and_false]
    | true =>
      have : decide ((L.length : Int) ≤ 50) = decide (L.length ≤ 50) := by rw [decide_eq_decide]; omega
      simp only [go_sem, Int.cast_ofNat_Int, Int.reduceToNat, Bool.true_xor, Bool.false_xor, Bool.xor_true, Bool.xor_false, Nat.reduceAdd, Nat.reduceBEq, Nat.reduceLeDiff, Nat.reduceLT, Nat.reduceMul, Nat.reduceSub, Int.reduceEq, Int.reduceLT, Int.reduceLE, Int.reduceNeg, fwB, h1, h2, Bool.true_and, this]
theorem s6 (n : Nat) (H : Heap) (N P W g1 g2 g3 ex no th S f1 F f2 L f) (hS : S.length ≤ maxLen) : call1 T (n + 4) (.fn 6) [.agg (scC N P W g1 g2 g3 ex no th S f1 F f2 L f)] H = some (.bool (fwB N P W S F L), H) := by
  refine call_pure e6 (by rfl) ?_
  have h31 := fun H => s20 n H N P W g1 g2 g3 ex no th S f1 F f2 L f hS
  simp only [c6, heap0, go_sem, Int.cast_ofNat_Int, Int.reduceToNat, Bool.true_xor, Bool.false_xor, Bool.xor_true, Bool.xor_false, Nat.reduceAdd, Nat.reduceBEq, Nat.reduceLeDiff, Nat.reduceLT, Nat.reduceMul, Nat.reduceSub, Int.reduceEq, Int.reduceLT, Int.reduceLE, Int.reduceNeg, h31]
theorem fw_of {N P W S F L} (h : fwB N P W S F L = true) : N.length ≤ 40 ∧ S.length ≤ 20 ∧ F.length ≤ 70 ∧ L.length ≤ 50 := by
  simp only [fwB, G.fewI, U.fewB, Bool.and_eq_true, decide_eq_true_eq] at h
  omega
theorem x12 : T 8 = some (stdClone 4 32 [.int .i64 0, .int .i64 0, .int .i64 0, .int .i64 0]) := e8
theorem ems_still (L : List Em) : Still (emsS L) := by
  intro cs hcs c hc
  simp only [emsS, List.mem_map] at hcs
  obtain ⟨h, _, rfl⟩ := hcs
  simp only [List.mem_cons, List.not_mem_nil, or_false] at hc
  rcases hc with rfl | rfl | rfl | rfl <;> exact ⟨by simp [SV.refs], fun N H d => by simp only [frz]⟩
theorem s8 (n : Nat) (H : Heap) (L : List Em) (f : Bool) (h : L.length ≤ 1000) : call1 T (n + 1) (.fn 8) [.lst 4 (emsS L) f] H = some (.lst 4 (emsS L) false, H) :=
  stdClone_ok x12 (.inl rfl) (ems_still L) (by rw [emsS_len]; exact Nat.le_trans (show L.length * 32 ≤ 100000 by omega) (by decide))
abbrev emT : List DT := [.int .i64, .int .i64, .int .i64, .int .i64]
abbrev scT : List DT := [.lst [.int .i64, .int .i64], .lst [.int .i64], .lst [.int .i64, .int .i64, .int .i64, .int .i64, .int .i64], .int .i64, .int .i64, .int .i64,
  .lst [.int .i64, .int .i64, .int .i64, .lst [.int .i64], .int .i64, .int .i64, .int .i64], .lst [.int .i64, .int .i64, .int .i64, .int .i64, .int .i64, .int .i64], .lst emT]
abbrev scD : Bool × List DT := (true, scT)
abbrev emD : Bool × List DT := (true, emT)
theorem pts_of : ∀ {L : List (List SV)}, (∀ q ∈ L, FitsL [.int .i64, .int .i64] q) → ∃ N, L = G.ptsS N
  | [], _ => ⟨[], rfl⟩
  | r :: L, h => by
    obtain ⟨N, rfl⟩ := pts_of (L := L) (fun q hq => h q (by simp [hq]))
    have h0 := h r (by simp)
    obtain ⟨a, _, rfl, _, h0⟩ := fitsL_i h0
    obtain ⟨b, _, rfl, _, h0⟩ := fitsL_i h0
    cases fitsL_nil' h0
    exact ⟨(a, b) :: N, rfl⟩
theorem intsG_of : ∀ {L : List (List SV)}, (∀ q ∈ L, FitsL [.int .i64] q) → ∃ N, L = G.intsS N
  | [], _ => ⟨[], rfl⟩
  | r :: L, h => by
    obtain ⟨N, rfl⟩ := intsG_of (L := L) (fun q hq => h q (by simp [hq]))
    have h0 := h r (by simp)
    obtain ⟨a, _, rfl, _, h0⟩ := fitsL_i h0
    cases fitsL_nil' h0
    exact ⟨a :: N, rfl⟩
theorem ints_of : ∀ {L : List (List SV)}, (∀ q ∈ L, FitsL [.int .i64] q) → ∃ N, L = iS N
  | [], _ => ⟨[], rfl⟩
  | r :: L, h => by
    obtain ⟨N, rfl⟩ := ints_of (L := L) (fun q hq => h q (by simp [hq]))
    have h0 := h r (by simp)
    obtain ⟨a, _, rfl, _, h0⟩ := fitsL_i h0
    cases fitsL_nil' h0
    exact ⟨a :: N, rfl⟩
theorem wls_of : ∀ {L : List (List SV)}, (∀ q ∈ L, FitsL [.int .i64, .int .i64, .int .i64, .int .i64, .int .i64] q) → ∃ N, L = G.wlsS N
  | [], _ => ⟨[], rfl⟩
  | r :: L, h => by
    obtain ⟨N, rfl⟩ := wls_of (L := L) (fun q hq => h q (by simp [hq]))
    have h0 := h r (by simp)
    obtain ⟨a, _, rfl, _, h0⟩ := fitsL_i h0
    obtain ⟨b, _, rfl, _, h0⟩ := fitsL_i h0
    obtain ⟨c, _, rfl, _, h0⟩ := fitsL_i h0
    obtain ⟨d, _, rfl, _, h0⟩ := fitsL_i h0
    obtain ⟨f, _, rfl, _, h0⟩ := fitsL_i h0
    cases fitsL_nil' h0
    exact ⟨⟨a, b, c, d, f⟩ :: N, rfl⟩
theorem srs_of : ∀ {L : List (List SV)}, (∀ q ∈ L, FitsL [.int .i64, .int .i64, .int .i64, .lst [.int .i64], .int .i64, .int .i64, .int .i64] q) → ∃ S, L = U.srsS S ∧ ∀ s ∈ S, s.C.length ≤ maxLen
  | [], _ => ⟨[], rfl, fun s h => by cases h⟩
  | r :: L, h => by
    obtain ⟨N, rfl, hN⟩ := srs_of (L := L) (fun q hq => h q (by simp [hq]))
    have k := h r (by simp)
    obtain ⟨a, _, rfl, _, k⟩ := fitsL_i k
    obtain ⟨b, _, rfl, _, k⟩ := fitsL_i k
    obtain ⟨p, _, rfl, _, k⟩ := fitsL_i k
    obtain ⟨L1, f1, _, rfl, m1, a1, k⟩ := fitsL_l k
    obtain ⟨per, _, rfl, _, k⟩ := fitsL_i k
    obtain ⟨fr, _, rfl, _, k⟩ := fitsL_i k
    obtain ⟨to, _, rfl, _, k⟩ := fitsL_i k
    cases fitsL_nil' k
    obtain ⟨C, rfl⟩ := ints_of a1
    exact ⟨⟨a, b, p, C, f1, per, fr, to⟩ :: N, rfl, fun t ht => by
      rcases List.mem_cons.1 ht with rfl | ht
      · simpa [iS] using m1
      · exact hN t ht⟩
theorem fds_of : ∀ {L : List (List SV)}, (∀ q ∈ L, FitsL [.int .i64, .int .i64, .int .i64, .int .i64, .int .i64, .int .i64] q) → ∃ S, L = U.fdsS S
  | [], _ => ⟨[], rfl⟩
  | r :: L, h => by
    obtain ⟨N, rfl⟩ := fds_of (L := L) (fun q hq => h q (by simp [hq]))
    have k := h r (by simp)
    obtain ⟨a, _, rfl, _, k⟩ := fitsL_i k
    obtain ⟨b, _, rfl, _, k⟩ := fitsL_i k
    obtain ⟨c, _, rfl, _, k⟩ := fitsL_i k
    obtain ⟨x, _, rfl, _, k⟩ := fitsL_i k
    obtain ⟨y, _, rfl, _, k⟩ := fitsL_i k
    obtain ⟨f, _, rfl, _, k⟩ := fitsL_i k
    cases fitsL_nil' k
    exact ⟨⟨a, b, c, x, y, f⟩ :: N, rfl⟩
theorem emL_of {r : List SV} (k : FitsL emT r) : ∃ e : Em, r = emC e := by
  obtain ⟨a, _, rfl, _, k⟩ := fitsL_i k
  obtain ⟨b, _, rfl, _, k⟩ := fitsL_i k
  obtain ⟨c, _, rfl, _, k⟩ := fitsL_i k
  obtain ⟨d, _, rfl, _, k⟩ := fitsL_i k
  cases fitsL_nil' k
  exact ⟨⟨a, b, c, d⟩, rfl⟩
theorem ems_of : ∀ {L : List (List SV)}, (∀ q ∈ L, FitsL emT q) → ∃ E, L = emsS E
  | [], _ => ⟨[], rfl⟩
  | r :: L, h => by
    obtain ⟨N, rfl⟩ := ems_of (L := L) (fun q hq => h q (by simp [hq]))
    obtain ⟨e, rfl⟩ := emL_of (h r (by simp))
    exact ⟨e :: N, rfl⟩
theorem em_of {x : SV} (h : FitsA emD x) : ∃ e : Em, x = .agg (emC e) := by
  obtain ⟨cs, rfl, k⟩ := fitsA_agg h
  obtain ⟨e, rfl⟩ := emL_of k
  exact ⟨e, rfl⟩
theorem sc_of {x : SV} (h : FitsA scD x) : ∃ N P W g1 g2 g3 ex no th S f1 F f2 L f, x = .agg (scC N P W g1 g2 g3 ex no th S f1 F f2 L f) ∧ N.length ≤ maxLen ∧ P.length ≤ maxLen ∧ W.length ≤ maxLen ∧ U.okS S ∧ F.length ≤ maxLen ∧ L.length ≤ maxLen := by
  obtain ⟨cs, rfl, k⟩ := fitsA_agg h
  obtain ⟨L1, g1, _, rfl, m1, a1, k⟩ := fitsL_l k
  obtain ⟨L2, g2, _, rfl, m2, a2, k⟩ := fitsL_l k
  obtain ⟨L3, g3, _, rfl, m3, a3, k⟩ := fitsL_l k
  obtain ⟨ex, _, rfl, _, k⟩ := fitsL_i k
  obtain ⟨no, _, rfl, _, k⟩ := fitsL_i k
  obtain ⟨th, _, rfl, _, k⟩ := fitsL_i k
  obtain ⟨L4, f1, _, rfl, m4, a4, k⟩ := fitsL_l k
  obtain ⟨L5, f2, _, rfl, m5, a5, k⟩ := fitsL_l k
  obtain ⟨L6, f, _, rfl, m6, a6, k⟩ := fitsL_l k
  cases fitsL_nil' k
  obtain ⟨N, rfl⟩ := pts_of a1
  obtain ⟨P, rfl⟩ := intsG_of a2
  obtain ⟨W, rfl⟩ := wls_of a3
  obtain ⟨S, rfl, hS⟩ := srs_of a4
  obtain ⟨F, rfl⟩ := fds_of a5
  obtain ⟨L, rfl⟩ := ems_of a6
  exact ⟨N, P, W, g1, g2, g3, ex, no, th, S, f1, F, f2, L, f, rfl, by simpa [G.ptsS] using m1, by simpa [G.intsS] using m2, by simpa [G.wlsS] using m3, ⟨by simpa [U.srsS] using m4, hS⟩, by simpa [U.fdsS] using m5, by simpa [emsS] using m6⟩
end Go.Sh
