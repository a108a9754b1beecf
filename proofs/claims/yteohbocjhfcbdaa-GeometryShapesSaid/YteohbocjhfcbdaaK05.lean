import Derived.Test.YteohbocjhfcbdaaG05
namespace Go.Sh
set_option linter.unusedSectionVars false
set_option linter.unnecessarySimpa false
set_option linter.unusedVariables false
set_option maxRecDepth 100000
set_option linter.unusedSimpArgs false
abbrev pt (a b : Int) : SV := .agg [.int .i64 a, .int .i64 b]
abbrev wl (a b c d f : Int) : SV := .agg [.int .i64 a, .int .i64 b, .int .i64 c, .int .i64 d, .int .i64 f]
theorem s13 (n : Nat) (H : Heap) (a b c d : Int) : call1 T (n + 1) (.fn 13) [pt a b, pt c d] H =
    some (.int .i64 (w64 (w64 (w64 (a - c) * w64 (a - c)) + w64 (w64 (b - d) * w64 (b - d)))), H) := by
  refine call_pure e13 (by rfl) ?_
  simp only [c13, heap0, go_sem, Nat.reduceAdd, Nat.reduceBEq]
theorem s14 (n : Nat) (H : Heap) (a b c d : Int) : call1 T (n + 1) (.fn 14) [pt a b, pt c d] H =
    some (.int .i64 (w64 (w64 (w64 (a - c) * w64 (a - c)) + w64 (w64 (b - d) * w64 (b - d)))), H) := by
  refine call_pure e14 (by rfl) ?_
  simp only [c14, heap0, go_sem, Nat.reduceAdd, Nat.reduceBEq]
theorem s71 (n : Nat) (H : Heap) (a : Int) : call1 T (n + 1) (.fn 71) [.int .i64 a] H = some (.bool false, H) := by
  refine call_pure e71 (by rfl) ?_
  simp only [c71, heap0, go_sem, Nat.reduceAdd, Nat.reduceBEq]
def cmpI (a b : Int) : Int := if a < b then -1 else if b < a then 1 else 0
theorem s63 (n : Nat) (H : Heap) (a b : Int) : call1 T (n + 2) (.fn 63) [.int .i64 a, .int .i64 b] H = some (.int .i64 (cmpI a b), H) := by
  refine call_pure e63 (by rfl) ?_
  simp only [c63, heap0, go_sem, Nat.reduceAdd, Nat.reduceBEq, s71]
  repeat' (with_reducible refine fork_split (fun _ => ?_) (fun _ => ?_) <;> simp only [*, go_sem, Nat.reduceAdd, Nat.reduceBEq])
  all_goals simp_all [cmpI]
  all_goals omega
def turnI (a b c d x y : Int) : Int := cmpI (w64 (w64 (c - a) * w64 (y - b))) (w64 (w64 (d - b) * w64 (x - a)))
theorem s41 (n : Nat) (H : Heap) (a b c d x y : Int) : call1 T (n + 3) (.fn 41) [pt a b, pt c d, pt x y] H = some (.int .i64 (turnI a b c d x y), H) := by
  refine call_pure e41 (by rfl) ?_
  simp only [c41, heap0, go_sem, Nat.reduceAdd, Nat.reduceBEq, s63]
  rfl
def turnR (a b c d x y : Int) : Int := if w64 (w64 (w64 (c - a) * w64 (y - b)) - w64 (w64 (d - b) * w64 (x - a))) > 0 then 1 else if w64 (w64 (w64 (c - a) * w64 (y - b)) - w64 (w64 (d - b) * w64 (x - a))) < 0 then -1 else 0
theorem s42 (n : Nat) (H : Heap) (a b c d x y : Int) : call1 T (n + 1) (.fn 42) [pt a b, pt c d, pt x y] H = some (.int .i64 (turnR a b c d x y), H) := by
  refine call_pure e42 (by rfl) ?_
  simp only [c42, heap0, go_sem, Nat.reduceAdd, Nat.reduceBEq]
  repeat' (with_reducible refine fork_split (fun _ => ?_) (fun _ => ?_) <;> simp only [*, go_sem, Nat.reduceAdd, Nat.reduceBEq])
  all_goals (simp only [decide_eq_true_eq, decide_eq_false_iff_not] at *; simp only [turnR]; congr 2; (repeat' split) <;> omega)
def withinI (p q a b c d : Int) : Bool := decide (min a c ≤ p) && decide (p ≤ max a c) && decide (min b d ≤ q) && decide (q ≤ max b d)
theorem s62 (n : Nat) (H : Heap) (p q a b c d : Int) : call1 T (n + 1) (.fn 62) [pt p q, pt a b, pt c d] H = some (.bool (withinI p q a b c d), H) := by
  refine call_pure e62 (by rfl) ?_
  simp only [c62, heap0, go_sem, Nat.reduceAdd, Nat.reduceBEq]
  repeat' (with_reducible refine fork_split (fun _ => ?_) (fun _ => ?_) <;> simp only [*, go_sem, Nat.reduceAdd, Nat.reduceBEq])
  all_goals (simp only [decide_eq_true_eq, decide_eq_false_iff_not] at *; simp only [withinI]; congr 2; rw [Bool.eq_iff_iff]; simp only [Bool.and_eq_true, Bool.or_eq_true, decide_eq_true_eq, Bool.false_eq_true, false_iff, true_iff]; omega)
theorem s43 (n : Nat) (H : Heap) (p q a b c d : Int) : call1 T (n + 1) (.fn 43) [pt a b, pt c d, pt p q] H = some (.bool (withinI p q a b c d), H) := by
  refine call_pure e43 (by rfl) ?_
  simp only [c43, heap0, go_sem, Nat.reduceAdd, Nat.reduceBEq]
  repeat' (with_reducible refine fork_split (fun _ => ?_) (fun _ => ?_) <;> simp only [*, go_sem, Nat.reduceAdd, Nat.reduceBEq])
  all_goals (simp only [decide_eq_true_eq, decide_eq_false_iff_not] at *; simp only [withinI]; congr 2; rw [Bool.eq_iff_iff]; simp only [Bool.and_eq_true, Bool.or_eq_true, decide_eq_true_eq, Bool.false_eq_true, false_iff, true_iff]; omega)
theorem s39 (n : Nat) (H : Heap) (a b : Int) : call1 T (n + 1) (.fn 39) [pt a b] H = some (.bool (decide (a < -20000) || decide (a > 20000) || decide (b < -20000) || decide (b > 20000)), H) := by
  refine call_pure e39 (by rfl) ?_
  simp only [c39, heap0, go_sem, Nat.reduceAdd, Nat.reduceBEq]
  repeat' (with_reducible refine fork_split (fun _ => ?_) (fun _ => ?_) <;> simp only [*, go_sem, Nat.reduceAdd, Nat.reduceBEq])
  all_goals simp_all

