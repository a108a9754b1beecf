import Derived.Test.YteohbocjhfcbdaaK05
namespace Go.Sh
set_option linter.unusedSectionVars false
set_option linter.unnecessarySimpa false
set_option linter.unusedVariables false
set_option maxRecDepth 100000
set_option maxHeartbeats 4000000
set_option linter.unusedSimpArgs false
def onI (p q a b c d : Int) : Bool := (decide (p = a) && decide (q = b)) || (decide (p = c) && decide (q = d)) || (decide (turnI a b c d p q = 0) && withinI p q a b c d)
theorem s40 (n : Nat) (H : Heap) (p q a b c d : Int) : call1 T (n + 4) (.fn 40) [pt p q, pt a b, pt c d] H = some (.bool (onI p q a b c d), H) := by
  refine call_pure e40 (by rfl) ?_
  simp only [c40, heap0, go_sem, Nat.reduceAdd, Nat.reduceBEq, Nat.reduceLeDiff]
  repeat' (with_reducible refine fork_split (fun _ => ?_) (fun _ => ?_) <;> simp only [*, go_sem, Nat.reduceAdd, Nat.reduceBEq, Nat.reduceLeDiff, s41, s62])
  all_goals (simp only [onI]; grind)
def crossI (a b c d x y z t : Int) : Bool := onI x y a b c d || onI z t a b c d || onI a b x y z t || onI c d x y z t ||
  (decide (w64 (turnI a b c d x y * turnI a b c d z t) < 0) && decide (w64 (turnI x y z t a b * turnI x y z t c d) < 0))
theorem s15 (n : Nat) (H : Heap) (a b c d x y z t f : Int) : call1 T (n + 5) (.fn 15) [pt a b, pt c d, wl x y z t f] H = some (.bool (crossI a b c d x y z t), H) := by
  refine call_pure e15 (by rfl) ?_
  simp only [c15, heap0, go_sem, Nat.reduceAdd, Nat.reduceBEq, Nat.reduceLeDiff, s40, s41]
  repeat' (with_reducible refine fork_split (fun _ => ?_) (fun _ => ?_) <;> simp only [*, go_sem, Nat.reduceAdd, Nat.reduceBEq, Nat.reduceLeDiff, s40, s41])
  all_goals (simp only [crossI]; grind)
def crossR (a b c d x y z t : Int) : Bool := (decide (w64 (turnR a b c d x y * turnR a b c d z t) < 0) && decide (w64 (turnR x y z t a b * turnR x y z t c d) < 0)) ||
  (decide (turnR a b c d x y = 0) && withinI x y a b c d) || (decide (turnR a b c d z t = 0) && withinI z t a b c d) || (decide (turnR x y z t a b = 0) && withinI a b x y z t) || (decide (turnR x y z t c d = 0) && withinI c d x y z t)
theorem s16 (n : Nat) (H : Heap) (a b c d x y z t f : Int) : call1 T (n + 2) (.fn 16) [pt a b, pt c d, wl x y z t f] H = some (.bool (crossR a b c d x y z t), H) := by
  refine call_pure e16 (by rfl) ?_
  simp only [c16, heap0, go_sem, Nat.reduceAdd, Nat.reduceBEq, Nat.reduceLeDiff, s42, s43]
  repeat' (with_reducible refine fork_split (fun _ => ?_) (fun _ => ?_) <;> simp only [*, go_sem, Nat.reduceAdd, Nat.reduceBEq, Nat.reduceLeDiff, s42, s43])
  all_goals (simp only [crossR]; grind)
