

import Derived.Test.YteohbocjhfcbdaaC1
namespace Go.Sh
set_option linter.unusedSectionVars false
set_option linter.unnecessarySimpa false
set_option linter.unusedVariables false
set_option linter.unusedSimpArgs false
set_option maxRecDepth 100000
set_option maxHeartbeats 4000000
/-- The nearest among the first nodes. -/
def bst (N : List (Int × Int)) (px py : Int) : Nat → Nat
  | 0 => 0
  | k + 1 => bif decide (sqI (nd N k).1 (nd N k).2 px py < sqI (nd N (bst N px py k)).1 (nd N (bst N px py k)).2 px py) then k else bst N px py k
theorem bst_le (N : List (Int × Int)) (px py : Int) : ∀ k, bst N px py k ≤ k - 1
  | 0 => Nat.le_refl 0
  | k + 1 => by
    have ih := bst_le N px py k
    unfold bst
    cases decide (sqI (nd N k).1 (nd N k).2 px py < sqI (nd N (bst N px py k)).1 (nd N (bst N px py k)).2 px py) <;> simp <;> omega
theorem nd_get {N : List (Int × Int)} {i : Nat} (h : i < N.length) : N[i]? = some (nd N i) := by
  rw [nd, List.getD_eq_getElem?_getD, List.getElem?_eq_getElem h]; rfl
theorem s32 (n : Nat) (H : Heap) (N : List (Int × Int)) (P : List Int) (W f1 f2 f3 ex no th) (px py : Int) (hN : N.length ≤ maxLen) (hP : P.length ≤ maxLen) (hW : W.length ≤ maxLen) :
    call1 T (n + 7) (.fn 32) [st N P W f1 f2 f3 ex no th, pt px py] H = some (.tup [.int .i64 (AtV (bst N px py N.length) (okI N P W ex no th) (pointI px py)), .int .i64 (AtE (okI N P W ex no th) (pointI px py) 2)], H) := by
  refine call_pure e32 (by rfl) ?_
  have h23 := fun H => s23 n H N P W f1 f2 f3 ex no th hN hP hW
  cases hok : okI N P W ex no th with
  | false => simp only [c32, heap0, go_sem, Nat.reduceAdd, Nat.reduceBEq, Nat.reduceLeDiff, Nat.reduceLT, Nat.reduceMul, Nat.reduceSub, Int.reduceEq, Int.reduceLT, Int.reduceLE, Int.reduceNeg, h23, hok, AtV, AtE]
  | true =>
    have hl := ok_len hok
    cases hp : pointI px py with
    | false => simp only [c32, heap0, go_sem, Nat.reduceAdd, Nat.reduceBEq, Nat.reduceLeDiff, Nat.reduceLT, Nat.reduceMul, Nat.reduceSub, Int.reduceEq, Int.reduceLT, Int.reduceLE, Int.reduceNeg, h23, hok, s44, hp, AtV, AtE]
    | true =>
      simp only [c32, heap0, go_sem, Nat.reduceAdd, Nat.reduceBEq, Nat.reduceLeDiff, Nat.reduceLT, Nat.reduceMul, Nat.reduceSub, Int.reduceEq, Int.reduceLT, Int.reduceLE, Int.reduceNeg, h23, hok, s44, hp, AtV, AtE]
      refine loop_rule (fun i => ([(2, .ptr 0 0 0 0), (3, .ptr 1 0 0 0), (6, .int .i64 (bst N px py i)), (18, .lst 2 (ptsS N) f1), (19, .int .i64 N.length), (20, .int .i64 i)], ⟨[.box [.lst 2 (ptsS N) f1, .lst 1 (intsS P) f2, .lst 5 (wlsS W) f3, .int .i64 ex, .int .i64 no, .int .i64 th], .box [.int .i64 px, .int .i64 py]], [], 0⟩)) (fun _ => True) N.length ?_ trivial ?_
      · simp only [go_sem, Nat.reduceAdd, Nat.reduceBEq, Nat.reduceLeDiff, Nat.reduceLT, Nat.reduceMul, Nat.reduceSub, Int.reduceEq, Int.reduceLT, Int.reduceLE, Int.reduceNeg]
        rfl
      · intro i hi _
        rcases Nat.lt_or_ge i N.length with hlt | hge
        · have hs := w64_succ hlt hN
          have hb : bst N px py i < N.length := by have := bst_le N px py i; omega
          simp only [go_sem, Nat.reduceAdd, Nat.reduceBEq, Nat.reduceLeDiff, Nat.reduceLT, Nat.reduceMul, Nat.reduceSub, Int.reduceEq, Int.reduceLT, Int.reduceLE, Int.reduceNeg, hlt, hb, nd_get hlt, nd_get hb, s13, sqI_eq]
          with_reducible refine post_fork (fun hc => ?_) (fun hc => ?_)
          · simp only [go_sem, Nat.reduceAdd, Nat.reduceBEq, Nat.reduceLeDiff, Nat.reduceLT, Nat.reduceMul, Nat.reduceSub, Int.reduceEq, Int.reduceLT, Int.reduceLE, Int.reduceNeg, hs, bst, hc]
            exact ⟨hlt, rfl, trivial⟩
          · simp only [go_sem, Nat.reduceAdd, Nat.reduceBEq, Nat.reduceLeDiff, Nat.reduceLT, Nat.reduceMul, Nat.reduceSub, Int.reduceEq, Int.reduceLT, Int.reduceLE, Int.reduceNeg, hs, bst, hc]
            exact ⟨hlt, rfl, trivial⟩
        · have hlt : ¬ i < N.length := by omega
          have hi' : i = N.length := by omega
          subst hi'
          simp only [go_sem, Nat.reduceAdd, Nat.reduceBEq, Nat.reduceLeDiff, Nat.reduceLT, Nat.reduceMul, Nat.reduceSub, Int.reduceEq, Int.reduceLT, Int.reduceLE, Int.reduceNeg, hlt]
end Go.Sh
namespace Go.Sh
set_option linter.unusedSectionVars false
set_option linter.unnecessarySimpa false
set_option linter.unusedVariables false
set_option linter.unusedSimpArgs false
set_option maxRecDepth 100000
set_option maxHeartbeats 4000000
theorem bst_one (N : List (Int × Int)) (px py : Int) : bst N px py 1 = 0 := by
  have := bst_le N px py 1
  omega
theorem s33 (n : Nat) (H : Heap) (N : List (Int × Int)) (P : List Int) (W f1 f2 f3 ex no th) (px py : Int) (hN : N.length ≤ maxLen) (hW : W.length ≤ maxLen) :
    call1 T (n + 7) (.fn 33) [st N P W f1 f2 f3 ex no th, pt px py] H = some (.tup [.int .i64 (AtV (bst N px py N.length) (okI N P W ex no th) (pointI px py)), .int .i64 (AtE (okI N P W ex no th) (pointI px py) 2)], H) := by
  refine call_pure e33 (by rfl) ?_
  have h29 := fun H => s29 n H N P W f1 f2 f3 ex no th hW hN
  cases hok : okI N P W ex no th with
  | false => simp only [c33, heap0, go_sem, Nat.reduceAdd, Nat.reduceBEq, Nat.reduceLeDiff, Nat.reduceLT, Nat.reduceMul, Nat.reduceSub, Int.reduceEq, Int.reduceLT, Int.reduceLE, Int.reduceNeg, h29, hok, AtV, AtE]
  | true =>
    have hl := ok_len hok
    cases hp : pointI px py with
    | false => simp only [c33, heap0, go_sem, Nat.reduceAdd, Nat.reduceBEq, Nat.reduceLeDiff, Nat.reduceLT, Nat.reduceMul, Nat.reduceSub, Int.reduceEq, Int.reduceLT, Int.reduceLE, Int.reduceNeg, h29, hok, s52, hp, AtV, AtE]
    | true =>
      simp only [c33, heap0, go_sem, Nat.reduceAdd, Nat.reduceBEq, Nat.reduceLeDiff, Nat.reduceLT, Nat.reduceMul, Nat.reduceSub, Int.reduceEq, Int.reduceLT, Int.reduceLE, Int.reduceNeg, h29, hok, s52, hp, AtV, AtE]
      refine loop_rule (fun i => ([(2, .ptr 0 0 0 0), (3, .ptr 1 0 0 0), (6, .int .i64 (bst N px py (i + 1))), (7, .int .i64 ((i + 1 : Nat) : Int))], ⟨[.box [.lst 2 (ptsS N) f1, .lst 1 (intsS P) f2, .lst 5 (wlsS W) f3, .int .i64 ex, .int .i64 no, .int .i64 th], .box [.int .i64 px, .int .i64 py]], [], 0⟩)) (fun _ => True) (N.length - 1) ?_ trivial ?_
      · simp only [go_sem, Nat.reduceAdd, Nat.reduceBEq, Nat.reduceLeDiff, Nat.reduceLT, Nat.reduceMul, Nat.reduceSub, Int.reduceEq, Int.reduceLT, Int.reduceLE, Int.reduceNeg, bst_one]
        rfl
      · intro i hi _
        rcases Nat.lt_or_ge (i + 1) N.length with hlt | hge
        · have hs := w64_succ hlt hN
          have hb : bst N px py (i + 1) < N.length := by have := bst_le N px py (i + 1); omega
          have hm : i < N.length - 1 := by omega
          simp only [go_sem, Nat.reduceAdd, Nat.reduceBEq, Nat.reduceLeDiff, Nat.reduceLT, Nat.reduceMul, Nat.reduceSub, Int.reduceEq, Int.reduceLT, Int.reduceLE, Int.reduceNeg, hlt, hb, nd_get hlt, nd_get hb, s14, sqI_eq]
          with_reducible refine post_fork (fun hc => ?_) (fun hc => ?_)
          · have hn : bst N px py (i + 1 + 1) = i + 1 := by rw [bst]; rw [hc]; rfl
            simp only [go_sem, Nat.reduceAdd, Nat.reduceBEq, Nat.reduceLeDiff, Nat.reduceLT, Nat.reduceMul, Nat.reduceSub, Int.reduceEq, Int.reduceLT, Int.reduceLE, Int.reduceNeg, hs, hn]
            exact ⟨hm, rfl, trivial⟩
          · have hn : bst N px py (i + 1 + 1) = bst N px py (i + 1) := by rw [bst]; rw [hc]; rfl
            simp only [go_sem, Nat.reduceAdd, Nat.reduceBEq, Nat.reduceLeDiff, Nat.reduceLT, Nat.reduceMul, Nat.reduceSub, Int.reduceEq, Int.reduceLT, Int.reduceLE, Int.reduceNeg, hs, hn]
            exact ⟨hm, rfl, trivial⟩
        · have hlt : ¬ i + 1 < N.length := by omega
          have hi' : i + 1 = N.length := by omega
          simp only [go_sem, Nat.reduceAdd, Nat.reduceBEq, Nat.reduceLeDiff, Nat.reduceLT, Nat.reduceMul, Nat.reduceSub, Int.reduceEq, Int.reduceLT, Int.reduceLE, Int.reduceNeg, hlt, hi', Nat.lt_irrefl]
end Go.Sh
namespace Go.Sh
set_option linter.unusedSectionVars false
set_option linter.unnecessarySimpa false
set_option linter.unusedVariables false
set_option linter.unusedSimpArgs false
set_option maxRecDepth 100000
set_option maxHeartbeats 4000000
def heardB (p th no : Int) : Bool := decide (w64 (th * w64 (no + 0)) ≤ w64 (1000 * p))
def hrL (at1 : Int → Int → Int → Int → Int → Int) (N : List (Int × Int)) (P : List Int) (th no y : Int) (k : Nat) : List Int := ((List.range k).filter fun (i : Nat) => heardB (btw at1 N P (i : Int) y) th no).map fun (i : Nat) => (i : Int)
theorem hrL_yes {at1 N P th no y} {k : Nat} (h : heardB (btw at1 N P (k : Int) y) th no = true) : hrL at1 N P th no y (k + 1) = hrL at1 N P th no y k ++ [(k : Int)] := by
  simp [hrL, List.range_succ, List.filter_append, h]
theorem hrL_no {at1 N P th no y} {k : Nat} (h : heardB (btw at1 N P (k : Int) y) th no = false) : hrL at1 N P th no y (k + 1) = hrL at1 N P th no y k := by
  simp [hrL, List.range_succ, List.filter_append, h]
theorem hrL_len {at1 N P th no y} (k : Nat) : (hrL at1 N P th no y k).length ≤ k := by
  simp only [hrL, List.length_map]
  exact Nat.le_trans (List.length_filter_le _ _) (by simp)
theorem intsS_snoc (L : List Int) (x : Int) : intsS L ++ [[.int .i64 x]] = intsS (L ++ [x]) := by simp [intsS]
theorem intsS_refs (L : List Int) : ∀ cs ∈ intsS L, ∀ c ∈ cs, c.refs = 0 := by
  intro cs hcs c hc
  simp only [intsS, List.mem_map] at hcs
  obtain ⟨b, _, rfl⟩ := hcs
  simp only [List.mem_singleton] at hc
  subst hc
  simp [SV.refs]
theorem intsS_frz (L : List Int) (M H d) : ∀ cs ∈ intsS L, ∀ c ∈ cs, frz M H (d + 1) c = some c := by
  intro cs hcs c hc
  simp only [intsS, List.mem_map] at hcs
  obtain ⟨b, _, rfl⟩ := hcs
  simp only [List.mem_singleton] at hc
  subst hc
  simp only [frz]
theorem s69 (n : Nat) (H : Heap) (t m : Int) : call1 T (n + 1) (.fn 69) [.int .i64 t, .int .i64 m] H = some (.bool (rightI t m), H) := by
  refine call_pure e69 (by rfl) ?_
  simp only [c69, heap0, go_sem, Int.cast_ofNat_Int, Nat.reduceAdd, Nat.reduceBEq, Nat.reduceLeDiff, Nat.reduceLT, Nat.reduceMul, Nat.reduceSub, Int.reduceEq, Int.reduceLT, Int.reduceLE, Int.reduceNeg]
  repeat' (with_reducible refine fork_split (fun _ => ?_) (fun _ => ?_) <;> simp only [*, go_sem, Int.cast_ofNat_Int, Nat.reduceAdd, Nat.reduceBEq, Nat.reduceLeDiff, Nat.reduceLT, Nat.reduceMul, Nat.reduceSub, Int.reduceEq, Int.reduceLT, Int.reduceLE, Int.reduceNeg])
  all_goals (simp only [rightI]; grind)
theorem s73 (n : Nat) (H : Heap) : call1 T (n + 1) (.fn 73) [.lst 0 [] true] H = some (.int .i64 0, H) := by
  refine call_pure e73 (by rfl) ?_
  simp only [c73, heap0, go_sem, Int.cast_ofNat_Int, Nat.reduceAdd, Nat.reduceBEq, Nat.reduceLeDiff, Nat.reduceLT, Nat.reduceMul, Nat.reduceSub, Int.reduceEq, Int.reduceLT, Int.reduceLE, Int.reduceNeg]
  refine loop_rule (fun i => ([(3, .int .i64 0), (6, .lst 0 [] true), (7, .int .i64 0), (8, .int .i64 0)], ⟨[], [], 0⟩)) (fun _ => True) 0 ?_ trivial ?_
  · simp only [go_sem, Int.cast_ofNat_Int, Nat.reduceAdd, Nat.reduceBEq, Nat.reduceLeDiff, Nat.reduceLT, Nat.reduceMul, Nat.reduceSub, Int.reduceEq, Int.reduceLT, Int.reduceLE, Int.reduceNeg]
  · intro i hi _
    simp only [go_sem, Int.cast_ofNat_Int, Nat.reduceAdd, Nat.reduceBEq, Nat.reduceLeDiff, Nat.reduceLT, Nat.reduceMul, Nat.reduceSub, Int.reduceEq, Int.reduceLT, Int.reduceLE, Int.reduceNeg]
theorem s70 (n : Nat) (H : Heap) : call1 T (n + 2) (.fn 70) [.lst 0 [] true] H = some (.tup [.int .i64 0, .int .i64 0], H) := by
  refine call_pure e70 (by rfl) ?_
  simp only [c70, heap0, go_sem, Int.cast_ofNat_Int, Nat.reduceAdd, Nat.reduceBEq, Nat.reduceLeDiff, Nat.reduceLT, Nat.reduceMul, Nat.reduceSub, Int.reduceEq, Int.reduceLT, Int.reduceLE, Int.reduceNeg]
  refine loop_rule (fun i => ([(0, .lst 0 [] true), (9, .lst 0 [] true), (10, .int .i64 0), (11, .int .i64 0)], ⟨[], [], 0⟩)) (fun _ => True) 0 ?_ trivial ?_
  · simp only [go_sem, Int.cast_ofNat_Int, Nat.reduceAdd, Nat.reduceBEq, Nat.reduceLeDiff, Nat.reduceLT, Nat.reduceMul, Nat.reduceSub, Int.reduceEq, Int.reduceLT, Int.reduceLE, Int.reduceNeg]
  · intro i hi _
    simp only [go_sem, Int.cast_ofNat_Int, Nat.reduceAdd, Nat.reduceBEq, Nat.reduceLeDiff, Nat.reduceLT, Nat.reduceMul, Nat.reduceSub, Int.reduceEq, Int.reduceLT, Int.reduceLE, Int.reduceNeg, s73]
theorem s57 (n : Nat) (H : Heap) (p t m : Int) (hp : powI p = true) (hr : rightI t m = true) : call1 T (n + 3) (.fn 57) [.int .i64 p, .int .i64 t, .int .i64 m, .lst 0 [] true] H = some (.tup [.bool (heardB p t m), .int .i64 0], H) := by
  refine call_pure e57 (by rfl) ?_
  simp only [c57, heap0, go_sem, Int.cast_ofNat_Int, Nat.reduceAdd, Nat.reduceBEq, Nat.reduceLeDiff, Nat.reduceLT, Nat.reduceMul, Nat.reduceSub, Int.reduceEq, Int.reduceLT, Int.reduceLE, Int.reduceNeg, s68, s69, hp, hr, s70, heardB]
theorem s58 (n : Nat) (H : Heap) (p t m : Int) : call1 T (n + 1) (.fn 58) [.int .i64 p, .int .i64 t, .int .i64 m, .int .i64 0] H = some (.bool (heardB p t m), H) := by
  refine call_pure e58 (by rfl) ?_
  simp only [c58, heap0, go_sem, Int.cast_ofNat_Int, Nat.reduceAdd, Nat.reduceBEq, Nat.reduceLeDiff, Nat.reduceLT, Nat.reduceMul, Nat.reduceSub, Int.reduceEq, Int.reduceLT, Int.reduceLE, Int.reduceNeg, heardB]
theorem ok_right {N : List (Int × Int)} {P : List Int} {W : List Wl} {ex no th : Int} (h : okI N P W ex no th = true) : rightI th no = true := by
  simp only [okI, okB, Bool.and_eq_true] at h
  exact h.2
def inN (N : List (Int × Int)) (y : Int) : Bool := decide (0 ≤ y) && decide (y < N.length)
theorem inN_iff {N : List (Int × Int)} {y : Int} : inN N y = true ↔ 0 ≤ y ∧ y < N.length := by simp only [inN, Bool.and_eq_true, decide_eq_true_eq]
theorem inN_no {N : List (Int × Int)} {y : Int} (h : inN N y = false) : decide (y < 0) = true ∨ (decide (y < 0) = false ∧ decide ((N.length : Int) ≤ y) = true) := by
  rw [Bool.eq_false_iff, ne_eq, inN_iff] at h
  simp only [decide_eq_true_eq, decide_eq_false_iff_not]
  omega
def HrV (ok arg : Bool) (L : List Int) : SV := bif ok then (bif arg then .tup [.lst 1 (intsS L) false, .int .i64 0] else .tup [.lst 0 [] true, .int .i64 7]) else .tup [.lst 0 [] true, .int .i64 1]
theorem room1 {n : Nat} (h : n ≤ 100) : decide ((n + 1) * 8 ≤ mostLen) = true := by
  simp only [decide_eq_true_eq]
  exact Nat.le_trans (show (n + 1) * 8 ≤ 1000 by omega) (by decide)
theorem s34 (n : Nat) (H : Heap) (N : List (Int × Int)) (P : List Int) (W f1 f2 f3 ex no th) (y : Int) (hN : N.length ≤ maxLen) (hP : P.length ≤ maxLen) (hW : W.length ≤ maxLen) :
    call1 T (n + 10) (.fn 34) [st N P W f1 f2 f3 ex no th, .int .i64 y] H = some (HrV (okI N P W ex no th) (inN N y) (hrL (atR W ex) N P th no y N.length), H) := by
  refine call_pure e34 (by rfl) ?_
  have h23 := fun H => s23 (n + 3) H N P W f1 f2 f3 ex no th hN hP hW
  cases hok : okI N P W ex no th with
  | false => simp only [c34, heap0, go_sem, Int.cast_ofNat_Int, Nat.reduceAdd, Nat.reduceBEq, Nat.reduceLeDiff, Nat.reduceLT, Nat.reduceMul, Nat.reduceSub, Int.reduceEq, Int.reduceLT, Int.reduceLE, Int.reduceNeg, h23, hok, chk_no hok, HrV]
  | true =>
    have hl := ok_len hok
    cases hin : inN N y with
    | false =>
      rcases inN_no hin with h | h
      · simp only [c34, heap0, go_sem, Int.cast_ofNat_Int, Nat.reduceAdd, Nat.reduceBEq, Nat.reduceLeDiff, Nat.reduceLT, Nat.reduceMul, Nat.reduceSub, Int.reduceEq, Int.reduceLT, Int.reduceLE, Int.reduceNeg, h23, hok, chk_yes hok, h, HrV]
      · simp only [c34, heap0, go_sem, Int.cast_ofNat_Int, Nat.reduceAdd, Nat.reduceBEq, Nat.reduceLeDiff, Nat.reduceLT, Nat.reduceMul, Nat.reduceSub, Int.reduceEq, Int.reduceLT, Int.reduceLE, Int.reduceNeg, h23, hok, chk_yes hok, h.1, h.2, HrV]
    | true =>
      rw [inN_iff] at hin
      obtain ⟨h1, h2⟩ := hin
      obtain ⟨y', rfl⟩ := Int.eq_ofNat_of_zero_le h1
      have m1 : decide ((y' : Int) < 0) = false := by rw [decide_eq_false_iff_not]; omega
      have m2 : decide ((N.length : Int) ≤ y') = false := by rw [decide_eq_false_iff_not]; omega
      simp only [c34, heap0, go_sem, Int.cast_ofNat_Int, Nat.reduceAdd, Nat.reduceBEq, Nat.reduceLeDiff, Nat.reduceLT, Nat.reduceMul, Nat.reduceSub, Int.reduceEq, Int.reduceLT, Int.reduceLE, Int.reduceNeg, h23, hok, chk_yes hok, m1, m2, HrV]
      refine loop_rule (fun i => ([(1, .int .i64 y'), (2, .ptr 0 0 0 0), (6, .slc 1 (hrL (atR W ex) N P th no y' i).length 0 (hrL (atR W ex) N P th no y' i).length), (26, .int .i64 N.length), (27, .int .i64 i)], ⟨[.box [.lst 2 (ptsS N) f1, .lst 1 (intsS P) f2, .lst 5 (wlsS W) f3, .int .i64 ex, .int .i64 no, .int .i64 th], .arr (hrL (atR W ex) N P th no y' i).length 1 (intsS (hrL (atR W ex) N P th no y' i)) false], [], 0⟩)) (fun _ => True) N.length ?_ trivial ?_
      · simp only [go_sem, Int.cast_ofNat_Int, Nat.reduceAdd, Nat.reduceBEq, Nat.reduceLeDiff, Nat.reduceLT, Nat.reduceMul, Nat.reduceSub, Int.reduceEq, Int.reduceLT, Int.reduceLE, Int.reduceNeg]
        rfl
      · intro i hi _
        rcases Nat.lt_or_ge i N.length with hlt | hge
        · have hs := w64_succ hlt hN
          have hb := btw_eq (x := i) (y := y') hok (by rw [inI_iff]; omega)
          have h55 := fun H => s55 n H N P W f1 f2 f3 ex no th i y' hlt (by omega) hl.1 hW
          have h57 := fun H => s57 (n + 6) H _ _ _ hb.2 (ok_right hok)
          rw [hb.1] at h55
          simp only [go_sem, Int.cast_ofNat_Int, Nat.reduceAdd, Nat.reduceBEq, Nat.reduceLeDiff, Nat.reduceLT, Nat.reduceMul, Nat.reduceSub, Int.reduceEq, Int.reduceLT, Int.reduceLE, Int.reduceNeg, hlt, h55, h57]
          cases hc : heardB (btw (atR W ex) N P (i : Int) (y' : Int)) th no with
          | true =>
            have hg := apB_grow 1
            have hlen := Nat.le_trans (hrL_len (at1 := atR W ex) (N := N) (P := P) (th := th) (no := no) (y := y') i) hi
            simp only [go_sem, Int.cast_ofNat_Int, Nat.reduceAdd, Nat.reduceBEq, Nat.reduceLeDiff, Nat.reduceLT, Nat.reduceMul, Nat.reduceSub, Int.reduceEq, Int.reduceLT, Int.reduceLE, Int.reduceNeg, apB_grow _ _ _ _ _ _ _ intsS_len, room1 (Nat.le_trans hlen (by omega : N.length ≤ 100)), hs, intsS_snoc, hrL_yes hc, List.length_append]
            exact ⟨hlt, rfl, trivial⟩
          | false =>
            simp only [go_sem, Int.cast_ofNat_Int, Nat.reduceAdd, Nat.reduceBEq, Nat.reduceLeDiff, Nat.reduceLT, Nat.reduceMul, Nat.reduceSub, Int.reduceEq, Int.reduceLT, Int.reduceLE, Int.reduceNeg, hs, hrL_no hc]
            exact ⟨hlt, rfl, trivial⟩
        · have hlt : ¬ i < N.length := by omega
          have hi' : i = N.length := by omega
          subst hi'
          have hfz := fun H v => fzB_whole 0 H 6 v (hrL (atR W ex) N P th no y' N.length).length 1 (intsS (hrL (atR W ex) N P th no y' N.length)) false intsS_len (intsS_frz _ _ _ _) (intsS_refs _)
          simp only [go_sem, Int.cast_ofNat_Int, Nat.reduceAdd, Nat.reduceBEq, Nat.reduceLeDiff, Nat.reduceLT, Nat.reduceMul, Nat.reduceSub, Int.reduceEq, Int.reduceLT, Int.reduceLE, Int.reduceNeg, hlt, hfz]
theorem s35 (n : Nat) (H : Heap) (N : List (Int × Int)) (P : List Int) (W f1 f2 f3 ex no th) (y : Int) (hN : N.length ≤ maxLen) (hW : W.length ≤ maxLen) :
    call1 T (n + 8) (.fn 35) [st N P W f1 f2 f3 ex no th, .int .i64 y] H = some (HrV (okI N P W ex no th) (inN N y) (hrL (atR W ex) N P th no y N.length), H) := by
  refine call_pure e35 (by rfl) ?_
  have h29 := fun H => s29 (n + 1) H N P W f1 f2 f3 ex no th hW hN
  cases hok : okI N P W ex no th with
  | false => simp only [c35, heap0, go_sem, Int.cast_ofNat_Int, Nat.reduceAdd, Nat.reduceBEq, Nat.reduceLeDiff, Nat.reduceLT, Nat.reduceMul, Nat.reduceSub, Int.reduceEq, Int.reduceLT, Int.reduceLE, Int.reduceNeg, h29, hok, chk_no hok, HrV]
  | true =>
    have hl := ok_len hok
    cases hin : inN N y with
    | false =>
      rcases inN_no hin with h | h
      · simp only [c35, heap0, go_sem, Int.cast_ofNat_Int, Nat.reduceAdd, Nat.reduceBEq, Nat.reduceLeDiff, Nat.reduceLT, Nat.reduceMul, Nat.reduceSub, Int.reduceEq, Int.reduceLT, Int.reduceLE, Int.reduceNeg, h29, hok, chk_yes hok, h, HrV]
      · simp only [c35, heap0, go_sem, Int.cast_ofNat_Int, Nat.reduceAdd, Nat.reduceBEq, Nat.reduceLeDiff, Nat.reduceLT, Nat.reduceMul, Nat.reduceSub, Int.reduceEq, Int.reduceLT, Int.reduceLE, Int.reduceNeg, h29, hok, chk_yes hok, h.1, h.2, HrV]
    | true =>
      rw [inN_iff] at hin
      obtain ⟨h1, h2⟩ := hin
      obtain ⟨y', rfl⟩ := Int.eq_ofNat_of_zero_le h1
      have m1 : decide ((y' : Int) < 0) = false := by rw [decide_eq_false_iff_not]; omega
      have m2 : decide ((N.length : Int) ≤ y') = false := by rw [decide_eq_false_iff_not]; omega
      simp only [c35, heap0, go_sem, Int.cast_ofNat_Int, Nat.reduceAdd, Nat.reduceBEq, Nat.reduceLeDiff, Nat.reduceLT, Nat.reduceMul, Nat.reduceSub, Int.reduceEq, Int.reduceLT, Int.reduceLE, Int.reduceNeg, h29, hok, chk_yes hok, m1, m2, HrV]
      refine loop_rule (fun i => ([(1, .int .i64 y'), (2, .ptr 0 0 0 0), (6, .slc 1 (hrL (atR W ex) N P th no y' i).length 0 (hrL (atR W ex) N P th no y' i).length), (7, .int .i64 i)], ⟨[.box [.lst 2 (ptsS N) f1, .lst 1 (intsS P) f2, .lst 5 (wlsS W) f3, .int .i64 ex, .int .i64 no, .int .i64 th], .arr (hrL (atR W ex) N P th no y' i).length 1 (intsS (hrL (atR W ex) N P th no y' i)) false], [], 0⟩)) (fun _ => True) N.length ?_ trivial ?_
      · simp only [go_sem, Int.cast_ofNat_Int, Nat.reduceAdd, Nat.reduceBEq, Nat.reduceLeDiff, Nat.reduceLT, Nat.reduceMul, Nat.reduceSub, Int.reduceEq, Int.reduceLT, Int.reduceLE, Int.reduceNeg]
        rfl
      · intro i hi _
        rcases Nat.lt_or_ge i N.length with hlt | hge
        · have hs := w64_succ hlt hN
          have hinI : inI N i y' = true := by rw [inI_iff]; omega
          have h26 := fun H => s26 n H N P W f1 f2 f3 ex no th i y' hN hW
          simp only [hok, hinI, AtV, AtE, Bool.and_self, cond_true] at h26
          simp only [go_sem, Int.cast_ofNat_Int, Nat.reduceAdd, Nat.reduceBEq, Nat.reduceLeDiff, Nat.reduceLT, Nat.reduceMul, Nat.reduceSub, Int.reduceEq, Int.reduceLT, Int.reduceLE, Int.reduceNeg, hlt, h26, s58]
          cases hc : heardB (btw (atR W ex) N P (i : Int) (y' : Int)) th no with
          | true =>
            have hlen := Nat.le_trans (hrL_len (at1 := atR W ex) (N := N) (P := P) (th := th) (no := no) (y := y') i) hi
            simp only [go_sem, Int.cast_ofNat_Int, Nat.reduceAdd, Nat.reduceBEq, Nat.reduceLeDiff, Nat.reduceLT, Nat.reduceMul, Nat.reduceSub, Int.reduceEq, Int.reduceLT, Int.reduceLE, Int.reduceNeg, apB_grow _ _ _ _ _ _ _ intsS_len, room1 (Nat.le_trans hlen (by omega : N.length ≤ 100)), hs, intsS_snoc, hrL_yes hc, List.length_append]
            exact ⟨hlt, rfl, trivial⟩
          | false =>
            simp only [go_sem, Int.cast_ofNat_Int, Nat.reduceAdd, Nat.reduceBEq, Nat.reduceLeDiff, Nat.reduceLT, Nat.reduceMul, Nat.reduceSub, Int.reduceEq, Int.reduceLT, Int.reduceLE, Int.reduceNeg, hs, hrL_no hc]
            exact ⟨hlt, rfl, trivial⟩
        · have hlt : ¬ i < N.length := by omega
          have hi' : i = N.length := by omega
          subst hi'
          have hfz := fun H v => fzB_whole 0 H 6 v (hrL (atR W ex) N P th no y' N.length).length 1 (intsS (hrL (atR W ex) N P th no y' N.length)) false intsS_len (intsS_frz _ _ _ _) (intsS_refs _)
          simp only [go_sem, Int.cast_ofNat_Int, Nat.reduceAdd, Nat.reduceBEq, Nat.reduceLeDiff, Nat.reduceLT, Nat.reduceMul, Nat.reduceSub, Int.reduceEq, Int.reduceLT, Int.reduceLE, Int.reduceNeg, hlt, hfz]
end Go.Sh
namespace Go.Sh
set_option linter.unusedSectionVars false
set_option linter.unnecessarySimpa false
set_option linter.unusedVariables false
set_option linter.unusedSimpArgs false
set_option maxRecDepth 100000
set_option maxHeartbeats 4000000
theorem s31n (n : Nat) (H : Heap) : call1 T (n + 1) (.fn 31) [.lst 0 [] true, .lst 0 [] true] H = some (.bool true, H) := by
  refine call_pure e31 (by rfl) ?_
  simp only [c31, heap0, go_sem, Int.cast_ofNat_Int, Nat.reduceAdd, Nat.reduceBEq, Nat.reduceLeDiff, Nat.reduceLT, Nat.reduceMul, Nat.reduceSub, Int.reduceEq, Int.reduceLT, Int.reduceLE, Int.reduceNeg]
  refine loop_rule (fun i => ([(0, .lst 0 [] true), (1, .lst 0 [] true), (12, .int .i64 0), (13, .int .i64 0)], ⟨[], [], 0⟩)) (fun _ => True) 0 ?_ trivial ?_
  · simp only [go_sem, Int.cast_ofNat_Int, Nat.reduceAdd, Nat.reduceBEq, Nat.reduceLeDiff, Nat.reduceLT, Nat.reduceMul, Nat.reduceSub, Int.reduceEq, Int.reduceLT, Int.reduceLE, Int.reduceNeg]
  · intro i hi _
    simp only [go_sem, Int.cast_ofNat_Int, Nat.reduceAdd, Nat.reduceBEq, Nat.reduceLeDiff, Nat.reduceLT, Nat.reduceMul, Nat.reduceSub, Int.reduceEq, Int.reduceLT, Int.reduceLE, Int.reduceNeg]
theorem s9 (N : List (Int × Int)) (P : List Int) (W : List Wl) (f1 f2 f3 : Bool) (ex no th px py y : Int) (hN : N.length ≤ maxLen) (hP : P.length ≤ maxLen) (hW : W.length ≤ maxLen) :
    call1 T 41 (.fn 9) [st N P W f1 f2 f3 ex no th, pt px py, .int .i64 y] heap0 = some (.bool true, heap0) := by
  refine call_pure e9 (by rfl) ?_
  have h11 := s11
  have h20 := fun H => s20 39 H N P W f1 f2 f3 ex no th
  have h32 := fun H => s32 33 H N P W f1 f2 f3 ex no th px py hN hP hW
  have h33 := fun H => s33 33 H N P W f1 f2 f3 ex no th px py hN hW
  have h34 := fun H => s34 30 H N P W f1 f2 f3 ex no th y hN hP hW
  have h35 := fun H => s35 32 H N P W f1 f2 f3 ex no th y hN hW
  have h31 := fun H => s31 39 H (hrL (atR W ex) N P th no y N.length) (hrL (atR W ex) N P th no y N.length) false false (Nat.le_trans (hrL_len _) hN)
  have h31' := fun H => s31n 39 H
  cases hok : okI N P W ex no th with
  | false =>
    simp only [hok, HrV, cond_false] at h32 h33 h34 h35
    simp only [c9, heap0, go_sem, Int.cast_ofNat_Int, Nat.reduceAdd, Nat.reduceBEq, Nat.reduceLeDiff, Nat.reduceLT, Nat.reduceMul, Nat.reduceSub, Int.reduceEq, Int.reduceLT, Int.reduceLE, Int.reduceNeg, h11, h20]
    repeat' (with_reducible refine fork_split (fun _ => ?_) (fun _ => ?_) <;> simp only [*, go_sem, Int.cast_ofNat_Int, Nat.reduceAdd, Nat.reduceBEq, Nat.reduceLeDiff, Nat.reduceLT, Nat.reduceMul, Nat.reduceSub, Int.reduceEq, Int.reduceLT, Int.reduceLE, Int.reduceNeg, h32, h33, h34, h35, h31'])
  | true =>
    cases hin : inN N y with
    | false =>
      simp only [hok, hin, HrV, cond_false, cond_true] at h32 h33 h34 h35
      simp only [c9, heap0, go_sem, Int.cast_ofNat_Int, Nat.reduceAdd, Nat.reduceBEq, Nat.reduceLeDiff, Nat.reduceLT, Nat.reduceMul, Nat.reduceSub, Int.reduceEq, Int.reduceLT, Int.reduceLE, Int.reduceNeg, h11, h20]
      repeat' (with_reducible refine fork_split (fun _ => ?_) (fun _ => ?_) <;> simp only [*, go_sem, Int.cast_ofNat_Int, Nat.reduceAdd, Nat.reduceBEq, Nat.reduceLeDiff, Nat.reduceLT, Nat.reduceMul, Nat.reduceSub, Int.reduceEq, Int.reduceLT, Int.reduceLE, Int.reduceNeg, h32, h33, h34, h35, h31'])
    | true =>
      simp only [hok, hin, HrV, cond_true] at h32 h33 h34 h35
      simp only [c9, heap0, go_sem, Int.cast_ofNat_Int, Nat.reduceAdd, Nat.reduceBEq, Nat.reduceLeDiff, Nat.reduceLT, Nat.reduceMul, Nat.reduceSub, Int.reduceEq, Int.reduceLT, Int.reduceLE, Int.reduceNeg, h11, h20]
      repeat' (with_reducible refine fork_split (fun _ => ?_) (fun _ => ?_) <;> simp only [*, go_sem, Int.cast_ofNat_Int, Nat.reduceAdd, Nat.reduceBEq, Nat.reduceLeDiff, Nat.reduceLT, Nat.reduceMul, Nat.reduceSub, Int.reduceEq, Int.reduceLT, Int.reduceLE, Int.reduceNeg, h32, h33, h34, h35, h31])
theorem law9 (xs : List SV) (h : FitsAll [siteD, (true, [.int .i64, .int .i64]), (false, [.int .i64])] xs) : ∃ m, call1 T m (.fn 9) xs heap0 = some (.bool true, heap0) := by
  obtain ⟨x1, r1, rfl, h1, h⟩ := fitsAll_cons h
  obtain ⟨x2, r2, rfl, h2, h⟩ := fitsAll_cons h
  obtain ⟨x3, r3, rfl, h3, h⟩ := fitsAll_cons h
  cases fitsAll_nil h
  obtain ⟨N, P, W, f1, f2, f3, ex, no, th, rfl, hN, hP, hW⟩ := site_of h1
  obtain ⟨cs, rfl, k⟩ := fitsA_agg h2
  obtain ⟨a, _, rfl, _, k⟩ := fitsL_i k
  obtain ⟨b, _, rfl, _, k⟩ := fitsL_i k
  cases fitsL_nil' k
  obtain ⟨y, rfl, _⟩ := fits_int (fitsA_one h3)
  exact ⟨41, s9 N P W f1 f2 f3 ex no th a b y hN hP hW⟩
end Go.Sh
