

import Derived.Test.YteohbocjhfcbdaaC1
namespace Go.Sh
set_option linter.unusedSectionVars false
set_option linter.unnecessarySimpa false
set_option linter.unusedVariables false
set_option linter.unusedSimpArgs false
set_option maxRecDepth 100000
set_option maxHeartbeats 4000000
theorem any_at {A : Type} {q : A → Bool} {l : List A} {i : Nat} {a : A} (h : l[i]? = some a) (hp : q a = true) : l.any q = true := List.any_eq_true.2 ⟨a, List.mem_of_getElem? h, hp⟩
theorem any_no {A : Type} {q : A → Bool} {l : List A} (h : ∀ (i : Nat) a, l[i]? = some a → q a = false) : l.any q = false := by
  rw [List.any_eq_false]
  intro a ha
  obtain ⟨i, hi⟩ := List.mem_iff_getElem?.1 ha
  rw [h i a hi]; simp
theorem get_some {A : Type} {l : List A} {i : Nat} (h : i < l.length) : ∃ a, l[i]? = some a := ⟨l[i], List.getElem?_eq_getElem h⟩
theorem chk_no {N : List (Int × Int)} {P : List Int} {W : List Wl} {ex no th : Int} (h : okI N P W ex no th = false) : chkI N P W ex no th = 1 := by simp only [chkI, h, cond_false]
theorem chk_yes {N : List (Int × Int)} {P : List Int} {W : List Wl} {ex no th : Int} (h : okI N P W ex no th = true) : chkI N P W ex no th = 0 := by simp only [chkI, h, cond_true]
theorem ok_badN {N : List (Int × Int)} {P : List Int} {W : List Wl} {ex no th : Int} {i : Nat} {p : Int × Int} (h : N[i]? = some p) (hp : pointI p.1 p.2 = false) : okI N P W ex no th = false := by
  have : (N.any fun p => !pointI p.1 p.2) = true := any_at h (by simp [hp])
  simp only [okI, this, okB, Bool.not_true, Bool.and_false, Bool.false_and]
theorem ok_badP {N : List (Int × Int)} {P : List Int} {W : List Wl} {ex no th : Int} {i : Nat} {p : Int} (h : P[i]? = some p) (hp : powI p = false) : okI N P W ex no th = false := by
  have : (P.any fun p => !powI p) = true := any_at h (by simp [hp])
  simp only [okI, this, okB, Bool.not_true, Bool.and_false, Bool.false_and]
theorem ok_badW {N : List (Int × Int)} {P : List Int} {W : List Wl} {ex no th : Int} {i : Nat} {p : Wl} (h : W[i]? = some p) (hp : badW p = true) : okI N P W ex no th = false := by
  have : W.any badW = true := any_at h hp
  simp only [okI, this, okB, Bool.not_true, Bool.and_false, Bool.false_and]
theorem s29 (n : Nat) (H : Heap) (N P W f1 f2 f3 ex no th) (hW : W.length ≤ maxLen) (hN : N.length ≤ maxLen) : call1 T (n + 6) (.fn 29) [st N P W f1 f2 f3 ex no th] H = some (.int .i64 (chkI N P W ex no th), H) := by
  refine call_pure e29 (by rfl) ?_
  simp only [c29, heap0, go_sem, Int.cast_ofNat_Int, Int.reduceToNat, Bool.true_xor, Bool.false_xor, Bool.xor_true, Bool.xor_false, Nat.reduceAdd, Nat.reduceBEq, Nat.reduceLeDiff, Nat.reduceLT, Nat.reduceMul, Nat.reduceSub, Int.reduceEq, Int.reduceLT, Int.reduceLE, Int.reduceNeg, s56]
  repeat' (with_reducible refine fork_split (fun _ => ?_) (fun _ => ?_) <;> simp only [*, go_sem, Int.cast_ofNat_Int, Int.reduceToNat, Bool.true_xor, Bool.false_xor, Bool.xor_true, Bool.xor_false, Nat.reduceAdd, Nat.reduceBEq, Nat.reduceLeDiff, Nat.reduceLT, Nat.reduceMul, Nat.reduceSub, Int.reduceEq, Int.reduceLT, Int.reduceLE, Int.reduceNeg, s56])
  all_goals try (
    with_reducible refine congrArg some (congrArg (SV.int .i64) ?_)
    simp only [chkI, okI]
    generalize (N.any fun p => !pointI p.fst p.snd) = A at *
    generalize (P.any fun p => !powI p) = B at *
    generalize W.any badW = C at *
    generalize N.length = ln at *
    generalize P.length = lp at *
    generalize W.length = lw at *
    generalize hq : okB ln lp lw A B C ex no th = q
    simp only [okB, rightI] at *
    cases q <;> simp only [cond_true, cond_false] <;> grind)
  all_goals
    refine loop_rule (fun i => ([(1, .ptr 0 0 0 0), (3, .int .i64 N.length), (4, .int .i64 i)], ⟨[.box [.lst 2 (ptsS N) f1, .lst 1 (intsS P) f2, .lst 5 (wlsS W) f3, .int .i64 ex, .int .i64 no, .int .i64 th]], [], 0⟩))
      (fun i => ∀ (j : Nat), j < i → (∀ p, N[j]? = some p → pointI p.1 p.2 = true) ∧ (∀ p, P[j]? = some p → powI p = true)) N.length ?_ (fun j h => by omega) ?_
    · simp only [go_sem, Int.cast_ofNat_Int, Int.reduceToNat, Bool.true_xor, Bool.false_xor, Bool.xor_true, Bool.xor_false, Nat.reduceAdd, Nat.reduceBEq, Nat.reduceLeDiff, Nat.reduceLT, Nat.reduceMul, Nat.reduceSub, Int.reduceEq, Int.reduceLT, Int.reduceLE, Int.reduceNeg]
      rfl
    · intro i hi hI
      have hlen : P.length = N.length := by simp_all; omega
      rcases Nat.lt_or_ge i N.length with hlt | hge
      · obtain ⟨p, hp⟩ := get_some hlt
        obtain ⟨q, hq⟩ := get_some (l := P) (i := i) (by omega)
        have hlt2 : i < P.length := by omega
        have hs := w64_succ hlt hN
        cases h1 : pointI p.1 p.2 with
        | false => simp only [go_sem, Int.cast_ofNat_Int, Int.reduceToNat, Bool.true_xor, Bool.false_xor, Bool.xor_true, Bool.xor_false, Nat.reduceAdd, Nat.reduceBEq, Nat.reduceLeDiff, Nat.reduceLT, Nat.reduceMul, Nat.reduceSub, Int.reduceEq, Int.reduceLT, Int.reduceLE, Int.reduceNeg, hlt, hp, s52, h1, chk_no (ok_badN hp h1)]
        | true =>
          cases h2 : powI q with
          | false => simp only [go_sem, Int.cast_ofNat_Int, Int.reduceToNat, Bool.true_xor, Bool.false_xor, Bool.xor_true, Bool.xor_false, Nat.reduceAdd, Nat.reduceBEq, Nat.reduceLeDiff, Nat.reduceLT, Nat.reduceMul, Nat.reduceSub, Int.reduceEq, Int.reduceLT, Int.reduceLE, Int.reduceNeg, hlt, hlt2, hp, hq, s52, s53, h1, h2, chk_no (ok_badP hq h2)]
          | true =>
            simp only [go_sem, Int.cast_ofNat_Int, Int.reduceToNat, Bool.true_xor, Bool.false_xor, Bool.xor_true, Bool.xor_false, Nat.reduceAdd, Nat.reduceBEq, Nat.reduceLeDiff, Nat.reduceLT, Nat.reduceMul, Nat.reduceSub, Int.reduceEq, Int.reduceLT, Int.reduceLE, Int.reduceNeg, hlt, hlt2, hp, hq, s52, s53, h1, h2, hs]
            refine ⟨trivial, rfl, fun j hj => ?_⟩
            rcases Nat.lt_or_ge j i with h3 | h3
            · exact hI j h3
            · have : j = i := by omega
              subst this
              exact ⟨fun p' hp' => by rw [hp] at hp'; cases hp'; exact h1, fun p' hp' => by rw [hq] at hp'; cases hp'; exact h2⟩
      · have hlt : ¬ i < N.length := by omega
        simp only [go_sem, Int.cast_ofNat_Int, Int.reduceToNat, Bool.true_xor, Bool.false_xor, Bool.xor_true, Bool.xor_false, Nat.reduceAdd, Nat.reduceBEq, Nat.reduceLeDiff, Nat.reduceLT, Nat.reduceMul, Nat.reduceSub, Int.reduceEq, Int.reduceLT, Int.reduceLE, Int.reduceNeg, hlt]
        refine loop_rule (fun i => ([(1, .ptr 0 0 0 0), (5, .int .i64 i)], ⟨[.box [.lst 2 (ptsS N) f1, .lst 1 (intsS P) f2, .lst 5 (wlsS W) f3, .int .i64 ex, .int .i64 no, .int .i64 th]], [], 0⟩))
          (fun i => ∀ (j : Nat), j < i → (∀ p, W[j]? = some p → badW p = false)) W.length ?_ (fun j h => by omega) ?_
        · simp only [go_sem, Int.cast_ofNat_Int, Int.reduceToNat, Bool.true_xor, Bool.false_xor, Bool.xor_true, Bool.xor_false, Nat.reduceAdd, Nat.reduceBEq, Nat.reduceLeDiff, Nat.reduceLT, Nat.reduceMul, Nat.reduceSub, Int.reduceEq, Int.reduceLT, Int.reduceLE, Int.reduceNeg]
          rfl
        · intro k hk hK
          rcases Nat.lt_or_ge k W.length with hlt3 | hge3
          · obtain ⟨w, hw⟩ := get_some hlt3
            have hs := w64_succ hlt3 hW
            cases h1 : badW w with
            | true =>
              have hb := h1
              simp only [badW] at hb
              have hch := chk_no (N := N) (P := P) (ex := ex) (no := no) (th := th) (ok_badW hw h1)
              simp only [go_sem, Int.cast_ofNat_Int, Int.reduceToNat, Bool.true_xor, Bool.false_xor, Bool.xor_true, Bool.xor_false, Nat.reduceAdd, Nat.reduceBEq, Nat.reduceLeDiff, Nat.reduceLT, Nat.reduceMul, Nat.reduceSub, Int.reduceEq, Int.reduceLT, Int.reduceLE, Int.reduceNeg, hlt3, hw, s52, hch]
              repeat' (with_reducible refine post_fork (fun _ => ?_) (fun _ => ?_) <;> simp only [*, go_sem, Int.cast_ofNat_Int, Int.reduceToNat, Bool.true_xor, Bool.false_xor, Bool.xor_true, Bool.xor_false, Nat.reduceAdd, Nat.reduceBEq, Nat.reduceLeDiff, Nat.reduceLT, Nat.reduceMul, Nat.reduceSub, Int.reduceEq, Int.reduceLT, Int.reduceLE, Int.reduceNeg, s52])
              all_goals (exfalso; simp_all)
            | false =>
              have hb := h1
              simp only [badW, Bool.or_eq_false_iff] at hb
              obtain ⟨⟨⟨b1, b2⟩, b3⟩, b4⟩ := hb
              simp only [go_sem, Int.cast_ofNat_Int, Int.reduceToNat, Bool.true_xor, Bool.false_xor, Bool.xor_true, Bool.xor_false, Nat.reduceAdd, Nat.reduceBEq, Nat.reduceLeDiff, Nat.reduceLT, Nat.reduceMul, Nat.reduceSub, Int.reduceEq, Int.reduceLT, Int.reduceLE, Int.reduceNeg, hlt3, hw, s52, b1, b2, b3, b4, hs]
              refine ⟨trivial, rfl, fun j hj => ?_⟩
              rcases Nat.lt_or_ge j k with h3 | h3
              · exact hK j h3
              · have : j = k := by omega
                subst this
                exact fun p' hp' => by rw [hw] at hp'; cases hp'; exact h1
          · have hlt3 : ¬ k < W.length := by omega
            have hA : (N.any fun p => !pointI p.1 p.2) = false := any_no (fun j p hj => by
              have := (hI j (by have := (List.getElem?_eq_some_iff.1 hj).1; omega)).1 p hj
              simp [this])
            have hB : (P.any fun p => !powI p) = false := any_no (fun j p hj => by
              have := (hI j (by have := (List.getElem?_eq_some_iff.1 hj).1; omega)).2 p hj
              simp [this])
            have hC : W.any badW = false := any_no (fun j p hj => hK j (by have := (List.getElem?_eq_some_iff.1 hj).1; omega) p hj)
            have hok : okI N P W ex no th = true := by
              simp only [okI, hA, hB, hC, okB, rightI] at *
              simp_all
              omega
            simp only [go_sem, Int.cast_ofNat_Int, Int.reduceToNat, Bool.true_xor, Bool.false_xor, Bool.xor_true, Bool.xor_false, Nat.reduceAdd, Nat.reduceBEq, Nat.reduceLeDiff, Nat.reduceLT, Nat.reduceMul, Nat.reduceSub, Int.reduceEq, Int.reduceLT, Int.reduceLE, Int.reduceNeg, hlt3, chk_yes hok]
end Go.Sh
namespace Go.Sh
set_option linter.unusedSectionVars false
set_option linter.unnecessarySimpa false
set_option linter.unusedVariables false
set_option linter.unusedSimpArgs false
set_option maxRecDepth 100000
set_option maxHeartbeats 4000000
@[go_sem] theorem chk0 (N P W ex no th) : decide (chkI N P W ex no th = 0) = okI N P W ex no th := by
  unfold chkI; cases okI N P W ex no th <;> rfl
def argI (a b p c d : Int) : Bool := pointI a b && pointI c d && powI p
def AtV (v : Int) (ok arg : Bool) : Int := bif ok && arg then v else 0
def AtE (ok arg : Bool) (e : Int) : Int := bif ok then (bif arg then 0 else e) else 1
theorem s21 (n : Nat) (H : Heap) (N P W f1 f2 f3 ex no th a b p c d) (hN : N.length ≤ maxLen) (hP : P.length ≤ maxLen) (hW : W.length ≤ maxLen) :
    call1 T (n + 9) (.fn 21) [st N P W f1 f2 f3 ex no th, pt a b, .int .i64 p, pt c d] H = some (.tup [.int .i64 (AtV (atI W ex a b p c d) (okI N P W ex no th) (argI a b p c d)), .int .i64 (AtE (okI N P W ex no th) (argI a b p c d) 2)], H) := by
  refine call_pure e21 (by rfl) ?_
  have h23 := fun H => s23 (n + 2) H N P W f1 f2 f3 ex no th hN hP hW
  have h46 := fun H => s46 n H N P W f1 f2 f3 ex no th a b p c d hW
  simp only [c21, heap0, go_sem, Int.cast_ofNat_Int, Int.reduceToNat, Bool.true_xor, Bool.false_xor, Bool.xor_true, Bool.xor_false, Nat.reduceAdd, Nat.reduceBEq, Nat.reduceLeDiff, Nat.reduceLT, Nat.reduceMul, Nat.reduceSub, Int.reduceEq, Int.reduceLT, Int.reduceLE, Int.reduceNeg, h23, s44, s45, h46]
  repeat' (with_reducible refine fork_split (fun _ => ?_) (fun _ => ?_) <;> simp only [*, go_sem, Int.cast_ofNat_Int, Int.reduceToNat, Bool.true_xor, Bool.false_xor, Bool.xor_true, Bool.xor_false, Nat.reduceAdd, Nat.reduceBEq, Nat.reduceLeDiff, Nat.reduceLT, Nat.reduceMul, Nat.reduceSub, Int.reduceEq, Int.reduceLT, Int.reduceLE, Int.reduceNeg, h23, s44, s45, h46])
  all_goals (clear h23 h46; simp_all [AtV, AtE, argI])
theorem s24 (n : Nat) (H : Heap) (N P W f1 f2 f3 ex no th a b p c d) (hN : N.length ≤ maxLen) (hW : W.length ≤ maxLen) :
    call1 T (n + 7) (.fn 24) [st N P W f1 f2 f3 ex no th, pt a b, .int .i64 p, pt c d] H = some (.tup [.int .i64 (AtV (atR W ex a b p c d) (okI N P W ex no th) (argI a b p c d)), .int .i64 (AtE (okI N P W ex no th) (argI a b p c d) 2)], H) := by
  refine call_pure e24 (by rfl) ?_
  have h29 := fun H => s29 n H N P W f1 f2 f3 ex no th hW hN
  have h54 := fun H => s54 (n + 3) H N P W f1 f2 f3 ex no th a b p c d hW
  simp only [c24, heap0, go_sem, Int.cast_ofNat_Int, Int.reduceToNat, Bool.true_xor, Bool.false_xor, Bool.xor_true, Bool.xor_false, Nat.reduceAdd, Nat.reduceBEq, Nat.reduceLeDiff, Nat.reduceLT, Nat.reduceMul, Nat.reduceSub, Int.reduceEq, Int.reduceLT, Int.reduceLE, Int.reduceNeg, h29, s52, s53, h54]
  repeat' (with_reducible refine fork_split (fun _ => ?_) (fun _ => ?_) <;> simp only [*, go_sem, Int.cast_ofNat_Int, Int.reduceToNat, Bool.true_xor, Bool.false_xor, Bool.xor_true, Bool.xor_false, Nat.reduceAdd, Nat.reduceBEq, Nat.reduceLeDiff, Nat.reduceLT, Nat.reduceMul, Nat.reduceSub, Int.reduceEq, Int.reduceLT, Int.reduceLE, Int.reduceNeg, h29, s52, s53, h54])
  all_goals (clear h29 h54; simp_all [AtV, AtE, argI])
/-- The numbers of a site's nodes. -/
def inI (N : List (Int × Int)) (x y : Int) : Bool := decide (0 ≤ x) && decide (x < N.length) && decide (0 ≤ y) && decide (y < N.length)
def nd (N : List (Int × Int)) (i : Nat) : Int × Int := N.getD i (0, 0)
/-- What 'at' gives between two nodes. -/
def btw (at1 : Int → Int → Int → Int → Int → Int) (N : List (Int × Int)) (P : List Int) (x y : Int) : Int :=
  bif decide (x = y) then 0 else at1 (nd N x.toNat).1 (nd N x.toNat).2 (P.getD x.toNat 0) (nd N y.toNat).1 (nd N y.toNat).2
theorem s55 (n : Nat) (H : Heap) (N : List (Int × Int)) (P : List Int) (W f1 f2 f3 ex no th) (x y : Nat) (hx : x < N.length) (hy : y < N.length) (hP : P.length = N.length) (hW : W.length ≤ maxLen) :
    call1 T (n + 9) (.fn 55) [st N P W f1 f2 f3 ex no th, .int .i64 x, .int .i64 y] H = some (.int .i64 (btw (atI W ex) N P x y), H) := by
  refine call_pure e55 (by rfl) ?_
  obtain ⟨p, hp⟩ := get_some hx
  obtain ⟨q, hq⟩ := get_some hy
  obtain ⟨r, hr⟩ := get_some (l := P) (i := x) (by omega)
  have hx' : x < P.length := by omega
  have h46 := fun H => s46 n H N P W f1 f2 f3 ex no th p.1 p.2 r q.1 q.2 hW
  simp only [c55, heap0, go_sem, Int.cast_ofNat_Int, Int.reduceToNat, Bool.true_xor, Bool.false_xor, Bool.xor_true, Bool.xor_false, Nat.reduceAdd, Nat.reduceBEq, Nat.reduceLeDiff, Nat.reduceLT, Nat.reduceMul, Nat.reduceSub, Int.reduceEq, Int.reduceLT, Int.reduceLE, Int.reduceNeg, hx, hy, hx', hp, hq, hr, h46]
  repeat' (with_reducible refine fork_split (fun _ => ?_) (fun _ => ?_) <;> simp only [*, go_sem, Int.cast_ofNat_Int, Int.reduceToNat, Bool.true_xor, Bool.false_xor, Bool.xor_true, Bool.xor_false, Nat.reduceAdd, Nat.reduceBEq, Nat.reduceLeDiff, Nat.reduceLT, Nat.reduceMul, Nat.reduceSub, Int.reduceEq, Int.reduceLT, Int.reduceLE, Int.reduceNeg, hx, hy, hx', hp, hq, hr, h46])
  all_goals (clear h46; simp_all [btw, nd, List.getD_eq_getElem?_getD])
theorem ok_len {N : List (Int × Int)} {P : List Int} {W : List Wl} {ex no th : Int} (h : okI N P W ex no th = true) : P.length = N.length ∧ N.length ≤ 32 ∧ W.length ≤ 32 ∧ 2 ≤ N.length := by
  simp only [okI, okB, Bool.and_eq_true, decide_eq_true_eq] at h
  omega
theorem inI_iff {N : List (Int × Int)} {x y : Int} : inI N x y = true ↔ (0 ≤ x ∧ x < N.length) ∧ 0 ≤ y ∧ y < N.length := by
  simp only [inI, Bool.and_eq_true, decide_eq_true_eq, and_assoc]
theorem s55' (n : Nat) (H : Heap) (N : List (Int × Int)) (P : List Int) (W f1 f2 f3 ex no th) (x y : Int) (h : inI N x y = true) (hP : P.length = N.length) (hW : W.length ≤ maxLen) :
    call1 T (n + 9) (.fn 55) [st N P W f1 f2 f3 ex no th, .int .i64 x, .int .i64 y] H = some (.int .i64 (btw (atI W ex) N P x y), H) := by
  rw [inI_iff] at h
  obtain ⟨⟨h1, h2⟩, h3, h4⟩ := h
  obtain ⟨x', rfl⟩ := Int.eq_ofNat_of_zero_le h1
  obtain ⟨y', rfl⟩ := Int.eq_ofNat_of_zero_le h3
  exact s55 n H N P W f1 f2 f3 ex no th x' y' (by omega) (by omega) hP hW
theorem s25 (n : Nat) (H : Heap) (N : List (Int × Int)) (P : List Int) (W f1 f2 f3 ex no th) (x y : Int) (hN : N.length ≤ maxLen) (hP : P.length ≤ maxLen) (hW : W.length ≤ maxLen) :
    call1 T (n + 10) (.fn 25) [st N P W f1 f2 f3 ex no th, .int .i64 x, .int .i64 y] H = some (.tup [.int .i64 (AtV (btw (atI W ex) N P x y) (okI N P W ex no th) (inI N x y)), .int .i64 (AtE (okI N P W ex no th) (inI N x y) 7)], H) := by
  refine call_pure e25 (by rfl) ?_
  have h23 := fun H => s23 (n + 3) H N P W f1 f2 f3 ex no th hN hP hW
  cases hok : okI N P W ex no th with
  | false =>
    simp only [c25, heap0, go_sem, Int.cast_ofNat_Int, Int.reduceToNat, Bool.true_xor, Bool.false_xor, Bool.xor_true, Bool.xor_false, Nat.reduceAdd, Nat.reduceBEq, Nat.reduceLeDiff, Nat.reduceLT, Nat.reduceMul, Nat.reduceSub, Int.reduceEq, Int.reduceLT, Int.reduceLE, Int.reduceNeg, h23, hok, AtV, AtE]
  | true =>
    cases hin : inI N x y with
    | false =>
      simp only [c25, heap0, go_sem, Int.cast_ofNat_Int, Int.reduceToNat, Bool.true_xor, Bool.false_xor, Bool.xor_true, Bool.xor_false, Nat.reduceAdd, Nat.reduceBEq, Nat.reduceLeDiff, Nat.reduceLT, Nat.reduceMul, Nat.reduceSub, Int.reduceEq, Int.reduceLT, Int.reduceLE, Int.reduceNeg, h23, hok, AtV, AtE]
      repeat' (with_reducible refine fork_split (fun _ => ?_) (fun _ => ?_) <;> simp only [*, go_sem, Int.cast_ofNat_Int, Int.reduceToNat, Bool.true_xor, Bool.false_xor, Bool.xor_true, Bool.xor_false, Nat.reduceAdd, Nat.reduceBEq, Nat.reduceLeDiff, Nat.reduceLT, Nat.reduceMul, Nat.reduceSub, Int.reduceEq, Int.reduceLT, Int.reduceLE, Int.reduceNeg])
      all_goals (exfalso; clear h23; rw [Bool.eq_false_iff, ne_eq, inI_iff] at hin; simp only [decide_eq_false_iff_not] at *; omega)
    | true =>
      have h55 := fun H => s55' n H N P W f1 f2 f3 ex no th x y hin (ok_len hok).1 hW
      rw [inI_iff] at hin
      have m1 : decide (min x y < 0) = false := by rw [decide_eq_false_iff_not]; omega
      have m2 : decide ((N.length : Int) ≤ max x y) = false := by rw [decide_eq_false_iff_not]; omega
      simp only [c25, heap0, go_sem, Int.cast_ofNat_Int, Int.reduceToNat, Bool.true_xor, Bool.false_xor, Bool.xor_true, Bool.xor_false, Nat.reduceAdd, Nat.reduceBEq, Nat.reduceLeDiff, Nat.reduceLT, Nat.reduceMul, Nat.reduceSub, Int.reduceEq, Int.reduceLT, Int.reduceLE, Int.reduceNeg, h23, hok, m1, m2, h55, AtV, AtE]
theorem s26 (n : Nat) (H : Heap) (N : List (Int × Int)) (P : List Int) (W f1 f2 f3 ex no th) (x y : Int) (hN : N.length ≤ maxLen) (hW : W.length ≤ maxLen) :
    call1 T (n + 7) (.fn 26) [st N P W f1 f2 f3 ex no th, .int .i64 x, .int .i64 y] H = some (.tup [.int .i64 (AtV (btw (atR W ex) N P x y) (okI N P W ex no th) (inI N x y)), .int .i64 (AtE (okI N P W ex no th) (inI N x y) 7)], H) := by
  refine call_pure e26 (by rfl) ?_
  have h29 := fun H => s29 n H N P W f1 f2 f3 ex no th hW hN
  cases hok : okI N P W ex no th with
  | false =>
    simp only [c26, heap0, go_sem, Int.cast_ofNat_Int, Int.reduceToNat, Bool.true_xor, Bool.false_xor, Bool.xor_true, Bool.xor_false, Nat.reduceAdd, Nat.reduceBEq, Nat.reduceLeDiff, Nat.reduceLT, Nat.reduceMul, Nat.reduceSub, Int.reduceEq, Int.reduceLT, Int.reduceLE, Int.reduceNeg, h29, hok, AtV, AtE]
  | true =>
    cases hin : inI N x y with
    | false =>
      simp only [c26, heap0, go_sem, Int.cast_ofNat_Int, Int.reduceToNat, Bool.true_xor, Bool.false_xor, Bool.xor_true, Bool.xor_false, Nat.reduceAdd, Nat.reduceBEq, Nat.reduceLeDiff, Nat.reduceLT, Nat.reduceMul, Nat.reduceSub, Int.reduceEq, Int.reduceLT, Int.reduceLE, Int.reduceNeg, h29, hok, AtV, AtE]
      repeat' (with_reducible refine fork_split (fun _ => ?_) (fun _ => ?_) <;> simp only [*, go_sem, Int.cast_ofNat_Int, Int.reduceToNat, Bool.true_xor, Bool.false_xor, Bool.xor_true, Bool.xor_false, Nat.reduceAdd, Nat.reduceBEq, Nat.reduceLeDiff, Nat.reduceLT, Nat.reduceMul, Nat.reduceSub, Int.reduceEq, Int.reduceLT, Int.reduceLE, Int.reduceNeg])
      all_goals (exfalso; clear h29; rw [Bool.eq_false_iff, ne_eq, inI_iff] at hin; simp only [decide_eq_false_iff_not] at *; omega)
    | true =>
      rw [inI_iff] at hin
      obtain ⟨⟨h1, h2⟩, h3, h4⟩ := hin
      obtain ⟨x', rfl⟩ := Int.eq_ofNat_of_zero_le h1
      obtain ⟨y', rfl⟩ := Int.eq_ofNat_of_zero_le h3
      have hl := (ok_len hok).1
      have hx : x' < N.length := by omega
      have hy : y' < N.length := by omega
      have hx' : x' < P.length := by omega
      have n1 : decide ((x' : Int) < 0) = false := by rw [decide_eq_false_iff_not]; omega
      have n2 : decide ((y' : Int) < 0) = false := by rw [decide_eq_false_iff_not]; omega
      have n3 : decide ((N.length : Int) ≤ x') = false := by rw [decide_eq_false_iff_not]; omega
      have n4 : decide ((N.length : Int) ≤ y') = false := by rw [decide_eq_false_iff_not]; omega
      obtain ⟨p, hp⟩ := get_some hx
      obtain ⟨q, hq⟩ := get_some hy
      obtain ⟨r, hr⟩ := get_some hx'
      have h54 := fun H => s54 (n + 3) H N P W f1 f2 f3 ex no th p.1 p.2 r q.1 q.2 hW
      simp only [c26, heap0, go_sem, Int.cast_ofNat_Int, Int.reduceToNat, Bool.true_xor, Bool.false_xor, Bool.xor_true, Bool.xor_false, Nat.reduceAdd, Nat.reduceBEq, Nat.reduceLeDiff, Nat.reduceLT, Nat.reduceMul, Nat.reduceSub, Int.reduceEq, Int.reduceLT, Int.reduceLE, Int.reduceNeg, h29, hok, n1, n2, n3, n4, AtV, AtE]
      repeat' (with_reducible refine fork_split (fun _ => ?_) (fun _ => ?_) <;> simp only [*, go_sem, Int.cast_ofNat_Int, Int.reduceToNat, Bool.true_xor, Bool.false_xor, Bool.xor_true, Bool.xor_false, Nat.reduceAdd, Nat.reduceBEq, Nat.reduceLeDiff, Nat.reduceLT, Nat.reduceMul, Nat.reduceSub, Int.reduceEq, Int.reduceLT, Int.reduceLE, Int.reduceNeg, hx, hy, hx', hp, hq, hr, h54])
      all_goals (clear h54 h29; simp_all [btw, nd, List.getD_eq_getElem?_getD])
end Go.Sh
namespace Go.Sh
set_option linter.unusedSectionVars false
set_option linter.unnecessarySimpa false
set_option linter.unusedVariables false
set_option linter.unusedSimpArgs false
set_option maxRecDepth 100000
set_option maxHeartbeats 4000000
theorem pow_iff {p : Int} : powI p = true ↔ 0 ≤ p ∧ p ≤ 68719476736 := by simp only [powI, Bool.and_eq_true, decide_eq_true_eq]
theorem quo_le {p m : Int} (hp : powI p = true) (hm : 100 ≤ m) : powI (w64 ((w64 (p * 100)).tdiv m)) = true ∧ w64 ((w64 (p * 100)).tdiv m) = p * 100 / m := by
  rw [pow_iff] at hp
  have e1 : w64 (p * 100) = p * 100 := w64_id (by omega) (by omega)
  have e2 : (p * 100).tdiv m = p * 100 / m := Int.tdiv_eq_ediv_of_nonneg (by omega)
  have h0 : 0 ≤ p * 100 / m := Int.ediv_nonneg (by omega) (by omega)
  have h1 : p * 100 / m ≤ p := Int.ediv_le_of_le_mul (by omega) (Int.mul_le_mul_of_nonneg_left hm hp.1)
  have e3 : w64 (p * 100 / m) = p * 100 / m := w64_id (by omega) (by omega)
  rw [e1, e2, e3]
  exact ⟨pow_iff.2 (by omega), rfl⟩
theorem mI_ge (a b c d : Int) : 100 ≤ mI a b c d := Int.le_max_right _ _
theorem start_pow {ex a b p c d : Int} (hp : powI p = true) : powI (startI ex a b p c d) = true := by
  have h1 := (quo_le hp (mI_ge a b c d)).1
  have h2 := (quo_le h1 (mI_ge a b c d)).1
  simp only [startI]
  split
  · exact h2
  · exact h1
theorem scale_le {p f : Int} (hp : powI p = true) (h0 : 0 ≤ f) (h1 : f ≤ 1000) : w64 ((w64 (p * f)).tdiv 1000) = p * f / 1000 ∧ 0 ≤ p * f / 1000 ∧ p * f / 1000 ≤ p := by
  rw [pow_iff] at hp
  have k0 : 0 ≤ p * f := Int.mul_nonneg hp.1 h0
  have k1 : p * f ≤ p * 1000 := Int.mul_le_mul_of_nonneg_left h1 hp.1
  have e1 : w64 (p * f) = p * f := w64_id (by omega) (by omega)
  rw [e1, Int.tdiv_eq_ediv_of_nonneg k0]
  have e3 : w64 (p * f / 1000) = p * f / 1000 := w64_id (by omega) (by omega)
  rw [e3]
  omega
theorem badW_iff {w : Wl} : badW w = false ↔ pointI w.a w.b = true ∧ pointI w.c w.d = true ∧ 0 ≤ w.f ∧ w.f ≤ 1000 := by
  simp only [badW, Bool.or_eq_false_iff, Bool.not_eq_false', decide_eq_false_iff_not, and_assoc, Int.not_lt]
theorem point_near {a b : Int} (h : pointI a b = true) : Near a ∧ Near b := by
  simp only [pointI, Bool.and_eq_true, decide_eq_true_eq] at h
  unfold Near
  omega
theorem step_eq {a b c d p : Int} {w : Wl} (h1 : pointI a b = true) (h2 : pointI c d = true) (hp : powI p = true) (hw : badW w = false) : stepI a b c d p w = stepR a b c d p w ∧ powI (stepR a b c d p w) = true ∧ stepR a b c d p w ≤ p := by
  obtain ⟨k1, k2, k3, k4⟩ := badW_iff.1 hw
  have hc := cross_eq (point_near h1).1 (point_near h1).2 (point_near h2).1 (point_near h2).2 (point_near k1).1 (point_near k1).2 (point_near k2).1 (point_near k2).2
  have hs := scale_le hp k3 k4
  have hok : scOk p w.f = true := by simp only [scOk, hp, Bool.true_and, Bool.and_eq_true, decide_eq_true_eq]; exact ⟨k3, k4⟩
  unfold stepI stepR
  rw [hc]
  split
  · simp only [scV, hok, if_true]
    rw [hs.1]
    rw [pow_iff] at hp ⊢
    exact ⟨trivial, by omega, by omega⟩
  · exact ⟨rfl, hp, Int.le_refl _⟩
theorem fold_eq {a b c d : Int} (h1 : pointI a b = true) (h2 : pointI c d = true) : ∀ (W : List Wl) (p : Int), powI p = true → W.any badW = false → W.foldl (stepI a b c d) p = W.foldl (stepR a b c d) p ∧ powI (W.foldl (stepR a b c d) p) = true ∧ W.foldl (stepR a b c d) p ≤ p
  | [], p, hp, _ => ⟨rfl, hp, Int.le_refl _⟩
  | w :: W, p, hp, hW => by
    simp only [List.any_cons, Bool.or_eq_false_iff] at hW
    obtain ⟨e1, e2, e3⟩ := step_eq h1 h2 hp hW.1
    obtain ⟨f1, f2, f3⟩ := fold_eq h1 h2 W _ e2 hW.2
    simp only [List.foldl_cons, e1]
    exact ⟨f1, f2, by omega⟩
theorem ok_walls {N : List (Int × Int)} {P : List Int} {W : List Wl} {ex no th : Int} (h : okI N P W ex no th = true) : W.any badW = false ∧ (∀ p ∈ N, pointI p.1 p.2 = true) ∧ (∀ p ∈ P, powI p = true) := by
  simp only [okI, okB, Bool.and_eq_true, Bool.not_eq_true'] at h
  obtain ⟨⟨⟨⟨⟨⟨⟨⟨_, _⟩, h1⟩, _⟩, h2⟩, _⟩, h3⟩, _⟩, _⟩ := h
  refine ⟨h3, fun p hp => ?_, fun p hp => ?_⟩
  · have := List.any_eq_false.1 h1 p hp; simpa using this
  · have := List.any_eq_false.1 h2 p hp; simpa using this
theorem at_eq {N : List (Int × Int)} {P : List Int} {W : List Wl} {ex no th a b p c d : Int} (h : okI N P W ex no th = true) (ha : argI a b p c d = true) : atI W ex a b p c d = atR W ex a b p c d ∧ powI (atR W ex a b p c d) = true := by
  simp only [argI, Bool.and_eq_true] at ha
  obtain ⟨⟨h1, h2⟩, h3⟩ := ha
  have := fold_eq h1 h2 W _ (start_pow (ex := ex) (a := a) (b := b) (c := c) (d := d) h3) (ok_walls h).1
  exact ⟨this.1, this.2.1⟩
theorem AtV_eq (N : List (Int × Int)) (P : List Int) (W : List Wl) (ex no th a b p c d : Int) : AtV (atI W ex a b p c d) (okI N P W ex no th) (argI a b p c d) = AtV (atR W ex a b p c d) (okI N P W ex no th) (argI a b p c d) := by
  cases h : okI N P W ex no th with
  | false => rfl
  | true =>
    cases h' : argI a b p c d with
    | false => rfl
    | true => simp only [AtV, Bool.true_and, cond_true, (at_eq h h').1]
theorem btw_eq {N : List (Int × Int)} {P : List Int} {W : List Wl} {ex no th x y : Int} (h : okI N P W ex no th = true) (hin : inI N x y = true) : btw (atI W ex) N P x y = btw (atR W ex) N P x y ∧ powI (btw (atR W ex) N P x y) = true := by
  have hl := (ok_len h).1
  have hw := ok_walls h
  rw [inI_iff] at hin
  obtain ⟨p, hp⟩ := get_some (l := N) (i := x.toNat) (by omega)
  obtain ⟨q, hq⟩ := get_some (l := N) (i := y.toNat) (by omega)
  obtain ⟨r, hr⟩ := get_some (l := P) (i := x.toNat) (by omega)
  have harg : argI p.1 p.2 r q.1 q.2 = true := by
    simp only [argI, Bool.and_eq_true]
    exact ⟨⟨hw.2.1 _ (List.mem_of_getElem? hp), hw.2.1 _ (List.mem_of_getElem? hq)⟩, hw.2.2 _ (List.mem_of_getElem? hr)⟩
  have he := at_eq h harg
  simp only [btw, nd, List.getD_eq_getElem?_getD, hp, hq, hr, Option.getD_some]
  cases decide (x = y) with
  | true => exact ⟨rfl, rfl⟩
  | false => exact he
theorem BtV_eq (N : List (Int × Int)) (P : List Int) (W : List Wl) (ex no th x y : Int) : AtV (btw (atI W ex) N P x y) (okI N P W ex no th) (inI N x y) = AtV (btw (atR W ex) N P x y) (okI N P W ex no th) (inI N x y) := by
  cases h : okI N P W ex no th with
  | false => rfl
  | true =>
    cases h' : inI N x y with
    | false => rfl
    | true => simp only [AtV, Bool.true_and, cond_true, (btw_eq h h').1]
end Go.Sh
namespace Go.Sh
set_option linter.unusedSectionVars false
set_option linter.unnecessarySimpa false
set_option linter.unusedVariables false
set_option linter.unusedSimpArgs false
set_option maxRecDepth 100000
set_option maxHeartbeats 4000000
def rowT (at1 : Int → Int → Int → Int → Int → Int) (N : List (Int × Int)) (P : List Int) (a k : Nat) : List (List SV) := (List.range k).map fun (b : Nat) => [.int .i64 (btw at1 N P (a : Int) (b : Int))]
def tabT (at1 : Int → Int → Int → Int → Int → Int) (N : List (Int × Int)) (P : List Int) (k : Nat) : List (List SV) := (List.range k).map fun (a : Nat) => [.lst 1 (rowT at1 N P a N.length) false]
theorem rowT_len {at1 N P a k} : (rowT at1 N P a k).length = k := by simp [rowT]
theorem tabT_len {at1 N P k} : (tabT at1 N P k).length = k := by simp [tabT]
theorem rowT_succ (at1 N P a k) : rowT at1 N P a (k + 1) = rowT at1 N P a k ++ [[.int .i64 (btw at1 N P a k)]] := by simp [rowT, List.range_succ]
theorem tabT_succ (at1 N P k) : tabT at1 N P (k + 1) = tabT at1 N P k ++ [[.lst 1 (rowT at1 N P k N.length) false]] := by simp [tabT, List.range_succ]
theorem rowT_refs (at1 N P a k) : ∀ cs ∈ rowT at1 N P a k, ∀ c ∈ cs, c.refs = 0 := by
  intro cs hcs c hc
  simp only [rowT, List.mem_map] at hcs
  obtain ⟨b, _, rfl⟩ := hcs
  simp only [List.mem_singleton] at hc
  subst hc
  simp [SV.refs]
theorem tabT_refs (at1 N P k) : ∀ cs ∈ tabT at1 N P k, ∀ c ∈ cs, c.refs = 0 := by
  intro cs hcs c hc
  simp only [tabT, List.mem_map] at hcs
  obtain ⟨b, _, rfl⟩ := hcs
  simp only [List.mem_singleton] at hc
  subst hc
  simp [SV.refs]
theorem tabT_frz (at1 N P k M H d) : ∀ cs ∈ tabT at1 N P k, ∀ c ∈ cs, frz M H (d + 1) c = some c := by
  intro cs hcs c hc
  simp only [tabT, List.mem_map] at hcs
  obtain ⟨b, _, rfl⟩ := hcs
  simp only [List.mem_singleton] at hc
  subst hc
  simp only [frz]
theorem room {n : Nat} (h : n ≤ 32) : decide ((n + 1) * 8 ≤ mostLen) = true ∧ decide ((n + 1) * 24 ≤ mostLen) = true := by
  simp only [decide_eq_true_eq]
  exact ⟨Nat.le_trans (show (n + 1) * 8 ≤ 1000 by omega) (by decide), Nat.le_trans (show (n + 1) * 24 ≤ 1000 by omega) (by decide)⟩
theorem s27 (n : Nat) (H : Heap) (N : List (Int × Int)) (P : List Int) (W f1 f2 f3 ex no th) (hN : N.length ≤ maxLen) (hP : P.length ≤ maxLen) (hW : W.length ≤ maxLen) :
    call1 T (n + 10) (.fn 27) [st N P W f1 f2 f3 ex no th] H = some (bif okI N P W ex no th then .tup [.lst 1 (tabT (atI W ex) N P N.length) false, .int .i64 0] else .tup [.lst 0 [] true, .int .i64 1], H) := by
  refine call_pure e27 (by rfl) ?_
  have h23 := fun H => s23 (n + 3) H N P W f1 f2 f3 ex no th hN hP hW
  cases hok : okI N P W ex no th with
  | false => simp only [c27, heap0, go_sem, Int.cast_ofNat_Int, Int.reduceToNat, Bool.true_xor, Bool.false_xor, Bool.xor_true, Bool.xor_false, Nat.reduceAdd, Nat.reduceBEq, Nat.reduceLeDiff, Nat.reduceLT, Nat.reduceMul, Nat.reduceSub, Int.reduceEq, Int.reduceLT, Int.reduceLE, Int.reduceNeg, h23, hok, chk_no hok]
  | true =>
    have hl := ok_len hok
    simp only [c27, heap0, go_sem, Int.cast_ofNat_Int, Int.reduceToNat, Bool.true_xor, Bool.false_xor, Bool.xor_true, Bool.xor_false, Nat.reduceAdd, Nat.reduceBEq, Nat.reduceLeDiff, Nat.reduceLT, Nat.reduceMul, Nat.reduceSub, Int.reduceEq, Int.reduceLT, Int.reduceLE, Int.reduceNeg, h23, hok, chk_yes hok]
    refine loop_rule (fun i => ([(1, .ptr 0 0 0 0), (5, .slc 1 i 0 i), (16, .int .i64 N.length), (17, .int .i64 i)], ⟨[.box [.lst 2 (ptsS N) f1, .lst 1 (intsS P) f2, .lst 5 (wlsS W) f3, .int .i64 ex, .int .i64 no, .int .i64 th], .arr i 1 (tabT (atI W ex) N P i) false], [], 0⟩)) (fun _ => True) N.length ?_ trivial ?_
    · simp only [go_sem, Int.cast_ofNat_Int, Int.reduceToNat, Bool.true_xor, Bool.false_xor, Bool.xor_true, Bool.xor_false, Nat.reduceAdd, Nat.reduceBEq, Nat.reduceLeDiff, Nat.reduceLT, Nat.reduceMul, Nat.reduceSub, Int.reduceEq, Int.reduceLT, Int.reduceLE, Int.reduceNeg]
      rfl
    · intro i hi _
      rcases Nat.lt_or_ge i N.length with hlt | hge
      · have hs := w64_succ hlt hN
        simp only [go_sem, Int.cast_ofNat_Int, Int.reduceToNat, Bool.true_xor, Bool.false_xor, Bool.xor_true, Bool.xor_false, Nat.reduceAdd, Nat.reduceBEq, Nat.reduceLeDiff, Nat.reduceLT, Nat.reduceMul, Nat.reduceSub, Int.reduceEq, Int.reduceLT, Int.reduceLE, Int.reduceNeg, hlt]
        refine loop_post (fun j => ([(1, .ptr 0 0 0 0), (5, .slc 1 i 0 i), (6, .int .i64 i), (7, .slc 2 j 0 j), (16, .int .i64 N.length), (17, .int .i64 i), (22, .int .i64 N.length), (23, .int .i64 j)], ⟨[.box [.lst 2 (ptsS N) f1, .lst 1 (intsS P) f2, .lst 5 (wlsS W) f3, .int .i64 ex, .int .i64 no, .int .i64 th], .arr i 1 (tabT (atI W ex) N P i) false, .arr j 1 (rowT (atI W ex) N P i j) false], [], 0⟩)) (fun _ => True) N.length ?_ trivial ?_
        · simp only [go_sem, Int.cast_ofNat_Int, Int.reduceToNat, Bool.true_xor, Bool.false_xor, Bool.xor_true, Bool.xor_false, Nat.reduceAdd, Nat.reduceBEq, Nat.reduceLeDiff, Nat.reduceLT, Nat.reduceMul, Nat.reduceSub, Int.reduceEq, Int.reduceLT, Int.reduceLE, Int.reduceNeg]
          rfl
        · intro j hj _
          rcases Nat.lt_or_ge j N.length with hlt2 | hge2
          · have hs2 := w64_succ hlt2 hN
            have h55 := fun H => s55 n H N P W f1 f2 f3 ex no th i j hlt hlt2 hl.1 hW
            simp only [go_sem, Int.cast_ofNat_Int, Int.reduceToNat, Bool.true_xor, Bool.false_xor, Bool.xor_true, Bool.xor_false, Nat.reduceAdd, Nat.reduceBEq, Nat.reduceLeDiff, Nat.reduceLT, Nat.reduceMul, Nat.reduceSub, Int.reduceEq, Int.reduceLT, Int.reduceLE, Int.reduceNeg, hlt2, h55, apB_grow _ _ _ _ _ _ _ (rowT_len (at1 := atI W ex) (N := N) (P := P) (a := i) (k := j)), (room (n := j) (by omega)).1, hs2, ← rowT_succ]
            exact ⟨trivial, rfl, trivial⟩
          · have hlt2 : ¬ j < N.length := by omega
            have hj' : j = N.length := by omega
            subst hj'
            have hfr := fun H => fTB_whole H 2 N.length N.length 1 (rowT (atI W ex) N P i N.length) false rowT_len (refs_flat (rowT_refs _ _ _ _ _))
            simp only [go_sem, Int.cast_ofNat_Int, Int.reduceToNat, Bool.true_xor, Bool.false_xor, Bool.xor_true, Bool.xor_false, Nat.reduceAdd, Nat.reduceBEq, Nat.reduceLeDiff, Nat.reduceLT, Nat.reduceMul, Nat.reduceSub, Int.reduceEq, Int.reduceLT, Int.reduceLE, Int.reduceNeg, hlt2, hfr, apB_grow _ _ _ _ _ _ _ (tabT_len (at1 := atI W ex) (N := N) (P := P) (k := i)), (room (n := i) (by omega)).2, hs, ← tabT_succ]
            exact ⟨by first | trivial | exact hlt, rfl, trivial⟩
      · have hlt : ¬ i < N.length := by omega
        have hi' : i = N.length := by omega
        subst hi'
        have hfz := fun H v => fzB_whole 0 H 6 v N.length 1 (tabT (atI W ex) N P N.length) false tabT_len (tabT_frz _ _ _ _ _ _ _) (tabT_refs _ _ _ _)
        simp only [go_sem, Int.cast_ofNat_Int, Int.reduceToNat, Bool.true_xor, Bool.false_xor, Bool.xor_true, Bool.xor_false, Nat.reduceAdd, Nat.reduceBEq, Nat.reduceLeDiff, Nat.reduceLT, Nat.reduceMul, Nat.reduceSub, Int.reduceEq, Int.reduceLT, Int.reduceLE, Int.reduceNeg, hlt, hfz]
end Go.Sh
namespace Go.Sh
set_option linter.unusedSectionVars false
set_option linter.unnecessarySimpa false
set_option linter.unusedVariables false
set_option linter.unusedSimpArgs false
set_option maxRecDepth 100000
set_option maxHeartbeats 4000000
theorem inI_nat {N : List (Int × Int)} {i j : Nat} (hi : i < N.length) (hj : j < N.length) : inI N i j = true := by
  rw [inI_iff]; omega
theorem s28 (n : Nat) (H : Heap) (N : List (Int × Int)) (P : List Int) (W f1 f2 f3 ex no th) (hN : N.length ≤ maxLen) (hW : W.length ≤ maxLen) :
    call1 T (n + 8) (.fn 28) [st N P W f1 f2 f3 ex no th] H = some (bif okI N P W ex no th then .tup [.lst 1 (tabT (atR W ex) N P N.length) false, .int .i64 0] else .tup [.lst 0 [] true, .int .i64 1], H) := by
  refine call_pure e28 (by rfl) ?_
  have h29 := fun H => s29 (n + 1) H N P W f1 f2 f3 ex no th hW hN
  cases hok : okI N P W ex no th with
  | false => simp only [c28, heap0, go_sem, Int.cast_ofNat_Int, Int.reduceToNat, Bool.true_xor, Bool.false_xor, Bool.xor_true, Bool.xor_false, Nat.reduceAdd, Nat.reduceBEq, Nat.reduceLeDiff, Nat.reduceLT, Nat.reduceMul, Nat.reduceSub, Int.reduceEq, Int.reduceLT, Int.reduceLE, Int.reduceNeg, h29, hok, chk_no hok]
  | true =>
    have hl := ok_len hok
    simp only [c28, heap0, go_sem, Int.cast_ofNat_Int, Int.reduceToNat, Bool.true_xor, Bool.false_xor, Bool.xor_true, Bool.xor_false, Nat.reduceAdd, Nat.reduceBEq, Nat.reduceLeDiff, Nat.reduceLT, Nat.reduceMul, Nat.reduceSub, Int.reduceEq, Int.reduceLT, Int.reduceLE, Int.reduceNeg, h29, hok, chk_yes hok]
    refine loop_rule (fun i => ([(1, .ptr 0 0 0 0), (4, .slc 1 i 0 i), (5, .int .i64 i)], ⟨[.box [.lst 2 (ptsS N) f1, .lst 1 (intsS P) f2, .lst 5 (wlsS W) f3, .int .i64 ex, .int .i64 no, .int .i64 th], .arr i 1 (tabT (atR W ex) N P i) false], [], 0⟩)) (fun _ => True) N.length ?_ trivial ?_
    · simp only [go_sem, Int.cast_ofNat_Int, Int.reduceToNat, Bool.true_xor, Bool.false_xor, Bool.xor_true, Bool.xor_false, Nat.reduceAdd, Nat.reduceBEq, Nat.reduceLeDiff, Nat.reduceLT, Nat.reduceMul, Nat.reduceSub, Int.reduceEq, Int.reduceLT, Int.reduceLE, Int.reduceNeg] <;> rfl
    · intro i hi _
      rcases Nat.lt_or_ge i N.length with hlt | hge
      · have hs := w64_succ hlt hN
        simp only [go_sem, Int.cast_ofNat_Int, Int.reduceToNat, Bool.true_xor, Bool.false_xor, Bool.xor_true, Bool.xor_false, Nat.reduceAdd, Nat.reduceBEq, Nat.reduceLeDiff, Nat.reduceLT, Nat.reduceMul, Nat.reduceSub, Int.reduceEq, Int.reduceLT, Int.reduceLE, Int.reduceNeg, hlt]
        refine loop_post (fun j => ([(1, .ptr 0 0 0 0), (4, .slc 1 i 0 i), (5, .int .i64 i), (6, .slc 2 j 0 j), (7, .int .i64 j)], ⟨[.box [.lst 2 (ptsS N) f1, .lst 1 (intsS P) f2, .lst 5 (wlsS W) f3, .int .i64 ex, .int .i64 no, .int .i64 th], .arr i 1 (tabT (atR W ex) N P i) false, .arr j 1 (rowT (atR W ex) N P i j) false], [], 0⟩)) (fun _ => True) N.length ?_ trivial ?_
        · simp only [go_sem, Int.cast_ofNat_Int, Int.reduceToNat, Bool.true_xor, Bool.false_xor, Bool.xor_true, Bool.xor_false, Nat.reduceAdd, Nat.reduceBEq, Nat.reduceLeDiff, Nat.reduceLT, Nat.reduceMul, Nat.reduceSub, Int.reduceEq, Int.reduceLT, Int.reduceLE, Int.reduceNeg] <;> rfl
        · intro j hj _
          rcases Nat.lt_or_ge j N.length with hlt2 | hge2
          · have hs2 := w64_succ hlt2 hN
            have h26 := fun H => s26 n H N P W f1 f2 f3 ex no th i j hN hW
            simp only [hok, inI_nat hlt hlt2, AtV, AtE, Bool.and_self, cond_true] at h26
            simp only [go_sem, Int.cast_ofNat_Int, Int.reduceToNat, Bool.true_xor, Bool.false_xor, Bool.xor_true, Bool.xor_false, Nat.reduceAdd, Nat.reduceBEq, Nat.reduceLeDiff, Nat.reduceLT, Nat.reduceMul, Nat.reduceSub, Int.reduceEq, Int.reduceLT, Int.reduceLE, Int.reduceNeg, hlt2, h26, apB_grow _ _ _ _ _ _ _ (rowT_len (at1 := atR W ex) (N := N) (P := P) (a := i) (k := j)), (room (n := j) (by omega)).1, hs2, ← rowT_succ]
            exact ⟨trivial, rfl, trivial⟩
          · have hlt2 : ¬ j < N.length := by omega
            have hj' : j = N.length := by omega
            subst hj'
            have hfr := fun H => fTB_whole H 2 N.length N.length 1 (rowT (atR W ex) N P i N.length) false rowT_len (refs_flat (rowT_refs _ _ _ _ _))
            simp only [go_sem, Int.cast_ofNat_Int, Int.reduceToNat, Bool.true_xor, Bool.false_xor, Bool.xor_true, Bool.xor_false, Nat.reduceAdd, Nat.reduceBEq, Nat.reduceLeDiff, Nat.reduceLT, Nat.reduceMul, Nat.reduceSub, Int.reduceEq, Int.reduceLT, Int.reduceLE, Int.reduceNeg, hlt2, hfr, apB_grow _ _ _ _ _ _ _ (tabT_len (at1 := atR W ex) (N := N) (P := P) (k := i)), (room (n := i) (by omega)).2, hs, ← tabT_succ]
            exact ⟨by first | trivial | exact hlt, rfl, trivial⟩
      · have hlt : ¬ i < N.length := by omega
        have hi' : i = N.length := by omega
        subst hi'
        have hfz := fun H v => fzB_whole 0 H 6 v N.length 1 (tabT (atR W ex) N P N.length) false tabT_len (tabT_frz _ _ _ _ _ _ _) (tabT_refs _ _ _ _)
        simp only [go_sem, Int.cast_ofNat_Int, Int.reduceToNat, Bool.true_xor, Bool.false_xor, Bool.xor_true, Bool.xor_false, Nat.reduceAdd, Nat.reduceBEq, Nat.reduceLeDiff, Nat.reduceLT, Nat.reduceMul, Nat.reduceSub, Int.reduceEq, Int.reduceLT, Int.reduceLE, Int.reduceNeg, hlt, hfz]
/-- Two slices of integers: the same? -/
theorem s31 (n : Nat) (H : Heap) (L M : List Int) (f1 f2 : Bool) (hL : L.length ≤ maxLen) : call1 T (n + 1) (.fn 31) [.lst 1 (intsS L) f1, .lst 1 (intsS M) f2] H = some (.bool (decide (L = M)), H) := by
  refine call_pure e31 (by rfl) ?_
  simp only [c31, heap0, go_sem, Int.cast_ofNat_Int, Int.reduceToNat, Bool.true_xor, Bool.false_xor, Bool.xor_true, Bool.xor_false, Nat.reduceAdd, Nat.reduceBEq, Nat.reduceLeDiff, Nat.reduceLT, Nat.reduceMul, Nat.reduceSub, Int.reduceEq, Int.reduceLT, Int.reduceLE, Int.reduceNeg]
  with_reducible refine fork_split (fun hne => ?_) (fun hne => ?_)
  rotate_left
  · have : L ≠ M := fun h => by subst h; simp at hne
    simp only [go_sem, Int.cast_ofNat_Int, Int.reduceToNat, Bool.true_xor, Bool.false_xor, Bool.xor_true, Bool.xor_false, Nat.reduceAdd, Nat.reduceBEq, Nat.reduceLeDiff, Nat.reduceLT, Nat.reduceMul, Nat.reduceSub, Int.reduceEq, Int.reduceLT, Int.reduceLE, Int.reduceNeg, decide_eq_false this]
  · have hlen : L.length = M.length := by simp only [decide_eq_true_eq] at hne; omega
    simp only [go_sem, Int.cast_ofNat_Int, Int.reduceToNat, Bool.true_xor, Bool.false_xor, Bool.xor_true, Bool.xor_false, Nat.reduceAdd, Nat.reduceBEq, Nat.reduceLeDiff, Nat.reduceLT, Nat.reduceMul, Nat.reduceSub, Int.reduceEq, Int.reduceLT, Int.reduceLE, Int.reduceNeg]
    refine loop_rule (fun i => ([(0, .lst 1 (intsS L) f1), (1, .lst 1 (intsS M) f2), (12, .int .i64 L.length), (13, .int .i64 i)], ⟨[], [], 0⟩)) (fun i => ∀ j : Nat, j < i → L[j]? = M[j]?) L.length ?_ (fun j h => by omega) ?_
    · simp only [go_sem, Int.cast_ofNat_Int, Int.reduceToNat, Bool.true_xor, Bool.false_xor, Bool.xor_true, Bool.xor_false, Nat.reduceAdd, Nat.reduceBEq, Nat.reduceLeDiff, Nat.reduceLT, Nat.reduceMul, Nat.reduceSub, Int.reduceEq, Int.reduceLT, Int.reduceLE, Int.reduceNeg] <;> rfl
    · intro i hi hI
      rcases Nat.lt_or_ge i L.length with hlt | hge
      · obtain ⟨a, ha⟩ := get_some hlt
        have hlt2 : i < M.length := by omega
        obtain ⟨b, hb⟩ := get_some hlt2
        have hs := w64_succ hlt hL
        simp only [go_sem, Int.cast_ofNat_Int, Int.reduceToNat, Bool.true_xor, Bool.false_xor, Bool.xor_true, Bool.xor_false, Nat.reduceAdd, Nat.reduceBEq, Nat.reduceLeDiff, Nat.reduceLT, Nat.reduceMul, Nat.reduceSub, Int.reduceEq, Int.reduceLT, Int.reduceLE, Int.reduceNeg, hlt, hlt2, ha, hb]
        with_reducible refine post_fork (fun hab => ?_) (fun hab => ?_)
        rotate_left
        · have hab : a ≠ b := by simpa using hab
          have : L ≠ M := fun h => by subst h; rw [ha] at hb; cases hb; exact hab rfl
          simp only [go_sem, Int.cast_ofNat_Int, Int.reduceToNat, Bool.true_xor, Bool.false_xor, Bool.xor_true, Bool.xor_false, Nat.reduceAdd, Nat.reduceBEq, Nat.reduceLeDiff, Nat.reduceLT, Nat.reduceMul, Nat.reduceSub, Int.reduceEq, Int.reduceLT, Int.reduceLE, Int.reduceNeg, decide_eq_false this]
        · have hab : a = b := by simpa using hab
          simp only [go_sem, Int.cast_ofNat_Int, Int.reduceToNat, Bool.true_xor, Bool.false_xor, Bool.xor_true, Bool.xor_false, Nat.reduceAdd, Nat.reduceBEq, Nat.reduceLeDiff, Nat.reduceLT, Nat.reduceMul, Nat.reduceSub, Int.reduceEq, Int.reduceLT, Int.reduceLE, Int.reduceNeg, hlt, hs]
          refine ⟨trivial, trivial, fun j hj => ?_⟩
          rcases Nat.lt_or_ge j i with h3 | h3
          · exact hI j h3
          · have : j = i := by omega
            subst this
            rw [ha, hb, hab]
      · have hlt : ¬ i < L.length := by omega
        have : L = M := List.ext_getElem? (fun j => by
          rcases Nat.lt_or_ge j L.length with h3 | h3
          · exact hI j (by omega)
          · rw [List.getElem?_eq_none h3, List.getElem?_eq_none (by omega)])
        simp only [go_sem, Int.cast_ofNat_Int, Int.reduceToNat, Bool.true_xor, Bool.false_xor, Bool.xor_true, Bool.xor_false, Nat.reduceAdd, Nat.reduceBEq, Nat.reduceLeDiff, Nat.reduceLT, Nat.reduceMul, Nat.reduceSub, Int.reduceEq, Int.reduceLT, Int.reduceLE, Int.reduceNeg, hlt, decide_eq_true this]
end Go.Sh
namespace Go.Sh
set_option linter.unusedSectionVars false
set_option linter.unnecessarySimpa false
set_option linter.unusedVariables false
set_option linter.unusedSimpArgs false
set_option maxRecDepth 100000
set_option maxHeartbeats 4000000
theorem s30 (n id z : Nat) (H : Heap) (L : List (List SV)) (f1 f2 : Bool) (hL : L.length ≤ maxLen) (hz : L ≠ [] → z = 1) (hr : ∀ r ∈ L, ∃ x, r = [x]) (h0 : SV.refs.refsL L.flatten = 0)
    (hc : ∀ r ∈ L, ∀ H, call1 T n (.fn id) [r.headD .undef, r.headD .undef] H = some (.bool true, H)) : call1 T (n + 1) (.fn 30) [.lst z L f1, .lst z L f2, .fn id []] H = some (.bool true, H) := by
  refine call_pure e30 (by rfl) ?_
  simp only [c30, heap0, go_sem, Int.cast_ofNat_Int, Int.reduceToNat, Bool.true_xor, Bool.false_xor, Bool.xor_true, Bool.xor_false, Nat.reduceAdd, Nat.reduceBEq, Nat.reduceLeDiff, Nat.reduceLT, Nat.reduceMul, Nat.reduceSub, Int.reduceEq, Int.reduceLT, Int.reduceLE, Int.reduceNeg]
  refine loop_rule (fun i => ([(1, .lst z L f2), (2, .fn id []), (15, .lst z L f1), (16, .int .i64 L.length), (17, .int .i64 i)], ⟨[], [], 0⟩)) (fun _ => True) L.length ?_ trivial ?_
  · simp only [go_sem, Int.cast_ofNat_Int, Int.reduceToNat, Bool.true_xor, Bool.false_xor, Bool.xor_true, Bool.xor_false, Nat.reduceAdd, Nat.reduceBEq, Nat.reduceLeDiff, Nat.reduceLT, Nat.reduceMul, Nat.reduceSub, Int.reduceEq, Int.reduceLT, Int.reduceLE, Int.reduceNeg] <;> rfl
  · intro i hi hI
    rcases Nat.lt_or_ge i L.length with hlt | hge
    · obtain ⟨r, ha⟩ := get_some hlt
      have hs := w64_succ hlt hL
      have hm := List.mem_of_getElem? ha
      obtain ⟨x, rfl⟩ := hr r hm
      have hcx := hc _ hm
      simp only [List.headD_cons] at hcx
      have hz1 := hz (fun h => by subst h; simp at hlt)
      subst hz1
      simp only [go_sem, Int.cast_ofNat_Int, Int.reduceToNat, Bool.true_xor, Bool.false_xor, Bool.xor_true, Bool.xor_false, Nat.reduceAdd, Nat.reduceBEq, Nat.reduceLeDiff, Nat.reduceLT, Nat.reduceMul, Nat.reduceSub, Int.reduceEq, Int.reduceLT, Int.reduceLE, Int.reduceNeg, hlt, ha, hcx, hs]
      exact ⟨trivial, trivial, trivial⟩
    · have hlt : ¬ i < L.length := by omega
      simp only [go_sem, Int.cast_ofNat_Int, Int.reduceToNat, Bool.true_xor, Bool.false_xor, Bool.xor_true, Bool.xor_false, Nat.reduceAdd, Nat.reduceBEq, Nat.reduceLeDiff, Nat.reduceLT, Nat.reduceMul, Nat.reduceSub, Int.reduceEq, Int.reduceLT, Int.reduceLE, Int.reduceNeg, hlt]
theorem rowT_ints (at1 N P) (a k : Nat) : rowT at1 N P a k = intsS ((List.range k).map fun (b : Nat) => btw at1 N P (a : Int) (b : Int)) := by
  simp only [rowT, intsS, List.map_map]; rfl
theorem tab_eqf (n : Nat) (H : Heap) (at1 N P) (k : Nat) (hk : k ≤ 32) (hN : N.length ≤ 32) : call1 T (n + 2) (.fn 30) [.lst 1 (tabT at1 N P k) false, .lst 1 (tabT at1 N P k) false, .fn 31 []] H = some (.bool true, H) := by
  refine s30 (n + 1) 31 1 H _ false false (by rw [tabT_len]; exact Nat.le_trans hk (by decide)) (fun _ => rfl) (fun r hr => ?_) (refs_flat (tabT_refs _ _ _ _)) (fun r hr H => ?_)
  · simp only [tabT, List.mem_map] at hr
    obtain ⟨a, _, rfl⟩ := hr
    exact ⟨_, rfl⟩
  · simp only [tabT, List.mem_map] at hr
    obtain ⟨a, _, rfl⟩ := hr
    simp only [List.headD_cons, rowT_ints]
    rw [s31 n H _ _ false false (by simp only [List.length_map, List.length_range]; exact Nat.le_trans hN (by decide))]
    simp
theorem nil_eqf (n : Nat) (H : Heap) : call1 T (n + 1) (.fn 30) [.lst 0 [] true, .lst 0 [] true, .fn 31 []] H = some (.bool true, H) :=
  s30 n 31 0 H [] true true (by simp) (by simp) (by simp) (by simp [SV.refs.refsL]) (by simp)
theorem tab_eq {N : List (Int × Int)} {P : List Int} {W : List Wl} {ex no th : Int} (h : okI N P W ex no th = true) : tabT (atI W ex) N P N.length = tabT (atR W ex) N P N.length := by
  have key : ∀ a b : Nat, a < N.length → b < N.length → btw (atI W ex) N P a b = btw (atR W ex) N P a b := fun a b ha hb => (btw_eq h (inI_nat ha hb)).1
  unfold tabT rowT
  refine List.map_congr_left (fun a ha => ?_)
  have : ((List.range N.length).map fun (b : Nat) => [SV.int .i64 (btw (atI W ex) N P (a : Int) (b : Int))]) = ((List.range N.length).map fun (b : Nat) => [SV.int .i64 (btw (atR W ex) N P (a : Int) (b : Int))]) :=
    List.map_congr_left (fun b hb => by rw [key a b (List.mem_range.1 ha) (List.mem_range.1 hb)])
  rw [this]
end Go.Sh
namespace Go.Sh
set_option linter.unusedSectionVars false
set_option linter.unnecessarySimpa false
set_option linter.unusedVariables false
set_option linter.unusedSimpArgs false
set_option maxRecDepth 100000
set_option maxHeartbeats 4000000
abbrev qy (a b c d p x y : Int) : SV := .agg [.int .i64 a, .int .i64 b, .int .i64 c, .int .i64 d, .int .i64 p, .int .i64 x, .int .i64 y]
theorem s8 (N : List (Int × Int)) (P : List Int) (W : List Wl) (f1 f2 f3 : Bool) (ex no th a b c d p x y : Int) (hN : N.length ≤ maxLen) (hP : P.length ≤ maxLen) (hW : W.length ≤ maxLen) :
    call1 T 41 (.fn 8) [st N P W f1 f2 f3 ex no th, qy a b c d p x y] heap0 = some (.bool true, heap0) := by
  refine call_pure e8 (by rfl) ?_
  have h11 := s11
  have h20 := fun H => s20 39 H N P W f1 f2 f3 ex no th
  have h21 := fun H => s21 31 H N P W f1 f2 f3 ex no th a b p c d hN hP hW
  have h24 := fun H => s24 33 H N P W f1 f2 f3 ex no th a b p c d hN hW
  have h25 := fun H => s25 30 H N P W f1 f2 f3 ex no th x y hN hP hW
  have h26 := fun H => s26 33 H N P W f1 f2 f3 ex no th x y hN hW
  have h27 := fun H => s27 30 H N P W f1 f2 f3 ex no th hN hP hW
  have h28 := fun H => s28 32 H N P W f1 f2 f3 ex no th hN hW
  have h23 := fun H => s23 34 H N P W f1 f2 f3 ex no th hN hP hW
  have h29 := fun H => s29 34 H N P W f1 f2 f3 ex no th hW hN
  rw [AtV_eq] at h21
  rw [BtV_eq] at h25
  have hnil := fun H => nil_eqf 39 H
  cases hok : okI N P W ex no th with
  | false =>
    simp only [hok, cond_false] at h27 h28 h21 h24 h25 h26
    simp only [c8, heap0, go_sem, Int.cast_ofNat_Int, Int.reduceToNat, Bool.true_xor, Bool.false_xor, Bool.xor_true, Bool.xor_false, Nat.reduceAdd, Nat.reduceBEq, Nat.reduceLeDiff, Nat.reduceLT, Nat.reduceMul, Nat.reduceSub, Int.reduceEq, Int.reduceLT, Int.reduceLE, Int.reduceNeg, h11, h20]
    repeat' (with_reducible refine fork_split (fun _ => ?_) (fun _ => ?_) <;> simp only [*, go_sem, Int.cast_ofNat_Int, Int.reduceToNat, Bool.true_xor, Bool.false_xor, Bool.xor_true, Bool.xor_false, Nat.reduceAdd, Nat.reduceBEq, Nat.reduceLeDiff, Nat.reduceLT, Nat.reduceMul, Nat.reduceSub, Int.reduceEq, Int.reduceLT, Int.reduceLE, Int.reduceNeg, h21, h24, h25, h26, h27, h28, h23, h29, hnil])
  | true =>
    have hl := ok_len hok
    have htab := fun H => tab_eqf 38 H (atR W ex) N P N.length hl.2.1 hl.2.1
    simp only [hok, cond_true, tab_eq hok] at h27 h28 h21 h24 h25 h26
    simp only [c8, heap0, go_sem, Int.cast_ofNat_Int, Int.reduceToNat, Bool.true_xor, Bool.false_xor, Bool.xor_true, Bool.xor_false, Nat.reduceAdd, Nat.reduceBEq, Nat.reduceLeDiff, Nat.reduceLT, Nat.reduceMul, Nat.reduceSub, Int.reduceEq, Int.reduceLT, Int.reduceLE, Int.reduceNeg, h11, h20]
    repeat' (with_reducible refine fork_split (fun _ => ?_) (fun _ => ?_) <;> simp only [*, go_sem, Int.cast_ofNat_Int, Int.reduceToNat, Bool.true_xor, Bool.false_xor, Bool.xor_true, Bool.xor_false, Nat.reduceAdd, Nat.reduceBEq, Nat.reduceLeDiff, Nat.reduceLT, Nat.reduceMul, Nat.reduceSub, Int.reduceEq, Int.reduceLT, Int.reduceLE, Int.reduceNeg, h21, h24, h25, h26, h27, h28, h23, h29, htab])
end Go.Sh
namespace Go.Sh
set_option linter.unusedSectionVars false
set_option linter.unnecessarySimpa false
set_option linter.unusedVariables false
set_option linter.unusedSimpArgs false
set_option maxRecDepth 100000
set_option maxHeartbeats 4000000
theorem pts_of : ∀ {L : List (List SV)}, (∀ q ∈ L, FitsL [.int .i64, .int .i64] q) → ∃ N, L = ptsS N
  | [], _ => ⟨[], rfl⟩
  | r :: L, h => by
    obtain ⟨N, rfl⟩ := pts_of (L := L) (fun q hq => h q (by simp [hq]))
    have h0 := h r (by simp)
    obtain ⟨a, _, rfl, _, h0⟩ := fitsL_i h0
    obtain ⟨b, _, rfl, _, h0⟩ := fitsL_i h0
    cases fitsL_nil' h0
    exact ⟨(a, b) :: N, rfl⟩
theorem ints_of : ∀ {L : List (List SV)}, (∀ q ∈ L, FitsL [.int .i64] q) → ∃ N, L = intsS N
  | [], _ => ⟨[], rfl⟩
  | r :: L, h => by
    obtain ⟨N, rfl⟩ := ints_of (L := L) (fun q hq => h q (by simp [hq]))
    have h0 := h r (by simp)
    obtain ⟨a, _, rfl, _, h0⟩ := fitsL_i h0
    cases fitsL_nil' h0
    exact ⟨a :: N, rfl⟩
theorem wls_of : ∀ {L : List (List SV)}, (∀ q ∈ L, FitsL [.int .i64, .int .i64, .int .i64, .int .i64, .int .i64] q) → ∃ N, L = wlsS N
  | [], _ => ⟨[], rfl⟩
  | r :: L, h => by
    obtain ⟨N, rfl⟩ := wls_of (L := L) (fun q hq => h q (by simp [hq]))
    have h0 := h r (by simp)
    obtain ⟨a, _, rfl, _, h0⟩ := fitsL_i h0
    obtain ⟨b, _, rfl, _, h0⟩ := fitsL_i h0
    obtain ⟨c, _, rfl, _, h0⟩ := fitsL_i h0
    obtain ⟨d, _, rfl, _, h0⟩ := fitsL_i h0
    obtain ⟨f, _, rfl, _, h0⟩ := fitsL_i h0
    cases fitsL_nil' h0
    exact ⟨⟨a, b, c, d, f⟩ :: N, rfl⟩
abbrev siteD : Bool × List DT := (true, [.lst [.int .i64, .int .i64], .lst [.int .i64], .lst [.int .i64, .int .i64, .int .i64, .int .i64, .int .i64], .int .i64, .int .i64, .int .i64])
theorem site_of {x : SV} (h : FitsA siteD x) : ∃ N P W f1 f2 f3 ex no th, x = st N P W f1 f2 f3 ex no th ∧ N.length ≤ maxLen ∧ P.length ≤ maxLen ∧ W.length ≤ maxLen := by
  obtain ⟨cs, rfl, k⟩ := fitsA_agg h
  obtain ⟨L1, f1, _, rfl, m1, a1, k⟩ := fitsL_l k
  obtain ⟨L2, f2, _, rfl, m2, a2, k⟩ := fitsL_l k
  obtain ⟨L3, f3, _, rfl, m3, a3, k⟩ := fitsL_l k
  obtain ⟨ex, _, rfl, _, k⟩ := fitsL_i k
  obtain ⟨no, _, rfl, _, k⟩ := fitsL_i k
  obtain ⟨th, _, rfl, _, k⟩ := fitsL_i k
  cases fitsL_nil' k
  obtain ⟨N, rfl⟩ := pts_of a1
  obtain ⟨P, rfl⟩ := ints_of a2
  obtain ⟨W, rfl⟩ := wls_of a3
  exact ⟨N, P, W, f1, f2, f3, ex, no, th, rfl, by simpa [ptsS] using m1, by simpa [intsS] using m2, by simpa [wlsS] using m3⟩
theorem law8 (xs : List SV) (h : FitsAll [siteD, (true, [.int .i64, .int .i64, .int .i64, .int .i64, .int .i64, .int .i64, .int .i64])] xs) : ∃ m, call1 T m (.fn 8) xs heap0 = some (.bool true, heap0) := by
  obtain ⟨x1, r1, rfl, h1, h⟩ := fitsAll_cons h
  obtain ⟨x2, r2, rfl, h2, h⟩ := fitsAll_cons h
  cases fitsAll_nil h
  obtain ⟨N, P, W, f1, f2, f3, ex, no, th, rfl, hN, hP, hW⟩ := site_of h1
  obtain ⟨cs, rfl, k⟩ := fitsA_agg h2
  obtain ⟨a, _, rfl, _, k⟩ := fitsL_i k
  obtain ⟨b, _, rfl, _, k⟩ := fitsL_i k
  obtain ⟨c, _, rfl, _, k⟩ := fitsL_i k
  obtain ⟨d, _, rfl, _, k⟩ := fitsL_i k
  obtain ⟨p, _, rfl, _, k⟩ := fitsL_i k
  obtain ⟨x, _, rfl, _, k⟩ := fitsL_i k
  obtain ⟨y, _, rfl, _, k⟩ := fitsL_i k
  cases fitsL_nil' k
  exact ⟨41, s8 N P W f1 f2 f3 ex no th a b c d p x y hN hP hW⟩
end Go.Sh
namespace Go.Sh
set_option linter.unusedSectionVars false
set_option linter.unnecessarySimpa false
set_option linter.unusedVariables false
set_option linter.unusedSimpArgs false
set_option maxRecDepth 100000
set_option maxHeartbeats 4000000
/-- Twice the area that three points span, with its sign. -/
def D (a b c d x y : Int) : Int := (c - a) * (y - b) - (d - b) * (x - a)
def sg (n : Int) : Int := if n < 0 then -1 else if 0 < n then 1 else 0
theorem turn_sg {a b c d x y : Int} (ha : Near a) (hb : Near b) (hc : Near c) (hd : Near d) (hx : Near x) (hy : Near y) : turnI a b c d x y = sg (D a b c d x y) := by
  unfold Near at *
  have e1 : w64 (c - a) = c - a := w64_id (by omega) (by omega)
  have e2 : w64 (y - b) = y - b := w64_id (by omega) (by omega)
  have e3 : w64 (d - b) = d - b := w64_id (by omega) (by omega)
  have e4 : w64 (x - a) = x - a := w64_id (by omega) (by omega)
  have b1 := wmul (u := c - a) (v := y - b) (by omega) (by omega)
  have b2 := wmul (u := d - b) (v := x - a) (by omega) (by omega)
  unfold turnI cmpI sg D
  rw [e1, e2, e3, e4]
  generalize (c - a) * (y - b) = P at *
  generalize (d - b) * (x - a) = Q at *
  have e5 : w64 P = P := w64_id (by omega) (by omega)
  have e6 : w64 Q = Q := w64_id (by omega) (by omega)
  rw [e5, e6]
  repeat' split
  all_goals omega
theorem sg_0 (n : Int) : sg n = 0 ↔ n = 0 := by unfold sg; repeat' split
                                                <;> omega
theorem sg_opp (n m : Int) : w64 (sg n * sg m) < 0 ↔ (n < 0 ∧ 0 < m) ∨ (0 < n ∧ m < 0) := by
  have h : ∀ k, (k = -1 ∨ k = 0 ∨ k = 1) → w64 k = k := fun k hk => w64_id (by omega) (by omega)
  unfold sg
  repeat' split
  all_goals (first | (rw [h _ (by simp)]; omega) | omega)
/-- Whether a path crosses a wall, in plain words. -/
def CrN (a b c d x y z t : Int) : Prop :=
  (D a b c d x y = 0 ∧ withinI x y a b c d = true) ∨ (D a b c d z t = 0 ∧ withinI z t a b c d = true) ∨ (D x y z t a b = 0 ∧ withinI a b x y z t = true) ∨ (D x y z t c d = 0 ∧ withinI c d x y z t = true) ∨
  (((D a b c d x y < 0 ∧ 0 < D a b c d z t) ∨ (0 < D a b c d x y ∧ D a b c d z t < 0)) ∧ ((D x y z t a b < 0 ∧ 0 < D x y z t c d) ∨ (0 < D x y z t a b ∧ D x y z t c d < 0)))
theorem cross_N {a b c d x y z t : Int} (ha : Near a) (hb : Near b) (hc : Near c) (hd : Near d) (hx : Near x) (hy : Near y) (hz : Near z) (ht : Near t) : crossI a b c d x y z t = true ↔ CrN a b c d x y z t := by
  unfold crossI CrN
  simp only [on_eq, turn_sg ha hb hc hd hx hy, turn_sg ha hb hc hd hz ht, turn_sg hx hy hz ht ha hb, turn_sg hx hy hz ht hc hd, Bool.or_eq_true, Bool.and_eq_true, decide_eq_true_eq, sg_0, sg_opp]
  grind
theorem cross_eqv {a b c d x y z t a' b' c' d' x' y' z' t' : Int} (ha : Near a) (hb : Near b) (hc : Near c) (hd : Near d) (hx : Near x) (hy : Near y) (hz : Near z) (ht : Near t)
    (ha' : Near a') (hb' : Near b') (hc' : Near c') (hd' : Near d') (hx' : Near x') (hy' : Near y') (hz' : Near z') (ht' : Near t') (h : CrN a b c d x y z t ↔ CrN a' b' c' d' x' y' z' t') : crossI a b c d x y z t = crossI a' b' c' d' x' y' z' t' := by
  rw [Bool.eq_iff_iff, cross_N ha hb hc hd hx hy hz ht, cross_N ha' hb' hc' hd' hx' hy' hz' ht', h]
theorem within_swap (p q a b c d : Int) : withinI p q c d a b = withinI p q a b c d := by
  unfold withinI; rw [Int.min_comm c a, Int.max_comm c a, Int.min_comm d b, Int.max_comm d b]
theorem D_swap (a b c d x y : Int) : D c d a b x y = - D a b c d x y := by unfold D; grind
theorem D_turn (a b c d x y : Int) : D b a d c y x = - D a b c d x y := by unfold D; grind
theorem D_move (a b c d x y s r : Int) : D (a - s) (b + r) (c - s) (d + r) (x - s) (y + r) = D a b c d x y := by
  unfold D
  rw [show (c - s) - (a - s) = c - a by omega, show (y + r) - (b + r) = y - b by omega, show (d + r) - (b + r) = d - b by omega, show (x - s) - (a - s) = x - a by omega]
theorem within_turn (p q a b c d : Int) : withinI q p b a d c = withinI p q a b c d := by
  unfold withinI; rw [Bool.eq_iff_iff]; simp only [Bool.and_eq_true, decide_eq_true_eq]; omega
theorem within_move (p q a b c d s r : Int) : withinI (p - s) (q + r) (a - s) (b + r) (c - s) (d + r) = withinI p q a b c d := by
  unfold withinI; rw [Bool.eq_iff_iff]; simp only [Bool.and_eq_true, decide_eq_true_eq]; omega
theorem cr_path (a b c d x y z t : Int) : CrN c d a b x y z t ↔ CrN a b c d x y z t := by
  unfold CrN
  simp only [D_swap a b c d, within_swap _ _ a b c d]
  grind
theorem cr_wall (a b c d x y z t : Int) : CrN a b c d z t x y ↔ CrN a b c d x y z t := by
  unfold CrN
  simp only [D_swap x y z t, within_swap _ _ x y z t]
  grind
theorem cr_both (a b c d x y z t : Int) : CrN x y z t a b c d ↔ CrN a b c d x y z t := by
  unfold CrN
  grind
theorem cr_turn (a b c d x y z t : Int) : CrN b a d c y x t z ↔ CrN a b c d x y z t := by
  unfold CrN
  rw [D_turn a b c d x y, D_turn a b c d z t, D_turn x y z t a b, D_turn x y z t c d, within_turn x y a b c d, within_turn z t a b c d, within_turn a b x y z t, within_turn c d x y z t]
  grind
theorem cr_move (a b c d x y z t s r : Int) : CrN (a - s) (b + r) (c - s) (d + r) (x - s) (y + r) (z - s) (t + r) ↔ CrN a b c d x y z t := by
  unfold CrN
  simp only [D_move, within_move]
/-- Where two segments that properly cross meet: not where one lies wholly before the other. -/
theorem apart_x {s1 s2 u1 u2 a c x z M m : Int} (hid : s1 * z - s2 * x = -(u1 * c - u2 * a)) (hd : u1 - u2 = -(s1 - s2)) (h1 : (s1 < 0 ∧ 0 < s2) ∨ (0 < s1 ∧ s2 < 0)) (h2 : (u1 < 0 ∧ 0 < u2) ∨ (0 < u1 ∧ u2 < 0))
    (ha : a ≤ M) (hc : c ≤ M) (hx : m ≤ x) (hz : m ≤ z) (hM : M < m) : False := by
  rcases h1 with ⟨h1, h1'⟩ | ⟨h1, h1'⟩
  · have hu : 0 < u1 ∧ u2 < 0 := by omega
    have e1 : s2 * m ≤ s2 * x := Int.mul_le_mul_of_nonneg_left hx (by omega)
    have e2 : (-s1) * m ≤ (-s1) * z := Int.mul_le_mul_of_nonneg_left hz (by omega)
    have e3 : u1 * c ≤ u1 * M := Int.mul_le_mul_of_nonneg_left hc (by omega)
    have e4 : (-u2) * a ≤ (-u2) * M := Int.mul_le_mul_of_nonneg_left ha (by omega)
    have e5 : (s2 - s1) * M < (s2 - s1) * m := Int.mul_lt_mul_of_pos_left hM (by omega)
    have e6 : u1 - u2 = s2 - s1 := by omega
    have e7 : (u1 - u2) * M = (s2 - s1) * M := by rw [e6]
    rw [Int.sub_mul] at e5 e7
    rw [Int.sub_mul] at e5
    rw [Int.sub_mul] at e7
    rw [Int.neg_mul] at e2 e4
    rw [Int.neg_mul] at e2 e4
    omega
  · have hu : u1 < 0 ∧ 0 < u2 := by omega
    have e1 : (-s2) * m ≤ (-s2) * x := Int.mul_le_mul_of_nonneg_left hx (by omega)
    have e2 : s1 * m ≤ s1 * z := Int.mul_le_mul_of_nonneg_left hz (by omega)
    have e3 : (-u1) * c ≤ (-u1) * M := Int.mul_le_mul_of_nonneg_left hc (by omega)
    have e4 : u2 * a ≤ u2 * M := Int.mul_le_mul_of_nonneg_left ha (by omega)
    have e5 : (s1 - s2) * M < (s1 - s2) * m := Int.mul_lt_mul_of_pos_left hM (by omega)
    have e6 : u2 - u1 = s1 - s2 := by omega
    have e7 : (u2 - u1) * M = (s1 - s2) * M := by rw [e6]
    rw [Int.sub_mul] at e5 e7
    rw [Int.sub_mul] at e5
    rw [Int.sub_mul] at e7
    rw [Int.neg_mul] at e1 e3
    rw [Int.neg_mul] at e1 e3
    omega
theorem D_x (a b c d x y z t : Int) : D a b c d x y * z - D a b c d z t * x = -(D x y z t a b * c - D x y z t c d * a) := by unfold D; grind
theorem D_y (a b c d x y z t : Int) : D a b c d x y * t - D a b c d z t * y = -(D x y z t a b * d - D x y z t c d * b) := by unfold D; grind
theorem D_d (a b c d x y z t : Int) : D x y z t a b - D x y z t c d = -(D a b c d x y - D a b c d z t) := by unfold D; grind
theorem within_iff {p q a b c d : Int} : withinI p q a b c d = true ↔ min a c ≤ p ∧ p ≤ max a c ∧ min b d ≤ q ∧ q ≤ max b d := by
  unfold withinI; simp only [Bool.and_eq_true, decide_eq_true_eq]; omega
theorem cr_left {a b c d x y z t : Int} (h : max a c < min x z) : ¬ CrN a b c d x y z t := by
  unfold CrN
  simp only [within_iff]
  rintro (h1 | h1 | h1 | h1 | ⟨h1, h2⟩)
  · omega
  · omega
  · omega
  · omega
  · exact apart_x (M := max a c) (m := min x z) (D_x a b c d x y z t) (D_d a b c d x y z t) h1 h2 (by omega) (by omega) (by omega) (by omega) h
theorem cr_apart {a b c d x y z t : Int} (h : max a c < min x z ∨ max x z < min a c ∨ max b d < min y t ∨ max y t < min b d) : ¬ CrN a b c d x y z t := by
  rcases h with h | h | h | h
  · exact cr_left h
  · exact fun k => cr_left (a := x) (b := y) (c := z) (d := t) (x := a) (y := b) (z := c) (t := d) h ((cr_both a b c d x y z t).2 k)
  · exact fun k => cr_left (a := b) (b := a) (c := d) (d := c) (x := y) (y := x) (z := t) (t := z) h ((cr_turn a b c d x y z t).2 k)
  · exact fun k => cr_left (a := y) (b := x) (c := t) (d := z) (x := b) (y := a) (z := d) (t := c) h ((cr_both b a d c y x t z).2 ((cr_turn a b c d x y z t).2 k))
end Go.Sh
namespace Go.Sh
set_option linter.unusedSectionVars false
set_option linter.unnecessarySimpa false
set_option linter.unusedVariables false
set_option linter.unusedSimpArgs false
set_option maxRecDepth 100000
set_option maxHeartbeats 4000000
theorem pt_near {a b : Int} (h : pointI a b = true) : (0 ≤ a ∧ a ≤ 10000) ∧ 0 ≤ b ∧ b ≤ 10000 := by
  simp only [pointI, Bool.and_eq_true, decide_eq_true_eq] at h; omega
theorem w_two {a : Int} (h : 0 ≤ a ∧ a ≤ 10000) : w64 (2 * a) = 2 * a := w64_id (by omega) (by omega)
theorem w_sum {a b : Int} (h : 0 ≤ a ∧ a ≤ 10000) (h' : 0 ≤ b ∧ b ≤ 10000) : w64 (a + b) = a + b := w64_id (by omega) (by omega)
theorem near_of {a : Int} (h : 0 ≤ a ∧ a ≤ 10000) : Near a := by unfold Near; omega
theorem near_two {a : Int} (h : 0 ≤ a ∧ a ≤ 10000) : Near (2 * a) := by unfold Near; omega
theorem near_sum {a b : Int} (h : 0 ≤ a ∧ a ≤ 10000) (h' : 0 ≤ b ∧ b ≤ 10000) : Near (a + b) := by unfold Near; omega
theorem D_mid (a b c d : Int) : D (2 * a) (2 * b) (2 * c) (2 * d) (a + c) (b + d) = 0 := by unfold D; grind
theorem D_end (a b c d : Int) : D a b c d a b = 0 := by unfold D; grind
theorem D_end' (a b c d : Int) : D a b c d c d = 0 := by unfold D; grind
theorem in_mid (a b c d : Int) : withinI (a + c) (b + d) (2 * a) (2 * b) (2 * c) (2 * d) = true := by rw [within_iff]; omega
theorem in_end (a b c d : Int) : withinI a b a b c d = true := by rw [within_iff]; omega
theorem in_end' (a b c d : Int) : withinI c d a b c d = true := by rw [within_iff]; omega
theorem s5 (a b c d x y z t f : Int) : call1 T 41 (.fn 5) [pt a b, pt c d, wl x y z t f] heap0 = some (.bool true, heap0) := by
  refine call_pure e5 (by rfl) ?_
  have h11 := s11
  simp only [c5, heap0, go_sem, Int.cast_ofNat_Int, Int.reduceToNat, Bool.true_xor, Bool.false_xor, Bool.xor_true, Bool.xor_false, Nat.reduceAdd, Nat.reduceBEq, Nat.reduceLeDiff, Nat.reduceLT, Nat.reduceMul, Nat.reduceSub, Int.reduceEq, Int.reduceLT, Int.reduceLE, Int.reduceNeg, h11]
  refine loop_rule (fun i => ([(3, .ptr 0 0 0 0), (4, .ptr 1 0 0 0), (5, .ptr 2 0 0 0), (21, .lst 2 (ptsS [(a, b), (c, d), (x, y), (z, t)]) true), (22, .int .i64 4), (23, .int .i64 i)],
      ⟨[.box [.int .i64 a, .int .i64 b], .box [.int .i64 c, .int .i64 d], .box [.int .i64 x, .int .i64 y, .int .i64 z, .int .i64 t, .int .i64 f]], [], 0⟩))
    (fun i => ∀ (j : Nat) p, j < i → [(a, b), (c, d), (x, y), (z, t)][j]? = some p → pointI p.1 p.2 = true) 4 ?_ (fun j p h => by omega) ?_
  · simp only [go_sem, Int.cast_ofNat_Int, Int.reduceToNat, Bool.true_xor, Bool.false_xor, Bool.xor_true, Bool.xor_false, Nat.reduceAdd, Nat.reduceBEq, Nat.reduceLeDiff, Nat.reduceLT, Nat.reduceMul, Nat.reduceSub, Int.reduceEq, Int.reduceLT, Int.reduceLE, Int.reduceNeg]
    rfl
  · intro i hi hP
    rcases Nat.lt_or_ge i 4 with hlt | hge
    · obtain ⟨p, hp⟩ := get_some (l := [(a, b), (c, d), (x, y), (z, t)]) (i := i) hlt
      have hs := w64_succ hlt (by decide)
      have hlt' : ((i : Int) < 4) := by omega
      cases h1 : pointI p.1 p.2 with
      | false =>
        simp only [go_sem, Int.cast_ofNat_Int, Int.reduceToNat, Bool.true_xor, Bool.false_xor, Bool.xor_true, Bool.xor_false, Nat.reduceAdd, Nat.reduceBEq, Nat.reduceLeDiff, Nat.reduceLT, Nat.reduceMul, Nat.reduceSub, Int.reduceEq, Int.reduceLT, Int.reduceLE, Int.reduceNeg, hlt, hlt', hp, decide_true, List.length_cons, List.length_nil]
        repeat' (with_reducible refine post_fork (fun _ => ?_) (fun _ => ?_) <;> simp only [*, go_sem, Int.cast_ofNat_Int, Int.reduceToNat, Bool.true_xor, Bool.false_xor, Bool.xor_true, Bool.xor_false, Nat.reduceAdd, Nat.reduceBEq, Nat.reduceLeDiff, Nat.reduceLT, Nat.reduceMul, Nat.reduceSub, Int.reduceEq, Int.reduceLT, Int.reduceLE, Int.reduceNeg, hp])
        all_goals (exfalso; simp only [pointI, decide_eq_true_eq, decide_eq_false_iff_not, Bool.and_eq_false_imp, Bool.and_eq_true] at *; grind)
      | true =>
        have hn := pt_near h1
        have q1 : decide (p.1 < 0) = false := decide_eq_false (by omega)
        have q2 : decide (10000 < p.1) = false := decide_eq_false (by omega)
        have q3 : decide (p.2 < 0) = false := decide_eq_false (by omega)
        have q4 : decide (10000 < p.2) = false := decide_eq_false (by omega)
        simp only [go_sem, Int.cast_ofNat_Int, Int.reduceToNat, Bool.true_xor, Bool.false_xor, Bool.xor_true, Bool.xor_false, Nat.reduceAdd, Nat.reduceBEq, Nat.reduceLeDiff, Nat.reduceLT, Nat.reduceMul, Nat.reduceSub, Int.reduceEq, Int.reduceLT, Int.reduceLE, Int.reduceNeg, hlt, hlt', hp, decide_true, List.length_cons, List.length_nil, q1, q2, q3, q4, hs]
        refine ⟨trivial, rfl, fun j q hj hq => ?_⟩
        rcases Nat.lt_or_ge j i with h3 | h3
        · exact hP j q h3 hq
        · have : j = i := by omega
          subst this
          rw [hp] at hq; cases hq; exact h1
    · have hi4 : i = 4 := by omega
      subst hi4
      have ⟨na, nb⟩ := pt_near (hP 0 (a, b) (by omega) rfl)
      have ⟨nc, nd⟩ := pt_near (hP 1 (c, d) (by omega) rfl)
      have ⟨nx, ny⟩ := pt_near (hP 2 (x, y) (by omega) rfl)
      have ⟨nz, nt⟩ := pt_near (hP 3 (z, t) (by omega) rfl)
      have h1 := fun H => s15 35 H (2 * a) (2 * b) (2 * c) (2 * d) (a + c) (b + d) x y 0
      have h2 := fun H => s15 35 H (2 * a) (2 * b) (2 * c) (2 * d) z t (a + c) (b + d) 0
      have h3 := fun H => s15 35 H a b c d a b x y 0
      have h4 := fun H => s15 35 H a b c d z t c d 0
      have h5 := fun H => s15 35 H a b c d x y z t f
      have k1 : crossI (2 * a) (2 * b) (2 * c) (2 * d) (a + c) (b + d) x y = true :=
        (cross_N (near_two na) (near_two nb) (near_two nc) (near_two nd) (near_sum na nc) (near_sum nb nd) (near_of nx) (near_of ny)).2 (.inl ⟨D_mid a b c d, in_mid a b c d⟩)
      have k2 : crossI (2 * a) (2 * b) (2 * c) (2 * d) z t (a + c) (b + d) = true :=
        (cross_N (near_two na) (near_two nb) (near_two nc) (near_two nd) (near_of nz) (near_of nt) (near_sum na nc) (near_sum nb nd)).2 (.inr (.inl ⟨D_mid a b c d, in_mid a b c d⟩))
      have k3 : crossI a b c d a b x y = true := (cross_N (near_of na) (near_of nb) (near_of nc) (near_of nd) (near_of na) (near_of nb) (near_of nx) (near_of ny)).2 (.inl ⟨D_end a b c d, in_end a b c d⟩)
      have k4 : crossI a b c d z t c d = true := (cross_N (near_of na) (near_of nb) (near_of nc) (near_of nd) (near_of nz) (near_of nt) (near_of nc) (near_of nd)).2 (.inr (.inl ⟨D_end' a b c d, in_end' a b c d⟩))
      have k5 : max a c < min x z ∨ max x z < min a c ∨ max b d < min y t ∨ max y t < min b d → crossI a b c d x y z t = false := fun h => by
        cases hc : crossI a b c d x y z t with
        | false => rfl
        | true => exact absurd ((cross_N (near_of na) (near_of nb) (near_of nc) (near_of nd) (near_of nx) (near_of ny) (near_of nz) (near_of nt)).1 hc) (cr_apart h)
      simp only [k1] at h1
      simp only [k2] at h2
      simp only [k3] at h3
      simp only [k4] at h4
      simp only [go_sem, Int.cast_ofNat_Int, Int.reduceToNat, Bool.true_xor, Bool.false_xor, Bool.xor_true, Bool.xor_false, Nat.reduceAdd, Nat.reduceBEq, Nat.reduceLeDiff, Nat.reduceLT, Nat.reduceMul, Nat.reduceSub, Int.reduceEq, Int.reduceLT, Int.reduceLE, Int.reduceNeg, Int.lt_irrefl, decide_false, w_two na, w_two nb, w_two nc, w_two nd, w_sum na nc, w_sum nb nd, h1, h2, h3, h4, h5]
      repeat' (with_reducible refine fork_split (fun _ => ?_) (fun _ => ?_) <;> simp only [*, go_sem, Int.cast_ofNat_Int, Int.reduceToNat, Bool.true_xor, Bool.false_xor, Bool.xor_true, Bool.xor_false, Nat.reduceAdd, Nat.reduceBEq, Nat.reduceLeDiff, Nat.reduceLT, Nat.reduceMul, Nat.reduceSub, Int.reduceEq, Int.reduceLT, Int.reduceLE, Int.reduceNeg, h5])
      all_goals
        clear h1 h2 h3 h4 h5 h11
        simp only [decide_eq_true_eq, decide_eq_false_iff_not, Bool.false_eq_true] at *
        refine congrArg some (congrArg SV.bool ?_)
        simp only [Bool.not_eq_true', k5 (by simp_all)] <;> simp_all
end Go.Sh
namespace Go.Sh
set_option linter.unusedSectionVars false
set_option linter.unnecessarySimpa false
set_option linter.unusedVariables false
set_option linter.unusedSimpArgs false
set_option maxRecDepth 100000
set_option maxHeartbeats 4000000
theorem law5 (xs : List SV) (h : FitsAll [(true, [.int .i64, .int .i64]), (true, [.int .i64, .int .i64]), (true, [.int .i64, .int .i64, .int .i64, .int .i64, .int .i64])] xs) : ∃ m, call1 T m (.fn 5) xs heap0 = some (.bool true, heap0) := by
  obtain ⟨x1, r1, rfl, h1, h⟩ := fitsAll_cons h
  obtain ⟨x2, r2, rfl, h2, h⟩ := fitsAll_cons h
  obtain ⟨x3, r3, rfl, h3, h⟩ := fitsAll_cons h
  cases fitsAll_nil h
  obtain ⟨c1, rfl, k1⟩ := fitsA_agg h1
  obtain ⟨c2, rfl, k2⟩ := fitsA_agg h2
  obtain ⟨c3, rfl, k3⟩ := fitsA_agg h3
  obtain ⟨a, _, rfl, _, k1⟩ := fitsL_i k1
  obtain ⟨b, _, rfl, _, k1⟩ := fitsL_i k1
  cases fitsL_nil' k1
  obtain ⟨c, _, rfl, _, k2⟩ := fitsL_i k2
  obtain ⟨d, _, rfl, _, k2⟩ := fitsL_i k2
  cases fitsL_nil' k2
  obtain ⟨x, _, rfl, _, k3⟩ := fitsL_i k3
  obtain ⟨y, _, rfl, _, k3⟩ := fitsL_i k3
  obtain ⟨z, _, rfl, _, k3⟩ := fitsL_i k3
  obtain ⟨t, _, rfl, _, k3⟩ := fitsL_i k3
  obtain ⟨f, _, rfl, _, k3⟩ := fitsL_i k3
  cases fitsL_nil' k3
  exact ⟨41, s5 a b c d x y z t f⟩
theorem s17 (n : Nat) (X0 X1 X3 X4 : SBlk) (r : Nat) (hr : r ≤ 5) (a b sx sy : Int) : call1 T (n + 1) (.fn 17) [pt a b, .ptr 2 0 0 0] ⟨[X0, X1, .box [.int .i64 sx, .int .i64 sy], X3, X4], [], r⟩ =
    some (pt (w64 (a - sx)) (w64 (b + sy)), ⟨[X0, X1, .box [.int .i64 sx, .int .i64 sy], X3, X4], [], r⟩) := by
  refine call_in e17 (by rfl) ?_
  have q1 : min r 5 = r := by omega
  have q2 : r ≤ 6 := by omega
  simp only [c17, go_sem, Int.cast_ofNat_Int, Int.reduceToNat, Bool.true_xor, Bool.false_xor, Bool.xor_true, Bool.xor_false, Nat.reduceAdd, Nat.reduceBEq, Nat.reduceLeDiff, Nat.reduceLT, Nat.reduceMul, Nat.reduceSub, Int.reduceEq, Int.reduceLT, Int.reduceLE, Int.reduceNeg, q1, q2, List.length_cons, List.length_nil, decide_true]
theorem s18 (n : Nat) (H : Heap) (a b : Int) : call1 T (n + 1) (.fn 18) [pt a b] H = some (pt b a, H) := by
  refine call_pure e18 (by rfl) ?_
  simp only [c18, heap0, go_sem, Int.cast_ofNat_Int, Int.reduceToNat, Bool.true_xor, Bool.false_xor, Bool.xor_true, Bool.xor_false, Nat.reduceAdd, Nat.reduceBEq, Nat.reduceLeDiff, Nat.reduceLT, Nat.reduceMul, Nat.reduceSub, Int.reduceEq, Int.reduceLT, Int.reduceLE, Int.reduceNeg]
theorem s19 (n : Nat) (X0 X2 X3 X4 : SBlk) (r : Nat) (hr : r ≤ 5) (a b c d w1 w2 w3 w4 f : Int) : call1 T (n + 1) (.fn 19) [pt a b, pt c d, .ptr 1 0 0 0] ⟨[X0, .box [.int .i64 w1, .int .i64 w2, .int .i64 w3, .int .i64 w4, .int .i64 f], X2, X3, X4], [], r⟩ =
    some (wl a b c d f, ⟨[X0, .box [.int .i64 w1, .int .i64 w2, .int .i64 w3, .int .i64 w4, .int .i64 f], X2, X3, X4], [], r⟩) := by
  refine call_in e19 (by rfl) ?_
  have q1 : min r 5 = r := by omega
  have q2 : r ≤ 7 := by omega
  simp only [c19, go_sem, Int.cast_ofNat_Int, Int.reduceToNat, Bool.true_xor, Bool.false_xor, Bool.xor_true, Bool.xor_false, Nat.reduceAdd, Nat.reduceBEq, Nat.reduceLeDiff, Nat.reduceLT, Nat.reduceMul, Nat.reduceSub, Int.reduceEq, Int.reduceLT, Int.reduceLE, Int.reduceNeg, q1, q2, List.length_cons, List.length_nil, decide_true]
end Go.Sh
namespace Go.Sh
set_option linter.unusedSectionVars false
set_option linter.unnecessarySimpa false
set_option linter.unusedVariables false
set_option linter.unusedSimpArgs false
set_option maxRecDepth 100000
set_option maxHeartbeats 4000000
theorem sq_id {a b c d : Int} (ha : Near a) (hb : Near b) (hc : Near c) (hd : Near d) : sqI a b c d = (a - c) * (a - c) + (b - d) * (b - d) := by
  unfold Near at *
  have e1 : w64 (a - c) = a - c := w64_id (by omega) (by omega)
  have e2 : w64 (b - d) = b - d := w64_id (by omega) (by omega)
  have b1 := wmul (u := a - c) (v := a - c) (by omega) (by omega)
  have b2 := wmul (u := b - d) (v := b - d) (by omega) (by omega)
  unfold sqI
  rw [e1, e2]
  generalize (a - c) * (a - c) = P at *
  generalize (b - d) * (b - d) = Q at *
  have e5 : w64 P = P := w64_id (by omega) (by omega)
  have e6 : w64 Q = Q := w64_id (by omega) (by omega)
  have e7 : w64 (P + Q) = P + Q := w64_id (by omega) (by omega)
  rw [e5, e6, e7]
theorem sq_nn (u : Int) : 0 ≤ u * u := by
  rcases Int.le_total 0 u with h | h
  · exact Int.mul_nonneg h h
  · exact Int.mul_nonneg_of_nonpos_of_nonpos h h
theorem sq_zero {u : Int} (h : u * u = 0) : u = 0 := by
  rcases Int.mul_eq_zero.1 h with h | h <;> exact h
theorem sq_iff {a b c d : Int} (ha : Near a) (hb : Near b) (hc : Near c) (hd : Near d) : decide (sqI a b c d = 0) = (decide (a = c) && decide (b = d)) := by
  rw [sq_id ha hb hc hd, Bool.eq_iff_iff]
  simp only [decide_eq_true_eq, Bool.and_eq_true]
  have h1 := sq_nn (a - c)
  have h2 := sq_nn (b - d)
  constructor
  · intro h
    have g1 := sq_zero (u := a - c) (by omega)
    have g2 := sq_zero (u := b - d) (by omega)
    omega
  · rintro ⟨rfl, rfl⟩; simp
theorem sq_pos {a b c d : Int} (ha : Near a) (hb : Near b) (hc : Near c) (hd : Near d) : decide (sqI a b c d < 0) = false := by
  rw [sq_id ha hb hc hd, decide_eq_false_iff_not]
  have h1 := sq_nn (a - c)
  have h2 := sq_nn (b - d)
  omega
theorem w_mv {a s : Int} (h : 0 ≤ a ∧ a ≤ 10000) (h' : 0 ≤ s ∧ s ≤ 10000) : w64 (a - s) = a - s := w64_id (by omega) (by omega)
theorem near_mv {a s : Int} (h : 0 ≤ a ∧ a ≤ 10000) (h' : 0 ≤ s ∧ s ≤ 10000) : Near (a - s) := by unfold Near; omega
theorem s4 (a b c d x y z t f s r : Int) : call1 T 41 (.fn 4) [.agg [.int .i64 a, .int .i64 b, .int .i64 c, .int .i64 d], wl x y z t f, pt s r] heap0 = some (.bool true, heap0) := by
  refine call_pure e4 (by rfl) ?_
  have h11 := s11
  simp only [c4, heap0, go_sem, Int.cast_ofNat_Int, Int.reduceToNat, Bool.true_xor, Bool.false_xor, Bool.xor_true, Bool.xor_false, Nat.reduceAdd, Nat.reduceBEq, Nat.reduceLeDiff, Nat.reduceLT, Nat.reduceMul, Nat.reduceSub, Int.reduceEq, Int.reduceLT, Int.reduceLE, Int.reduceNeg, h11]
  refine loop_rule (fun i => ([(4, .ptr 1 0 0 0), (5, .ptr 2 0 0 0), (6, .bool false), (7, .ptr 3 0 0 0), (8, .ptr 4 0 0 0), (29, .lst 2 (ptsS [(a, b), (c, d), (x, y), (z, t), (s, r)]) true), (30, .int .i64 5), (31, .int .i64 i)],
      ⟨[.box [.int .i64 a, .int .i64 b, .int .i64 c, .int .i64 d], .box [.int .i64 x, .int .i64 y, .int .i64 z, .int .i64 t, .int .i64 f], .box [.int .i64 s, .int .i64 r], .box [.int .i64 a, .int .i64 b], .box [.int .i64 c, .int .i64 d]], [], 0⟩))
    (fun i => ∀ (j : Nat) p, j < i → [(a, b), (c, d), (x, y), (z, t), (s, r)][j]? = some p → pointI p.1 p.2 = true) 5 ?_ (fun j p h => by omega) ?_
  · simp only [go_sem, Int.cast_ofNat_Int, Int.reduceToNat, Bool.true_xor, Bool.false_xor, Bool.xor_true, Bool.xor_false, Nat.reduceAdd, Nat.reduceBEq, Nat.reduceLeDiff, Nat.reduceLT, Nat.reduceMul, Nat.reduceSub, Int.reduceEq, Int.reduceLT, Int.reduceLE, Int.reduceNeg]
    rfl
  · intro i hi hP
    rcases Nat.lt_or_ge i 5 with hlt | hge
    · obtain ⟨p, hp⟩ := get_some (l := [(a, b), (c, d), (x, y), (z, t), (s, r)]) (i := i) hlt
      have hs := w64_succ hlt (by decide)
      have hlt' : ((i : Int) < 5) := by omega
      cases h1 : pointI p.1 p.2 with
      | false =>
        simp only [go_sem, Int.cast_ofNat_Int, Int.reduceToNat, Bool.true_xor, Bool.false_xor, Bool.xor_true, Bool.xor_false, Nat.reduceAdd, Nat.reduceBEq, Nat.reduceLeDiff, Nat.reduceLT, Nat.reduceMul, Nat.reduceSub, Int.reduceEq, Int.reduceLT, Int.reduceLE, Int.reduceNeg, hlt, hlt', hp, decide_true, List.length_cons, List.length_nil]
        repeat' (with_reducible refine post_fork (fun _ => ?_) (fun _ => ?_) <;> simp only [*, go_sem, Int.cast_ofNat_Int, Int.reduceToNat, Bool.true_xor, Bool.false_xor, Bool.xor_true, Bool.xor_false, Nat.reduceAdd, Nat.reduceBEq, Nat.reduceLeDiff, Nat.reduceLT, Nat.reduceMul, Nat.reduceSub, Int.reduceEq, Int.reduceLT, Int.reduceLE, Int.reduceNeg, hp])
        all_goals (exfalso; simp only [pointI, decide_eq_true_eq, decide_eq_false_iff_not, Bool.and_eq_false_imp, Bool.and_eq_true] at *; grind)
      | true =>
        have hn := pt_near h1
        have q1 : decide (p.1 < 0) = false := decide_eq_false (by omega)
        have q2 : decide (10000 < p.1) = false := decide_eq_false (by omega)
        have q3 : decide (p.2 < 0) = false := decide_eq_false (by omega)
        have q4 : decide (10000 < p.2) = false := decide_eq_false (by omega)
        simp only [go_sem, Int.cast_ofNat_Int, Int.reduceToNat, Bool.true_xor, Bool.false_xor, Bool.xor_true, Bool.xor_false, Nat.reduceAdd, Nat.reduceBEq, Nat.reduceLeDiff, Nat.reduceLT, Nat.reduceMul, Nat.reduceSub, Int.reduceEq, Int.reduceLT, Int.reduceLE, Int.reduceNeg, hlt, hlt', hp, decide_true, List.length_cons, List.length_nil, q1, q2, q3, q4, hs]
        refine ⟨trivial, rfl, fun j q hj hq => ?_⟩
        rcases Nat.lt_or_ge j i with h3 | h3
        · exact hP j q h3 hq
        · have : j = i := by omega
          subst this
          rw [hp] at hq; cases hq; exact h1
    · have hi4 : i = 5 := by omega
      subst hi4
      have ⟨na, nb⟩ : (0 ≤ a ∧ a ≤ 10000) ∧ (0 ≤ b ∧ b ≤ 10000) := pt_near (hP 0 (a, b) (by omega) rfl)
      have ⟨nc, nd⟩ : (0 ≤ c ∧ c ≤ 10000) ∧ (0 ≤ d ∧ d ≤ 10000) := pt_near (hP 1 (c, d) (by omega) rfl)
      have ⟨nx, ny⟩ : (0 ≤ x ∧ x ≤ 10000) ∧ (0 ≤ y ∧ y ≤ 10000) := pt_near (hP 2 (x, y) (by omega) rfl)
      have ⟨nz, nt⟩ : (0 ≤ z ∧ z ≤ 10000) ∧ (0 ≤ t ∧ t ≤ 10000) := pt_near (hP 3 (z, t) (by omega) rfl)
      have ⟨ns, nr⟩ : (0 ≤ s ∧ s ≤ 10000) ∧ (0 ≤ r ∧ r ≤ 10000) := pt_near (hP 4 (s, r) (by omega) rfl)
      clear hP
      have Na := near_of na
      have Nb := near_of nb
      have Nc := near_of nc
      have Nd := near_of nd
      have Nx := near_of nx
      have Ny := near_of ny
      have Nz := near_of nz
      have Nt := near_of nt
      have Ma := near_mv na ns
      have Mb := near_sum nb nr
      have Mc := near_mv nc ns
      have Md := near_sum nd nr
      have Mx := near_mv nx ns
      have My := near_sum ny nr
      have Mz := near_mv nz ns
      have Mt := near_sum nt nr
      have q0 := sq_pos Na Nb Nc Nd
      have q1 := sq_iff Na Nb Nc Nd
      have q2 : sqI c d a b = sqI a b c d := by rw [sq_id Na Nb Nc Nd, sq_id Nc Nd Na Nb]; grind
      have q3 : sqI (a - s) (b + r) (c - s) (d + r) = sqI a b c d := by rw [sq_id Na Nb Nc Nd, sq_id Ma Mb Mc Md]; grind
      have q4 : sqI b a d c = sqI a b c d := by rw [sq_id Na Nb Nc Nd, sq_id Nb Na Nd Nc]; grind
      have k2 : crossI c d a b x y z t = crossI a b c d x y z t := cross_eqv Nc Nd Na Nb Nx Ny Nz Nt Na Nb Nc Nd Nx Ny Nz Nt (cr_path a b c d x y z t)
      have k3 : crossI a b c d z t x y = crossI a b c d x y z t := cross_eqv Na Nb Nc Nd Nz Nt Nx Ny Na Nb Nc Nd Nx Ny Nz Nt (cr_wall a b c d x y z t)
      have k4 : crossI x y z t a b c d = crossI a b c d x y z t := cross_eqv Nx Ny Nz Nt Na Nb Nc Nd Na Nb Nc Nd Nx Ny Nz Nt (cr_both a b c d x y z t)
      have k5 : crossI (a - s) (b + r) (c - s) (d + r) (x - s) (y + r) (z - s) (t + r) = crossI a b c d x y z t := cross_eqv Ma Mb Mc Md Mx My Mz Mt Na Nb Nc Nd Nx Ny Nz Nt (cr_move a b c d x y z t s r)
      have k6 : crossI b a d c y x t z = crossI a b c d x y z t := cross_eqv Nb Na Nd Nc Ny Nx Nt Nz Na Nb Nc Nd Nx Ny Nz Nt (cr_turn a b c d x y z t)
      have h13 := fun H a b c d => s13 39 H a b c d
      have h15 := fun H a b c d x y z t => s15 35 H a b c d x y z t f
      simp only [sqI_eq] at h13
      have h17 := fun X0 X1 X3 X4 a b => s17 39 X0 X1 X3 X4 0 (by omega) a b s r
      have h17' := fun X0 X1 X3 X4 a b => s17 39 X0 X1 X3 X4 5 (by omega) a b s r
      have h18 := fun H a b => s18 39 H a b
      have h19 := fun X0 X2 X3 X4 a b c d => s19 39 X0 X2 X3 X4 0 (by omega) a b c d x y z t f
      have h19' := fun X0 X2 X3 X4 a b c d => s19 39 X0 X2 X3 X4 5 (by omega) a b c d x y z t f
      have w1 := w_mv na ns
      have w2 := w_sum nb nr
      have w3 := w_mv nc ns
      have w4 := w_sum nd nr
      have w5 := w_mv nx ns
      have w6 := w_sum ny nr
      have w7 := w_mv nz ns
      have w8 := w_sum nt nr
      simp only [go_sem, Int.cast_ofNat_Int, Int.reduceToNat, Bool.true_xor, Bool.false_xor, Bool.xor_true, Bool.xor_false, Nat.reduceAdd, Nat.reduceBEq, Nat.reduceLeDiff, Nat.reduceLT, Nat.reduceMul, Nat.reduceSub, Int.reduceEq, Int.reduceLT, Int.reduceLE, Int.reduceNeg, Int.lt_irrefl, decide_false, h13, h15, h17, h17', h18, h19, h19', w1, w2, w3, w4, w5, w6, w7, w8, q0, q1, q2, q3, q4, k2, k3, k4, k5, k6, bne_self_eq_false, Bool.not_true, beq_self_eq_true, decide_true]
      repeat' (with_reducible refine fork_split (fun _ => ?_) (fun _ => ?_) <;> simp only [*, go_sem, Int.cast_ofNat_Int, Int.reduceToNat, Bool.true_xor, Bool.false_xor, Bool.xor_true, Bool.xor_false, Nat.reduceAdd, Nat.reduceBEq, Nat.reduceLeDiff, Nat.reduceLT, Nat.reduceMul, Nat.reduceSub, Int.reduceEq, Int.reduceLT, Int.reduceLE, Int.reduceNeg, h13, h15, h17, h17', h18, h19, h19', w1, w2, w3, w4, w5, w6, w7, w8, q0, q1, q2, q3, q4, k2, k3, k4, k5, k6, bne_self_eq_false, Bool.not_true, beq_self_eq_true, decide_true])
theorem law4 (xs : List SV) (h : FitsAll [(true, [.int .i64, .int .i64, .int .i64, .int .i64]), (true, [.int .i64, .int .i64, .int .i64, .int .i64, .int .i64]), (true, [.int .i64, .int .i64])] xs) : ∃ m, call1 T m (.fn 4) xs heap0 = some (.bool true, heap0) := by
  obtain ⟨x1, r1, rfl, h1, h⟩ := fitsAll_cons h
  obtain ⟨x2, r2, rfl, h2, h⟩ := fitsAll_cons h
  obtain ⟨x3, r3, rfl, h3, h⟩ := fitsAll_cons h
  cases fitsAll_nil h
  obtain ⟨c1, rfl, k1⟩ := fitsA_agg h1
  obtain ⟨c2, rfl, k2⟩ := fitsA_agg h3
  obtain ⟨c3, rfl, k3⟩ := fitsA_agg h2
  obtain ⟨a, _, rfl, _, k1⟩ := fitsL_i k1
  obtain ⟨b, _, rfl, _, k1⟩ := fitsL_i k1
  obtain ⟨c, _, rfl, _, k1⟩ := fitsL_i k1
  obtain ⟨d, _, rfl, _, k1⟩ := fitsL_i k1
  cases fitsL_nil' k1
  obtain ⟨s, _, rfl, _, k2⟩ := fitsL_i k2
  obtain ⟨r, _, rfl, _, k2⟩ := fitsL_i k2
  cases fitsL_nil' k2
  obtain ⟨x, _, rfl, _, k3⟩ := fitsL_i k3
  obtain ⟨y, _, rfl, _, k3⟩ := fitsL_i k3
  obtain ⟨z, _, rfl, _, k3⟩ := fitsL_i k3
  obtain ⟨t, _, rfl, _, k3⟩ := fitsL_i k3
  obtain ⟨f, _, rfl, _, k3⟩ := fitsL_i k3
  cases fitsL_nil' k3
  exact ⟨41, s4 a b c d x y z t f s r⟩
end Go.Sh
