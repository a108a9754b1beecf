

import Derived.Test.YteohbocjhfcbdaaC1
namespace Go.Sh
set_option linter.unusedSectionVars false
set_option linter.unnecessarySimpa false
set_option linter.unusedVariables false
set_option linter.unusedSimpArgs false
set_option maxRecDepth 100000
set_option maxHeartbeats 4000000
theorem inI_nat {N : List (Int × Int)} {i j : Nat} (hi : i < N.length) (hj : j < N.length) : inI N i j = true := by
  rw [inI_iff]; omega
theorem s28 (n : Nat) (H : Heap) (N : List (Int × Int)) (P : List Int) (W f1 f2 f3 ex no th) (hN : N.length ≤ maxLen) (hW : W.length ≤ maxLen) :
    call1 T (n + 8) (.fn 28) [st N P W f1 f2 f3 ex no th] H = some (bif okI N P W ex no th then .tup [.lst 1 (tabT (atR W ex) N P N.length) false, .int .i64 0] else .tup [.lst 0 [] true, .int .i64 1], H) := by
  refine call_pure e28 (by rfl) ?_
  have h29 := fun H => s29 (n + 1) H N P W f1 f2 f3 ex no th hW hN
  cases hok : okI N P W ex no th with
  | false => simp only [c28, heap0, go_sem, Int.cast_ofNat_Int, Int.reduceToNat, Nat.reduceAdd, Nat.reduceBEq, Nat.reduceLeDiff, Nat.reduceLT, Nat.reduceMul, Nat.reduceSub, Int.reduceEq, Int.reduceLT, Int.reduceLE, Int.reduceNeg, h29, hok, chk_no hok]
  | true =>
    have hl := ok_len hok
    simp only [c28, heap0, go_sem, Int.cast_ofNat_Int, Int.reduceToNat, Nat.reduceAdd, Nat.reduceBEq, Nat.reduceLeDiff, Nat.reduceLT, Nat.reduceMul, Nat.reduceSub, Int.reduceEq, Int.reduceLT, Int.reduceLE, Int.reduceNeg, h29, hok, chk_yes hok]
    refine loop_rule (fun i => ([(1, .ptr 0 0 0 0), (4, .slc 1 i 0 i), (5, .int .i64 i)], ⟨[.box [.lst 2 (ptsS N) f1, .lst 1 (intsS P) f2, .lst 5 (wlsS W) f3, .int .i64 ex, .int .i64 no, .int .i64 th], .arr i 1 (tabT (atR W ex) N P i) false], [], 0⟩)) (fun _ => True) N.length ?_ trivial ?_
    · simp only [go_sem, Int.cast_ofNat_Int, Int.reduceToNat, Nat.reduceAdd, Nat.reduceBEq, Nat.reduceLeDiff, Nat.reduceLT, Nat.reduceMul, Nat.reduceSub, Int.reduceEq, Int.reduceLT, Int.reduceLE, Int.reduceNeg] <;> rfl
    · intro i hi _
      rcases Nat.lt_or_ge i N.length with hlt | hge
      · have hs := w64_succ hlt hN
        simp only [go_sem, Int.cast_ofNat_Int, Int.reduceToNat, Nat.reduceAdd, Nat.reduceBEq, Nat.reduceLeDiff, Nat.reduceLT, Nat.reduceMul, Nat.reduceSub, Int.reduceEq, Int.reduceLT, Int.reduceLE, Int.reduceNeg, hlt]
        refine loop_post (fun j => ([(1, .ptr 0 0 0 0), (4, .slc 1 i 0 i), (5, .int .i64 i), (6, .slc 2 j 0 j), (7, .int .i64 j)], ⟨[.box [.lst 2 (ptsS N) f1, .lst 1 (intsS P) f2, .lst 5 (wlsS W) f3, .int .i64 ex, .int .i64 no, .int .i64 th], .arr i 1 (tabT (atR W ex) N P i) false, .arr j 1 (rowT (atR W ex) N P i j) false], [], 0⟩)) (fun _ => True) N.length ?_ trivial ?_
        · simp only [go_sem, Int.cast_ofNat_Int, Int.reduceToNat, Nat.reduceAdd, Nat.reduceBEq, Nat.reduceLeDiff, Nat.reduceLT, Nat.reduceMul, Nat.reduceSub, Int.reduceEq, Int.reduceLT, Int.reduceLE, Int.reduceNeg] <;> rfl
        · intro j hj _
          rcases Nat.lt_or_ge j N.length with hlt2 | hge2
          · have hs2 := w64_succ hlt2 hN
            have h26 := fun H => s26 n H N P W f1 f2 f3 ex no th i j hN hW
            simp only [hok, inI_nat hlt hlt2, AtV, AtE, Bool.and_self, cond_true] at h26
            simp only [go_sem, Int.cast_ofNat_Int, Int.reduceToNat, Nat.reduceAdd, Nat.reduceBEq, Nat.reduceLeDiff, Nat.reduceLT, Nat.reduceMul, Nat.reduceSub, Int.reduceEq, Int.reduceLT, Int.reduceLE, Int.reduceNeg, hlt2, h26, apB_grow _ _ _ _ _ _ _ (rowT_len (at1 := atR W ex) (N := N) (P := P) (a := i) (k := j)), (room (n := j) (by omega)).1, hs2, ← rowT_succ]
            exact ⟨trivial, rfl, trivial⟩
          · have hlt2 : ¬ j < N.length := by omega
            have hj' : j = N.length := by omega
            subst hj'
            have hfr := fun H => fTB_whole H 2 N.length N.length 1 (rowT (atR W ex) N P i N.length) false rowT_len (refs_flat (rowT_refs _ _ _ _ _))
            simp only [go_sem, Int.cast_ofNat_Int, Int.reduceToNat, Nat.reduceAdd, Nat.reduceBEq, Nat.reduceLeDiff, Nat.reduceLT, Nat.reduceMul, Nat.reduceSub, Int.reduceEq, Int.reduceLT, Int.reduceLE, Int.reduceNeg, hlt2, hfr, apB_grow _ _ _ _ _ _ _ (tabT_len (at1 := atR W ex) (N := N) (P := P) (k := i)), (room (n := i) (by omega)).2, hs, ← tabT_succ]
            exact ⟨by first | trivial | exact hlt, rfl, trivial⟩
      · have hlt : ¬ i < N.length := by omega
        have hi' : i = N.length := by omega
        subst hi'
        have hfz := fun H v => fzB_whole 0 H 6 v N.length 1 (tabT (atR W ex) N P N.length) false tabT_len (tabT_frz _ _ _ _ _ _ _) (tabT_refs _ _ _ _)
        simp only [go_sem, Int.cast_ofNat_Int, Int.reduceToNat, Nat.reduceAdd, Nat.reduceBEq, Nat.reduceLeDiff, Nat.reduceLT, Nat.reduceMul, Nat.reduceSub, Int.reduceEq, Int.reduceLT, Int.reduceLE, Int.reduceNeg, hlt, hfz]
/-- Two slices of integers: the same? -/
theorem s31 (n : Nat) (H : Heap) (L M : List Int) (f1 f2 : Bool) (hL : L.length ≤ maxLen) : call1 T (n + 1) (.fn 31) [.lst 1 (intsS L) f1, .lst 1 (intsS M) f2] H = some (.bool (decide (L = M)), H) := by
  refine call_pure e31 (by rfl) ?_
  simp only [c31, heap0, go_sem, Int.cast_ofNat_Int, Int.reduceToNat, Nat.reduceAdd, Nat.reduceBEq, Nat.reduceLeDiff, Nat.reduceLT, Nat.reduceMul, Nat.reduceSub, Int.reduceEq, Int.reduceLT, Int.reduceLE, Int.reduceNeg]
  with_reducible refine fork_split (fun hne => ?_) (fun hne => ?_)
  rotate_left
  · have : L ≠ M := fun h => by subst h; simp at hne
    simp only [go_sem, Int.cast_ofNat_Int, Int.reduceToNat, Nat.reduceAdd, Nat.reduceBEq, Nat.reduceLeDiff, Nat.reduceLT, Nat.reduceMul, Nat.reduceSub, Int.reduceEq, Int.reduceLT, Int.reduceLE, Int.reduceNeg, decide_eq_false this]
  · have hlen : L.length = M.length := by simp only [decide_eq_true_eq] at hne; omega
    simp only [go_sem, Int.cast_ofNat_Int, Int.reduceToNat, Nat.reduceAdd, Nat.reduceBEq, Nat.reduceLeDiff, Nat.reduceLT, Nat.reduceMul, Nat.reduceSub, Int.reduceEq, Int.reduceLT, Int.reduceLE, Int.reduceNeg]
    refine loop_rule (fun i => ([(0, .lst 1 (intsS L) f1), (1, .lst 1 (intsS M) f2), (12, .int .i64 L.length), (13, .int .i64 i)], ⟨[], [], 0⟩)) (fun i => ∀ j : Nat, j < i → L[j]? = M[j]?) L.length ?_ (fun j h => by omega) ?_
    · simp only [go_sem, Int.cast_ofNat_Int, Int.reduceToNat, Nat.reduceAdd, Nat.reduceBEq, Nat.reduceLeDiff, Nat.reduceLT, Nat.reduceMul, Nat.reduceSub, Int.reduceEq, Int.reduceLT, Int.reduceLE, Int.reduceNeg] <;> rfl
    · intro i hi hI
      rcases Nat.lt_or_ge i L.length with hlt | hge
      · obtain ⟨a, ha⟩ := get_some hlt
        have hlt2 : i < M.length := by omega
        obtain ⟨b, hb⟩ := get_some hlt2
        have hs := w64_succ hlt hL
        simp only [go_sem, Int.cast_ofNat_Int, Int.reduceToNat, Nat.reduceAdd, Nat.reduceBEq, Nat.reduceLeDiff, Nat.reduceLT, Nat.reduceMul, Nat.reduceSub, Int.reduceEq, Int.reduceLT, Int.reduceLE, Int.reduceNeg, hlt, hlt2, ha, hb]
        with_reducible refine post_fork (fun hab => ?_) (fun hab => ?_)
        rotate_left
        · have hab : a ≠ b := by simpa using hab
          have : L ≠ M := fun h => by subst h; rw [ha] at hb; cases hb; exact hab rfl
          simp only [go_sem, Int.cast_ofNat_Int, Int.reduceToNat, Nat.reduceAdd, Nat.reduceBEq, Nat.reduceLeDiff, Nat.reduceLT, Nat.reduceMul, Nat.reduceSub, Int.reduceEq, Int.reduceLT, Int.reduceLE, Int.reduceNeg, decide_eq_false this]
        · have hab : a = b := by simpa using hab
          simp only [go_sem, Int.cast_ofNat_Int, Int.reduceToNat, Nat.reduceAdd, Nat.reduceBEq, Nat.reduceLeDiff, Nat.reduceLT, Nat.reduceMul, Nat.reduceSub, Int.reduceEq, Int.reduceLT, Int.reduceLE, Int.reduceNeg, hlt, hs]
          refine ⟨trivial, trivial, fun j hj => ?_⟩
          rcases Nat.lt_or_ge j i with h3 | h3
          · exact hI j h3
          · have : j = i := by omega
            subst this
            rw [ha, hb, hab]
      · have hlt : ¬ i < L.length := by omega
        have : L = M := List.ext_getElem? (fun j => by
          rcases Nat.lt_or_ge j L.length with h3 | h3
          · exact hI j (by omega)
          · rw [List.getElem?_eq_none h3, List.getElem?_eq_none (by omega)])
        simp only [go_sem, Int.cast_ofNat_Int, Int.reduceToNat, Nat.reduceAdd, Nat.reduceBEq, Nat.reduceLeDiff, Nat.reduceLT, Nat.reduceMul, Nat.reduceSub, Int.reduceEq, Int.reduceLT, Int.reduceLE, Int.reduceNeg, hlt, decide_eq_true this]
end Go.Sh
namespace Go.Sh
set_option linter.unusedSectionVars false
set_option linter.unnecessarySimpa false
set_option linter.unusedVariables false
set_option linter.unusedSimpArgs false
set_option maxRecDepth 100000
set_option maxHeartbeats 4000000
theorem s30 (n id z : Nat) (H : Heap) (L : List (List SV)) (f1 f2 : Bool) (hL : L.length ≤ maxLen) (hz : L ≠ [] → z = 1) (hr : ∀ r ∈ L, ∃ x, r = [x]) (h0 : SV.refs.refsL L.flatten = 0)
    (hc : ∀ r ∈ L, ∀ H, call1 T n (.fn id) [r.headD .undef, r.headD .undef] H = some (.bool true, H)) : call1 T (n + 1) (.fn 30) [.lst z L f1, .lst z L f2, .fn id []] H = some (.bool true, H) := by
  refine call_pure e30 (by rfl) ?_
  simp only [c30, heap0, go_sem, Int.cast_ofNat_Int, Int.reduceToNat, Nat.reduceAdd, Nat.reduceBEq, Nat.reduceLeDiff, Nat.reduceLT, Nat.reduceMul, Nat.reduceSub, Int.reduceEq, Int.reduceLT, Int.reduceLE, Int.reduceNeg]
  refine loop_rule (fun i => ([(1, .lst z L f2), (2, .fn id []), (15, .lst z L f1), (16, .int .i64 L.length), (17, .int .i64 i)], ⟨[], [], 0⟩)) (fun _ => True) L.length ?_ trivial ?_
  · simp only [go_sem, Int.cast_ofNat_Int, Int.reduceToNat, Nat.reduceAdd, Nat.reduceBEq, Nat.reduceLeDiff, Nat.reduceLT, Nat.reduceMul, Nat.reduceSub, Int.reduceEq, Int.reduceLT, Int.reduceLE, Int.reduceNeg] <;> rfl
  · intro i hi hI
    rcases Nat.lt_or_ge i L.length with hlt | hge
    · obtain ⟨r, ha⟩ := get_some hlt
      have hs := w64_succ hlt hL
      have hm := List.mem_of_getElem? ha
      obtain ⟨x, rfl⟩ := hr r hm
      have hcx := hc _ hm
      simp only [List.headD_cons] at hcx
      have hz1 := hz (fun h => by subst h; simp at hlt)
      subst hz1
      simp only [go_sem, Int.cast_ofNat_Int, Int.reduceToNat, Nat.reduceAdd, Nat.reduceBEq, Nat.reduceLeDiff, Nat.reduceLT, Nat.reduceMul, Nat.reduceSub, Int.reduceEq, Int.reduceLT, Int.reduceLE, Int.reduceNeg, hlt, ha, hcx, hs]
      exact ⟨trivial, trivial, trivial⟩
    · have hlt : ¬ i < L.length := by omega
      simp only [go_sem, Int.cast_ofNat_Int, Int.reduceToNat, Nat.reduceAdd, Nat.reduceBEq, Nat.reduceLeDiff, Nat.reduceLT, Nat.reduceMul, Nat.reduceSub, Int.reduceEq, Int.reduceLT, Int.reduceLE, Int.reduceNeg, hlt]
theorem rowT_ints (at1 N P) (a k : Nat) : rowT at1 N P a k = intsS ((List.range k).map fun (b : Nat) => btw at1 N P (a : Int) (b : Int)) := by
  simp only [rowT, intsS, List.map_map]; rfl
theorem tab_eqf (n : Nat) (H : Heap) (at1 N P) (k : Nat) (hk : k ≤ 32) (hN : N.length ≤ 32) : call1 T (n + 2) (.fn 30) [.lst 1 (tabT at1 N P k) false, .lst 1 (tabT at1 N P k) false, .fn 31 []] H = some (.bool true, H) := by
  refine s30 (n + 1) 31 1 H _ false false (by rw [tabT_len]; exact Nat.le_trans hk (by decide)) (fun _ => rfl) (fun r hr => ?_) (refs_flat (tabT_refs _ _ _ _)) (fun r hr H => ?_)
  · simp only [tabT, List.mem_map] at hr
    obtain ⟨a, _, rfl⟩ := hr
    exact ⟨_, rfl⟩
  · simp only [tabT, List.mem_map] at hr
    obtain ⟨a, _, rfl⟩ := hr
    simp only [List.headD_cons, rowT_ints]
    rw [s31 n H _ _ false false (by simp only [List.length_map, List.length_range]; exact Nat.le_trans hN (by decide))]
    simp
theorem nil_eqf (n : Nat) (H : Heap) : call1 T (n + 1) (.fn 30) [.lst 0 [] true, .lst 0 [] true, .fn 31 []] H = some (.bool true, H) :=
  s30 n 31 0 H [] true true (by simp) (by simp) (by simp) (by simp [SV.refs.refsL]) (by simp)
theorem tab_eq {N : List (Int × Int)} {P : List Int} {W : List Wl} {ex no th : Int} (h : okI N P W ex no th = true) : tabT (atI W ex) N P N.length = tabT (atR W ex) N P N.length := by
  have key : ∀ a b : Nat, a < N.length → b < N.length → btw (atI W ex) N P a b = btw (atR W ex) N P a b := fun a b ha hb => (btw_eq h (inI_nat ha hb)).1
  unfold tabT rowT
  refine List.map_congr_left (fun a ha => ?_)
  have : ((List.range N.length).map fun (b : Nat) => [SV.int .i64 (btw (atI W ex) N P (a : Int) (b : Int))]) = ((List.range N.length).map fun (b : Nat) => [SV.int .i64 (btw (atR W ex) N P (a : Int) (b : Int))]) :=
    List.map_congr_left (fun b hb => by rw [key a b (List.mem_range.1 ha) (List.mem_range.1 hb)])
  rw [this]
end Go.Sh
namespace Go.Sh
set_option linter.unusedSectionVars false
set_option linter.unnecessarySimpa false
set_option linter.unusedVariables false
set_option linter.unusedSimpArgs false
set_option maxRecDepth 100000
set_option maxHeartbeats 4000000
abbrev qy (a b c d p x y : Int) : SV := .agg [.int .i64 a, .int .i64 b, .int .i64 c, .int .i64 d, .int .i64 p, .int .i64 x, .int .i64 y]
theorem s8 (N : List (Int × Int)) (P : List Int) (W : List Wl) (f1 f2 f3 : Bool) (ex no th a b c d p x y : Int) (hN : N.length ≤ maxLen) (hP : P.length ≤ maxLen) (hW : W.length ≤ maxLen) :
    call1 T 41 (.fn 8) [st N P W f1 f2 f3 ex no th, qy a b c d p x y] heap0 = some (.bool true, heap0) := by
  refine call_pure e8 (by rfl) ?_
  have h11 := s11
  have h20 := fun H => s20 39 H N P W f1 f2 f3 ex no th
  have h21 := fun H => s21 31 H N P W f1 f2 f3 ex no th a b p c d hN hP hW
  have h24 := fun H => s24 33 H N P W f1 f2 f3 ex no th a b p c d hN hW
  have h25 := fun H => s25 30 H N P W f1 f2 f3 ex no th x y hN hP hW
  have h26 := fun H => s26 33 H N P W f1 f2 f3 ex no th x y hN hW
  have h27 := fun H => s27 30 H N P W f1 f2 f3 ex no th hN hP hW
  have h28 := fun H => s28 32 H N P W f1 f2 f3 ex no th hN hW
  have h23 := fun H => s23 34 H N P W f1 f2 f3 ex no th hN hP hW
  have h29 := fun H => s29 34 H N P W f1 f2 f3 ex no th hW hN
  rw [AtV_eq] at h21
  rw [BtV_eq] at h25
  have hnil := fun H => nil_eqf 39 H
  cases hok : okI N P W ex no th with
  | false =>
    simp only [hok, cond_false] at h27 h28 h21 h24 h25 h26
    simp only [c8, heap0, go_sem, Int.cast_ofNat_Int, Int.reduceToNat, Nat.reduceAdd, Nat.reduceBEq, Nat.reduceLeDiff, Nat.reduceLT, Nat.reduceMul, Nat.reduceSub, Int.reduceEq, Int.reduceLT, Int.reduceLE, Int.reduceNeg, h11, h20]
    repeat' (with_reducible refine fork_split (fun _ => ?_) (fun _ => ?_) <;> simp only [*, go_sem, Int.cast_ofNat_Int, Int.reduceToNat, Nat.reduceAdd, Nat.reduceBEq, Nat.reduceLeDiff, Nat.reduceLT, Nat.reduceMul, Nat.reduceSub, Int.reduceEq, Int.reduceLT, Int.reduceLE, Int.reduceNeg, h21, h24, h25, h26, h27, h28, h23, h29, hnil])
  | true =>
    have hl := ok_len hok
    have htab := fun H => tab_eqf 38 H (atR W ex) N P N.length hl.2.1 hl.2.1
    simp only [hok, cond_true, tab_eq hok] at h27 h28 h21 h24 h25 h26
    simp only [c8, heap0, go_sem, Int.cast_ofNat_Int, Int.reduceToNat, Nat.reduceAdd, Nat.reduceBEq, Nat.reduceLeDiff, Nat.reduceLT, Nat.reduceMul, Nat.reduceSub, Int.reduceEq, Int.reduceLT, Int.reduceLE, Int.reduceNeg, h11, h20]
    repeat' (with_reducible refine fork_split (fun _ => ?_) (fun _ => ?_) <;> simp only [*, go_sem, Int.cast_ofNat_Int, Int.reduceToNat, Nat.reduceAdd, Nat.reduceBEq, Nat.reduceLeDiff, Nat.reduceLT, Nat.reduceMul, Nat.reduceSub, Int.reduceEq, Int.reduceLT, Int.reduceLE, Int.reduceNeg, h21, h24, h25, h26, h27, h28, h23, h29, htab])
end Go.Sh
namespace Go.Sh
set_option linter.unusedSectionVars false
set_option linter.unnecessarySimpa false
set_option linter.unusedVariables false
set_option linter.unusedSimpArgs false
set_option maxRecDepth 100000
set_option maxHeartbeats 4000000
theorem pts_of : ∀ {L : List (List SV)}, (∀ q ∈ L, FitsL [.int .i64, .int .i64] q) → ∃ N, L = ptsS N
  | [], _ => ⟨[], rfl⟩
  | r :: L, h => by
    obtain ⟨N, rfl⟩ := pts_of (L := L) (fun q hq => h q (by simp [hq]))
    have h0 := h r (by simp)
    obtain ⟨a, _, rfl, _, h0⟩ := fitsL_i h0
    obtain ⟨b, _, rfl, _, h0⟩ := fitsL_i h0
    cases fitsL_nil' h0
    exact ⟨(a, b) :: N, rfl⟩
theorem ints_of : ∀ {L : List (List SV)}, (∀ q ∈ L, FitsL [.int .i64] q) → ∃ N, L = intsS N
  | [], _ => ⟨[], rfl⟩
  | r :: L, h => by
    obtain ⟨N, rfl⟩ := ints_of (L := L) (fun q hq => h q (by simp [hq]))
    have h0 := h r (by simp)
    obtain ⟨a, _, rfl, _, h0⟩ := fitsL_i h0
    cases fitsL_nil' h0
    exact ⟨a :: N, rfl⟩
theorem wls_of : ∀ {L : List (List SV)}, (∀ q ∈ L, FitsL [.int .i64, .int .i64, .int .i64, .int .i64, .int .i64] q) → ∃ N, L = wlsS N
  | [], _ => ⟨[], rfl⟩
  | r :: L, h => by
    obtain ⟨N, rfl⟩ := wls_of (L := L) (fun q hq => h q (by simp [hq]))
    have h0 := h r (by simp)
    obtain ⟨a, _, rfl, _, h0⟩ := fitsL_i h0
    obtain ⟨b, _, rfl, _, h0⟩ := fitsL_i h0
    obtain ⟨c, _, rfl, _, h0⟩ := fitsL_i h0
    obtain ⟨d, _, rfl, _, h0⟩ := fitsL_i h0
    obtain ⟨f, _, rfl, _, h0⟩ := fitsL_i h0
    cases fitsL_nil' h0
    exact ⟨⟨a, b, c, d, f⟩ :: N, rfl⟩
abbrev siteD : Bool × List DT := (true, [.lst [.int .i64, .int .i64], .lst [.int .i64], .lst [.int .i64, .int .i64, .int .i64, .int .i64, .int .i64], .int .i64, .int .i64, .int .i64])
theorem site_of {x : SV} (h : FitsA siteD x) : ∃ N P W f1 f2 f3 ex no th, x = st N P W f1 f2 f3 ex no th ∧ N.length ≤ maxLen ∧ P.length ≤ maxLen ∧ W.length ≤ maxLen := by
  obtain ⟨cs, rfl, k⟩ := fitsA_agg h
  obtain ⟨L1, f1, _, rfl, m1, a1, k⟩ := fitsL_l k
  obtain ⟨L2, f2, _, rfl, m2, a2, k⟩ := fitsL_l k
  obtain ⟨L3, f3, _, rfl, m3, a3, k⟩ := fitsL_l k
  obtain ⟨ex, _, rfl, _, k⟩ := fitsL_i k
  obtain ⟨no, _, rfl, _, k⟩ := fitsL_i k
  obtain ⟨th, _, rfl, _, k⟩ := fitsL_i k
  cases fitsL_nil' k
  obtain ⟨N, rfl⟩ := pts_of a1
  obtain ⟨P, rfl⟩ := ints_of a2
  obtain ⟨W, rfl⟩ := wls_of a3
  exact ⟨N, P, W, f1, f2, f3, ex, no, th, rfl, by simpa [ptsS] using m1, by simpa [intsS] using m2, by simpa [wlsS] using m3⟩
theorem law8 (xs : List SV) (h : FitsAll [siteD, (true, [.int .i64, .int .i64, .int .i64, .int .i64, .int .i64, .int .i64, .int .i64])] xs) : ∃ m, call1 T m (.fn 8) xs heap0 = some (.bool true, heap0) := by
  obtain ⟨x1, r1, rfl, h1, h⟩ := fitsAll_cons h
  obtain ⟨x2, r2, rfl, h2, h⟩ := fitsAll_cons h
  cases fitsAll_nil h
  obtain ⟨N, P, W, f1, f2, f3, ex, no, th, rfl, hN, hP, hW⟩ := site_of h1
  obtain ⟨cs, rfl, k⟩ := fitsA_agg h2
  obtain ⟨a, _, rfl, _, k⟩ := fitsL_i k
  obtain ⟨b, _, rfl, _, k⟩ := fitsL_i k
  obtain ⟨c, _, rfl, _, k⟩ := fitsL_i k
  obtain ⟨d, _, rfl, _, k⟩ := fitsL_i k
  obtain ⟨p, _, rfl, _, k⟩ := fitsL_i k
  obtain ⟨x, _, rfl, _, k⟩ := fitsL_i k
  obtain ⟨y, _, rfl, _, k⟩ := fitsL_i k
  cases fitsL_nil' k
  exact ⟨41, s8 N P W f1 f2 f3 ex no th a b c d p x y hN hP hW⟩
end Go.Sh
namespace Go.Sh
set_option linter.unusedSectionVars false
set_option linter.unnecessarySimpa false
set_option linter.unusedVariables false
set_option linter.unusedSimpArgs false
set_option maxRecDepth 100000
set_option maxHeartbeats 4000000
/-- The nearest among the first nodes. -/
def bst (N : List (Int × Int)) (px py : Int) : Nat → Nat
  | 0 => 0
  | k + 1 => bif decide (sqI (nd N k).1 (nd N k).2 px py < sqI (nd N (bst N px py k)).1 (nd N (bst N px py k)).2 px py) then k else bst N px py k
theorem bst_le (N : List (Int × Int)) (px py : Int) : ∀ k, bst N px py k ≤ k - 1
  | 0 => Nat.le_refl 0
  | k + 1 => by
    have ih := bst_le N px py k
    unfold bst
    cases decide (sqI (nd N k).1 (nd N k).2 px py < sqI (nd N (bst N px py k)).1 (nd N (bst N px py k)).2 px py) <;> simp <;> omega
theorem nd_get {N : List (Int × Int)} {i : Nat} (h : i < N.length) : N[i]? = some (nd N i) := by
  rw [nd, List.getD_eq_getElem?_getD, List.getElem?_eq_getElem h]; rfl
theorem s32 (n : Nat) (H : Heap) (N : List (Int × Int)) (P : List Int) (W f1 f2 f3 ex no th) (px py : Int) (hN : N.length ≤ maxLen) (hP : P.length ≤ maxLen) (hW : W.length ≤ maxLen) :
    call1 T (n + 7) (.fn 32) [st N P W f1 f2 f3 ex no th, pt px py] H = some (.tup [.int .i64 (AtV (bst N px py N.length) (okI N P W ex no th) (pointI px py)), .int .i64 (AtE (okI N P W ex no th) (pointI px py) 2)], H) := by
  refine call_pure e32 (by rfl) ?_
  have h23 := fun H => s23 n H N P W f1 f2 f3 ex no th hN hP hW
  cases hok : okI N P W ex no th with
  | false => simp only [c32, heap0, go_sem, Int.cast_ofNat_Int, Int.reduceToNat, Nat.reduceAdd, Nat.reduceBEq, Nat.reduceLeDiff, Nat.reduceLT, Nat.reduceMul, Nat.reduceSub, Int.reduceEq, Int.reduceLT, Int.reduceLE, Int.reduceNeg, h23, hok, AtV, AtE]
  | true =>
    have hl := ok_len hok
    cases hp : pointI px py with
    | false => simp only [c32, heap0, go_sem, Int.cast_ofNat_Int, Int.reduceToNat, Nat.reduceAdd, Nat.reduceBEq, Nat.reduceLeDiff, Nat.reduceLT, Nat.reduceMul, Nat.reduceSub, Int.reduceEq, Int.reduceLT, Int.reduceLE, Int.reduceNeg, h23, hok, s44, hp, AtV, AtE]
    | true =>
      simp only [c32, heap0, go_sem, Int.cast_ofNat_Int, Int.reduceToNat, Nat.reduceAdd, Nat.reduceBEq, Nat.reduceLeDiff, Nat.reduceLT, Nat.reduceMul, Nat.reduceSub, Int.reduceEq, Int.reduceLT, Int.reduceLE, Int.reduceNeg, h23, hok, s44, hp, AtV, AtE]
      refine loop_rule (fun i => ([(2, .ptr 0 0 0 0), (3, .ptr 1 0 0 0), (6, .int .i64 (bst N px py i)), (18, .lst 2 (ptsS N) f1), (19, .int .i64 N.length), (20, .int .i64 i)], ⟨[.box [.lst 2 (ptsS N) f1, .lst 1 (intsS P) f2, .lst 5 (wlsS W) f3, .int .i64 ex, .int .i64 no, .int .i64 th], .box [.int .i64 px, .int .i64 py]], [], 0⟩)) (fun _ => True) N.length ?_ trivial ?_
      · simp only [go_sem, Int.cast_ofNat_Int, Int.reduceToNat, Nat.reduceAdd, Nat.reduceBEq, Nat.reduceLeDiff, Nat.reduceLT, Nat.reduceMul, Nat.reduceSub, Int.reduceEq, Int.reduceLT, Int.reduceLE, Int.reduceNeg]
        rfl
      · intro i hi _
        rcases Nat.lt_or_ge i N.length with hlt | hge
        · have hs := w64_succ hlt hN
          have hb : bst N px py i < N.length := by have := bst_le N px py i; omega
          simp only [go_sem, Int.cast_ofNat_Int, Int.reduceToNat, Nat.reduceAdd, Nat.reduceBEq, Nat.reduceLeDiff, Nat.reduceLT, Nat.reduceMul, Nat.reduceSub, Int.reduceEq, Int.reduceLT, Int.reduceLE, Int.reduceNeg, hlt, hb, nd_get hlt, nd_get hb, s13, sqI_eq]
          with_reducible refine post_fork (fun hc => ?_) (fun hc => ?_)
          · simp only [go_sem, Int.cast_ofNat_Int, Int.reduceToNat, Nat.reduceAdd, Nat.reduceBEq, Nat.reduceLeDiff, Nat.reduceLT, Nat.reduceMul, Nat.reduceSub, Int.reduceEq, Int.reduceLT, Int.reduceLE, Int.reduceNeg, hs, bst, hc]
            exact ⟨hlt, rfl, trivial⟩
          · simp only [go_sem, Int.cast_ofNat_Int, Int.reduceToNat, Nat.reduceAdd, Nat.reduceBEq, Nat.reduceLeDiff, Nat.reduceLT, Nat.reduceMul, Nat.reduceSub, Int.reduceEq, Int.reduceLT, Int.reduceLE, Int.reduceNeg, hs, bst, hc]
            exact ⟨hlt, rfl, trivial⟩
        · have hlt : ¬ i < N.length := by omega
          have hi' : i = N.length := by omega
          subst hi'
          simp only [go_sem, Int.cast_ofNat_Int, Int.reduceToNat, Nat.reduceAdd, Nat.reduceBEq, Nat.reduceLeDiff, Nat.reduceLT, Nat.reduceMul, Nat.reduceSub, Int.reduceEq, Int.reduceLT, Int.reduceLE, Int.reduceNeg, hlt]
end Go.Sh
namespace Go.Sh
set_option linter.unusedSectionVars false
set_option linter.unnecessarySimpa false
set_option linter.unusedVariables false
set_option linter.unusedSimpArgs false
set_option maxRecDepth 100000
set_option maxHeartbeats 4000000
theorem bst_one (N : List (Int × Int)) (px py : Int) : bst N px py 1 = 0 := by
  have := bst_le N px py 1
  omega
theorem s33 (n : Nat) (H : Heap) (N : List (Int × Int)) (P : List Int) (W f1 f2 f3 ex no th) (px py : Int) (hN : N.length ≤ maxLen) (hW : W.length ≤ maxLen) :
    call1 T (n + 7) (.fn 33) [st N P W f1 f2 f3 ex no th, pt px py] H = some (.tup [.int .i64 (AtV (bst N px py N.length) (okI N P W ex no th) (pointI px py)), .int .i64 (AtE (okI N P W ex no th) (pointI px py) 2)], H) := by
  refine call_pure e33 (by rfl) ?_
  have h29 := fun H => s29 n H N P W f1 f2 f3 ex no th hW hN
  cases hok : okI N P W ex no th with
  | false => simp only [c33, heap0, go_sem, Int.cast_ofNat_Int, Int.reduceToNat, Nat.reduceAdd, Nat.reduceBEq, Nat.reduceLeDiff, Nat.reduceLT, Nat.reduceMul, Nat.reduceSub, Int.reduceEq, Int.reduceLT, Int.reduceLE, Int.reduceNeg, h29, hok, AtV, AtE]
  | true =>
    have hl := ok_len hok
    cases hp : pointI px py with
    | false => simp only [c33, heap0, go_sem, Int.cast_ofNat_Int, Int.reduceToNat, Nat.reduceAdd, Nat.reduceBEq, Nat.reduceLeDiff, Nat.reduceLT, Nat.reduceMul, Nat.reduceSub, Int.reduceEq, Int.reduceLT, Int.reduceLE, Int.reduceNeg, h29, hok, s52, hp, AtV, AtE]
    | true =>
      simp only [c33, heap0, go_sem, Int.cast_ofNat_Int, Int.reduceToNat, Nat.reduceAdd, Nat.reduceBEq, Nat.reduceLeDiff, Nat.reduceLT, Nat.reduceMul, Nat.reduceSub, Int.reduceEq, Int.reduceLT, Int.reduceLE, Int.reduceNeg, h29, hok, s52, hp, AtV, AtE]
      refine loop_rule (fun i => ([(2, .ptr 0 0 0 0), (3, .ptr 1 0 0 0), (6, .int .i64 (bst N px py (i + 1))), (7, .int .i64 ((i + 1 : Nat) : Int))], ⟨[.box [.lst 2 (ptsS N) f1, .lst 1 (intsS P) f2, .lst 5 (wlsS W) f3, .int .i64 ex, .int .i64 no, .int .i64 th], .box [.int .i64 px, .int .i64 py]], [], 0⟩)) (fun _ => True) (N.length - 1) ?_ trivial ?_
      · simp only [go_sem, Int.cast_ofNat_Int, Int.reduceToNat, Nat.reduceAdd, Nat.reduceBEq, Nat.reduceLeDiff, Nat.reduceLT, Nat.reduceMul, Nat.reduceSub, Int.reduceEq, Int.reduceLT, Int.reduceLE, Int.reduceNeg, bst_one]
        rfl
      · intro i hi _
        rcases Nat.lt_or_ge (i + 1) N.length with hlt | hge
        · have hs := w64_succ hlt hN
          have hb : bst N px py (i + 1) < N.length := by have := bst_le N px py (i + 1); omega
          have hm : i < N.length - 1 := by omega
          simp only [go_sem, Int.cast_ofNat_Int, Int.reduceToNat, Nat.reduceAdd, Nat.reduceBEq, Nat.reduceLeDiff, Nat.reduceLT, Nat.reduceMul, Nat.reduceSub, Int.reduceEq, Int.reduceLT, Int.reduceLE, Int.reduceNeg, hlt, hb, nd_get hlt, nd_get hb, s14, sqI_eq]
          with_reducible refine post_fork (fun hc => ?_) (fun hc => ?_)
          · have hn : bst N px py (i + 1 + 1) = i + 1 := by rw [bst]; rw [hc]; rfl
            simp only [go_sem, Int.cast_ofNat_Int, Int.reduceToNat, Nat.reduceAdd, Nat.reduceBEq, Nat.reduceLeDiff, Nat.reduceLT, Nat.reduceMul, Nat.reduceSub, Int.reduceEq, Int.reduceLT, Int.reduceLE, Int.reduceNeg, hs, hn]
            exact ⟨hm, rfl, trivial⟩
          · have hn : bst N px py (i + 1 + 1) = bst N px py (i + 1) := by rw [bst]; rw [hc]; rfl
            simp only [go_sem, Int.cast_ofNat_Int, Int.reduceToNat, Nat.reduceAdd, Nat.reduceBEq, Nat.reduceLeDiff, Nat.reduceLT, Nat.reduceMul, Nat.reduceSub, Int.reduceEq, Int.reduceLT, Int.reduceLE, Int.reduceNeg, hs, hn]
            exact ⟨hm, rfl, trivial⟩
        · have hlt : ¬ i + 1 < N.length := by omega
          have hi' : i + 1 = N.length := by omega
          simp only [go_sem, Int.cast_ofNat_Int, Int.reduceToNat, Nat.reduceAdd, Nat.reduceBEq, Nat.reduceLeDiff, Nat.reduceLT, Nat.reduceMul, Nat.reduceSub, Int.reduceEq, Int.reduceLT, Int.reduceLE, Int.reduceNeg, hlt, hi', Nat.lt_irrefl]
end Go.Sh
namespace Go.Sh
set_option linter.unusedSectionVars false
set_option linter.unnecessarySimpa false
set_option linter.unusedVariables false
set_option linter.unusedSimpArgs false
set_option maxRecDepth 100000
set_option maxHeartbeats 4000000
def heardB (p th no : Int) : Bool := decide (w64 (th * w64 (no + 0)) ≤ w64 (1000 * p))
def hrL (at1 : Int → Int → Int → Int → Int → Int) (N : List (Int × Int)) (P : List Int) (th no y : Int) (k : Nat) : List Int := ((List.range k).filter fun (i : Nat) => heardB (btw at1 N P (i : Int) y) th no).map fun (i : Nat) => (i : Int)
theorem hrL_yes {at1 N P th no y} {k : Nat} (h : heardB (btw at1 N P (k : Int) y) th no = true) : hrL at1 N P th no y (k + 1) = hrL at1 N P th no y k ++ [(k : Int)] := by
  simp [hrL, List.range_succ, List.filter_append, h]
theorem hrL_no {at1 N P th no y} {k : Nat} (h : heardB (btw at1 N P (k : Int) y) th no = false) : hrL at1 N P th no y (k + 1) = hrL at1 N P th no y k := by
  simp [hrL, List.range_succ, List.filter_append, h]
theorem hrL_len {at1 N P th no y} (k : Nat) : (hrL at1 N P th no y k).length ≤ k := by
  simp only [hrL, List.length_map]
  exact Nat.le_trans (List.length_filter_le _ _) (by simp)
theorem intsS_snoc (L : List Int) (x : Int) : intsS L ++ [[.int .i64 x]] = intsS (L ++ [x]) := by simp [intsS]
theorem intsS_refs (L : List Int) : ∀ cs ∈ intsS L, ∀ c ∈ cs, c.refs = 0 := by
  intro cs hcs c hc
  simp only [intsS, List.mem_map] at hcs
  obtain ⟨b, _, rfl⟩ := hcs
  simp only [List.mem_singleton] at hc
  subst hc
  simp [SV.refs]
theorem intsS_frz (L : List Int) (M H d) : ∀ cs ∈ intsS L, ∀ c ∈ cs, frz M H (d + 1) c = some c := by
  intro cs hcs c hc
  simp only [intsS, List.mem_map] at hcs
  obtain ⟨b, _, rfl⟩ := hcs
  simp only [List.mem_singleton] at hc
  subst hc
  simp only [frz]
theorem s69 (n : Nat) (H : Heap) (t m : Int) : call1 T (n + 1) (.fn 69) [.int .i64 t, .int .i64 m] H = some (.bool (rightI t m), H) := by
  refine call_pure e69 (by rfl) ?_
  simp only [c69, heap0, go_sem, Int.cast_ofNat_Int, Int.reduceToNat, Nat.reduceAdd, Nat.reduceBEq, Nat.reduceLeDiff, Nat.reduceLT, Nat.reduceMul, Nat.reduceSub, Int.reduceEq, Int.reduceLT, Int.reduceLE, Int.reduceNeg]
  repeat' (with_reducible refine fork_split (fun _ => ?_) (fun _ => ?_) <;> simp only [*, go_sem, Int.cast_ofNat_Int, Int.reduceToNat, Nat.reduceAdd, Nat.reduceBEq, Nat.reduceLeDiff, Nat.reduceLT, Nat.reduceMul, Nat.reduceSub, Int.reduceEq, Int.reduceLT, Int.reduceLE, Int.reduceNeg])
  all_goals (simp only [rightI]; grind)
theorem s73 (n : Nat) (H : Heap) : call1 T (n + 1) (.fn 73) [.lst 0 [] true] H = some (.int .i64 0, H) := by
  refine call_pure e73 (by rfl) ?_
  simp only [c73, heap0, go_sem, Int.cast_ofNat_Int, Int.reduceToNat, Nat.reduceAdd, Nat.reduceBEq, Nat.reduceLeDiff, Nat.reduceLT, Nat.reduceMul, Nat.reduceSub, Int.reduceEq, Int.reduceLT, Int.reduceLE, Int.reduceNeg]
  refine loop_rule (fun i => ([(3, .int .i64 0), (6, .lst 0 [] true), (7, .int .i64 0), (8, .int .i64 0)], ⟨[], [], 0⟩)) (fun _ => True) 0 ?_ trivial ?_
  · simp only [go_sem, Int.cast_ofNat_Int, Int.reduceToNat, Nat.reduceAdd, Nat.reduceBEq, Nat.reduceLeDiff, Nat.reduceLT, Nat.reduceMul, Nat.reduceSub, Int.reduceEq, Int.reduceLT, Int.reduceLE, Int.reduceNeg]
  · intro i hi _
    simp only [go_sem, Int.cast_ofNat_Int, Int.reduceToNat, Nat.reduceAdd, Nat.reduceBEq, Nat.reduceLeDiff, Nat.reduceLT, Nat.reduceMul, Nat.reduceSub, Int.reduceEq, Int.reduceLT, Int.reduceLE, Int.reduceNeg]
theorem s70 (n : Nat) (H : Heap) : call1 T (n + 2) (.fn 70) [.lst 0 [] true] H = some (.tup [.int .i64 0, .int .i64 0], H) := by
  refine call_pure e70 (by rfl) ?_
  simp only [c70, heap0, go_sem, Int.cast_ofNat_Int, Int.reduceToNat, Nat.reduceAdd, Nat.reduceBEq, Nat.reduceLeDiff, Nat.reduceLT, Nat.reduceMul, Nat.reduceSub, Int.reduceEq, Int.reduceLT, Int.reduceLE, Int.reduceNeg]
  refine loop_rule (fun i => ([(0, .lst 0 [] true), (9, .lst 0 [] true), (10, .int .i64 0), (11, .int .i64 0)], ⟨[], [], 0⟩)) (fun _ => True) 0 ?_ trivial ?_
  · simp only [go_sem, Int.cast_ofNat_Int, Int.reduceToNat, Nat.reduceAdd, Nat.reduceBEq, Nat.reduceLeDiff, Nat.reduceLT, Nat.reduceMul, Nat.reduceSub, Int.reduceEq, Int.reduceLT, Int.reduceLE, Int.reduceNeg]
  · intro i hi _
    simp only [go_sem, Int.cast_ofNat_Int, Int.reduceToNat, Nat.reduceAdd, Nat.reduceBEq, Nat.reduceLeDiff, Nat.reduceLT, Nat.reduceMul, Nat.reduceSub, Int.reduceEq, Int.reduceLT, Int.reduceLE, Int.reduceNeg, s73]
theorem s57 (n : Nat) (H : Heap) (p t m : Int) (hp : powI p = true) (hr : rightI t m = true) : call1 T (n + 3) (.fn 57) [.int .i64 p, .int .i64 t, .int .i64 m, .lst 0 [] true] H = some (.tup [.bool (heardB p t m), .int .i64 0], H) := by
  refine call_pure e57 (by rfl) ?_
  simp only [c57, heap0, go_sem, Int.cast_ofNat_Int, Int.reduceToNat, Nat.reduceAdd, Nat.reduceBEq, Nat.reduceLeDiff, Nat.reduceLT, Nat.reduceMul, Nat.reduceSub, Int.reduceEq, Int.reduceLT, Int.reduceLE, Int.reduceNeg, s68, s69, hp, hr, s70, heardB]
theorem s58 (n : Nat) (H : Heap) (p t m : Int) : call1 T (n + 1) (.fn 58) [.int .i64 p, .int .i64 t, .int .i64 m, .int .i64 0] H = some (.bool (heardB p t m), H) := by
  refine call_pure e58 (by rfl) ?_
  simp only [c58, heap0, go_sem, Int.cast_ofNat_Int, Int.reduceToNat, Nat.reduceAdd, Nat.reduceBEq, Nat.reduceLeDiff, Nat.reduceLT, Nat.reduceMul, Nat.reduceSub, Int.reduceEq, Int.reduceLT, Int.reduceLE, Int.reduceNeg, heardB]
theorem ok_right {N : List (Int × Int)} {P : List Int} {W : List Wl} {ex no th : Int} (h : okI N P W ex no th = true) : rightI th no = true := by
  simp only [okI, okB, Bool.and_eq_true] at h
  exact h.2
def inN (N : List (Int × Int)) (y : Int) : Bool := decide (0 ≤ y) && decide (y < N.length)
theorem inN_iff {N : List (Int × Int)} {y : Int} : inN N y = true ↔ 0 ≤ y ∧ y < N.length := by simp only [inN, Bool.and_eq_true, decide_eq_true_eq]
theorem inN_no {N : List (Int × Int)} {y : Int} (h : inN N y = false) : decide (y < 0) = true ∨ (decide (y < 0) = false ∧ decide ((N.length : Int) ≤ y) = true) := by
  rw [Bool.eq_false_iff, ne_eq, inN_iff] at h
  simp only [decide_eq_true_eq, decide_eq_false_iff_not]
  omega
def HrV (ok arg : Bool) (L : List Int) : SV := bif ok then (bif arg then .tup [.lst 1 (intsS L) false, .int .i64 0] else .tup [.lst 0 [] true, .int .i64 7]) else .tup [.lst 0 [] true, .int .i64 1]
theorem room1 {n : Nat} (h : n ≤ 100) : decide ((n + 1) * 8 ≤ mostLen) = true := by
  simp only [decide_eq_true_eq]
  exact Nat.le_trans (show (n + 1) * 8 ≤ 1000 by omega) (by decide)
theorem s34 (n : Nat) (H : Heap) (N : List (Int × Int)) (P : List Int) (W f1 f2 f3 ex no th) (y : Int) (hN : N.length ≤ maxLen) (hP : P.length ≤ maxLen) (hW : W.length ≤ maxLen) :
    call1 T (n + 10) (.fn 34) [st N P W f1 f2 f3 ex no th, .int .i64 y] H = some (HrV (okI N P W ex no th) (inN N y) (hrL (atR W ex) N P th no y N.length), H) := by
  refine call_pure e34 (by rfl) ?_
  have h23 := fun H => s23 (n + 3) H N P W f1 f2 f3 ex no th hN hP hW
  cases hok : okI N P W ex no th with
  | false => simp only [c34, heap0, go_sem, Int.cast_ofNat_Int, Int.reduceToNat, Nat.reduceAdd, Nat.reduceBEq, Nat.reduceLeDiff, Nat.reduceLT, Nat.reduceMul, Nat.reduceSub, Int.reduceEq, Int.reduceLT, Int.reduceLE, Int.reduceNeg, h23, hok, chk_no hok, HrV]
  | true =>
    have hl := ok_len hok
    cases hin : inN N y with
    | false =>
      rcases inN_no hin with h | h
      · simp only [c34, heap0, go_sem, Int.cast_ofNat_Int, Int.reduceToNat, Nat.reduceAdd, Nat.reduceBEq, Nat.reduceLeDiff, Nat.reduceLT, Nat.reduceMul, Nat.reduceSub, Int.reduceEq, Int.reduceLT, Int.reduceLE, Int.reduceNeg, h23, hok, chk_yes hok, h, HrV]
      · simp only [c34, heap0, go_sem, Int.cast_ofNat_Int, Int.reduceToNat, Nat.reduceAdd, Nat.reduceBEq, Nat.reduceLeDiff, Nat.reduceLT, Nat.reduceMul, Nat.reduceSub, Int.reduceEq, Int.reduceLT, Int.reduceLE, Int.reduceNeg, h23, hok, chk_yes hok, h.1, h.2, HrV]
    | true =>
      rw [inN_iff] at hin
      obtain ⟨h1, h2⟩ := hin
      obtain ⟨y', rfl⟩ := Int.eq_ofNat_of_zero_le h1
      have m1 : decide ((y' : Int) < 0) = false := by rw [decide_eq_false_iff_not]; omega
      have m2 : decide ((N.length : Int) ≤ y') = false := by rw [decide_eq_false_iff_not]; omega
      simp only [c34, heap0, go_sem, Int.cast_ofNat_Int, Int.reduceToNat, Nat.reduceAdd, Nat.reduceBEq, Nat.reduceLeDiff, Nat.reduceLT, Nat.reduceMul, Nat.reduceSub, Int.reduceEq, Int.reduceLT, Int.reduceLE, Int.reduceNeg, h23, hok, chk_yes hok, m1, m2, HrV]
      refine loop_rule (fun i => ([(1, .int .i64 y'), (2, .ptr 0 0 0 0), (6, .slc 1 (hrL (atR W ex) N P th no y' i).length 0 (hrL (atR W ex) N P th no y' i).length), (26, .int .i64 N.length), (27, .int .i64 i)], ⟨[.box [.lst 2 (ptsS N) f1, .lst 1 (intsS P) f2, .lst 5 (wlsS W) f3, .int .i64 ex, .int .i64 no, .int .i64 th], .arr (hrL (atR W ex) N P th no y' i).length 1 (intsS (hrL (atR W ex) N P th no y' i)) false], [], 0⟩)) (fun _ => True) N.length ?_ trivial ?_
      · simp only [go_sem, Int.cast_ofNat_Int, Int.reduceToNat, Nat.reduceAdd, Nat.reduceBEq, Nat.reduceLeDiff, Nat.reduceLT, Nat.reduceMul, Nat.reduceSub, Int.reduceEq, Int.reduceLT, Int.reduceLE, Int.reduceNeg]
        rfl
      · intro i hi _
        rcases Nat.lt_or_ge i N.length with hlt | hge
        · have hs := w64_succ hlt hN
          have hb := btw_eq (x := i) (y := y') hok (by rw [inI_iff]; omega)
          have h55 := fun H => s55 n H N P W f1 f2 f3 ex no th i y' hlt (by omega) hl.1 hW
          have h57 := fun H => s57 (n + 6) H _ _ _ hb.2 (ok_right hok)
          rw [hb.1] at h55
          simp only [go_sem, Int.cast_ofNat_Int, Int.reduceToNat, Nat.reduceAdd, Nat.reduceBEq, Nat.reduceLeDiff, Nat.reduceLT, Nat.reduceMul, Nat.reduceSub, Int.reduceEq, Int.reduceLT, Int.reduceLE, Int.reduceNeg, hlt, h55, h57]
          cases hc : heardB (btw (atR W ex) N P (i : Int) (y' : Int)) th no with
          | true =>
            have hg := apB_grow 1
            have hlen := Nat.le_trans (hrL_len (at1 := atR W ex) (N := N) (P := P) (th := th) (no := no) (y := y') i) hi
            simp only [go_sem, Int.cast_ofNat_Int, Int.reduceToNat, Nat.reduceAdd, Nat.reduceBEq, Nat.reduceLeDiff, Nat.reduceLT, Nat.reduceMul, Nat.reduceSub, Int.reduceEq, Int.reduceLT, Int.reduceLE, Int.reduceNeg, apB_grow _ _ _ _ _ _ _ intsS_len, room1 (Nat.le_trans hlen (by omega : N.length ≤ 100)), hs, intsS_snoc, hrL_yes hc, List.length_append]
            exact ⟨hlt, rfl, trivial⟩
          | false =>
            simp only [go_sem, Int.cast_ofNat_Int, Int.reduceToNat, Nat.reduceAdd, Nat.reduceBEq, Nat.reduceLeDiff, Nat.reduceLT, Nat.reduceMul, Nat.reduceSub, Int.reduceEq, Int.reduceLT, Int.reduceLE, Int.reduceNeg, hs, hrL_no hc]
            exact ⟨hlt, rfl, trivial⟩
        · have hlt : ¬ i < N.length := by omega
          have hi' : i = N.length := by omega
          subst hi'
          have hfz := fun H v => fzB_whole 0 H 6 v (hrL (atR W ex) N P th no y' N.length).length 1 (intsS (hrL (atR W ex) N P th no y' N.length)) false intsS_len (intsS_frz _ _ _ _) (intsS_refs _)
          simp only [go_sem, Int.cast_ofNat_Int, Int.reduceToNat, Nat.reduceAdd, Nat.reduceBEq, Nat.reduceLeDiff, Nat.reduceLT, Nat.reduceMul, Nat.reduceSub, Int.reduceEq, Int.reduceLT, Int.reduceLE, Int.reduceNeg, hlt, hfz]
theorem s35 (n : Nat) (H : Heap) (N : List (Int × Int)) (P : List Int) (W f1 f2 f3 ex no th) (y : Int) (hN : N.length ≤ maxLen) (hW : W.length ≤ maxLen) :
    call1 T (n + 8) (.fn 35) [st N P W f1 f2 f3 ex no th, .int .i64 y] H = some (HrV (okI N P W ex no th) (inN N y) (hrL (atR W ex) N P th no y N.length), H) := by
  refine call_pure e35 (by rfl) ?_
  have h29 := fun H => s29 (n + 1) H N P W f1 f2 f3 ex no th hW hN
  cases hok : okI N P W ex no th with
  | false => simp only [c35, heap0, go_sem, Int.cast_ofNat_Int, Int.reduceToNat, Nat.reduceAdd, Nat.reduceBEq, Nat.reduceLeDiff, Nat.reduceLT, Nat.reduceMul, Nat.reduceSub, Int.reduceEq, Int.reduceLT, Int.reduceLE, Int.reduceNeg, h29, hok, chk_no hok, HrV]
  | true =>
    have hl := ok_len hok
    cases hin : inN N y with
    | false =>
      rcases inN_no hin with h | h
      · simp only [c35, heap0, go_sem, Int.cast_ofNat_Int, Int.reduceToNat, Nat.reduceAdd, Nat.reduceBEq, Nat.reduceLeDiff, Nat.reduceLT, Nat.reduceMul, Nat.reduceSub, Int.reduceEq, Int.reduceLT, Int.reduceLE, Int.reduceNeg, h29, hok, chk_yes hok, h, HrV]
      · simp only [c35, heap0, go_sem, Int.cast_ofNat_Int, Int.reduceToNat, Nat.reduceAdd, Nat.reduceBEq, Nat.reduceLeDiff, Nat.reduceLT, Nat.reduceMul, Nat.reduceSub, Int.reduceEq, Int.reduceLT, Int.reduceLE, Int.reduceNeg, h29, hok, chk_yes hok, h.1, h.2, HrV]
    | true =>
      rw [inN_iff] at hin
      obtain ⟨h1, h2⟩ := hin
      obtain ⟨y', rfl⟩ := Int.eq_ofNat_of_zero_le h1
      have m1 : decide ((y' : Int) < 0) = false := by rw [decide_eq_false_iff_not]; omega
      have m2 : decide ((N.length : Int) ≤ y') = false := by rw [decide_eq_false_iff_not]; omega
      simp only [c35, heap0, go_sem, Int.cast_ofNat_Int, Int.reduceToNat, Nat.reduceAdd, Nat.reduceBEq, Nat.reduceLeDiff, Nat.reduceLT, Nat.reduceMul, Nat.reduceSub, Int.reduceEq, Int.reduceLT, Int.reduceLE, Int.reduceNeg, h29, hok, chk_yes hok, m1, m2, HrV]
      refine loop_rule (fun i => ([(1, .int .i64 y'), (2, .ptr 0 0 0 0), (6, .slc 1 (hrL (atR W ex) N P th no y' i).length 0 (hrL (atR W ex) N P th no y' i).length), (7, .int .i64 i)], ⟨[.box [.lst 2 (ptsS N) f1, .lst 1 (intsS P) f2, .lst 5 (wlsS W) f3, .int .i64 ex, .int .i64 no, .int .i64 th], .arr (hrL (atR W ex) N P th no y' i).length 1 (intsS (hrL (atR W ex) N P th no y' i)) false], [], 0⟩)) (fun _ => True) N.length ?_ trivial ?_
      · simp only [go_sem, Int.cast_ofNat_Int, Int.reduceToNat, Nat.reduceAdd, Nat.reduceBEq, Nat.reduceLeDiff, Nat.reduceLT, Nat.reduceMul, Nat.reduceSub, Int.reduceEq, Int.reduceLT, Int.reduceLE, Int.reduceNeg]
        rfl
      · intro i hi _
        rcases Nat.lt_or_ge i N.length with hlt | hge
        · have hs := w64_succ hlt hN
          have hinI : inI N i y' = true := by rw [inI_iff]; omega
          have h26 := fun H => s26 n H N P W f1 f2 f3 ex no th i y' hN hW
          simp only [hok, hinI, AtV, AtE, Bool.and_self, cond_true] at h26
          simp only [go_sem, Int.cast_ofNat_Int, Int.reduceToNat, Nat.reduceAdd, Nat.reduceBEq, Nat.reduceLeDiff, Nat.reduceLT, Nat.reduceMul, Nat.reduceSub, Int.reduceEq, Int.reduceLT, Int.reduceLE, Int.reduceNeg, hlt, h26, s58]
          cases hc : heardB (btw (atR W ex) N P (i : Int) (y' : Int)) th no with
          | true =>
            have hlen := Nat.le_trans (hrL_len (at1 := atR W ex) (N := N) (P := P) (th := th) (no := no) (y := y') i) hi
            simp only [go_sem, Int.cast_ofNat_Int, Int.reduceToNat, Nat.reduceAdd, Nat.reduceBEq, Nat.reduceLeDiff, Nat.reduceLT, Nat.reduceMul, Nat.reduceSub, Int.reduceEq, Int.reduceLT, Int.reduceLE, Int.reduceNeg, apB_grow _ _ _ _ _ _ _ intsS_len, room1 (Nat.le_trans hlen (by omega : N.length ≤ 100)), hs, intsS_snoc, hrL_yes hc, List.length_append]
            exact ⟨hlt, rfl, trivial⟩
          | false =>
            simp only [go_sem, Int.cast_ofNat_Int, Int.reduceToNat, Nat.reduceAdd, Nat.reduceBEq, Nat.reduceLeDiff, Nat.reduceLT, Nat.reduceMul, Nat.reduceSub, Int.reduceEq, Int.reduceLT, Int.reduceLE, Int.reduceNeg, hs, hrL_no hc]
            exact ⟨hlt, rfl, trivial⟩
        · have hlt : ¬ i < N.length := by omega
          have hi' : i = N.length := by omega
          subst hi'
          have hfz := fun H v => fzB_whole 0 H 6 v (hrL (atR W ex) N P th no y' N.length).length 1 (intsS (hrL (atR W ex) N P th no y' N.length)) false intsS_len (intsS_frz _ _ _ _) (intsS_refs _)
          simp only [go_sem, Int.cast_ofNat_Int, Int.reduceToNat, Nat.reduceAdd, Nat.reduceBEq, Nat.reduceLeDiff, Nat.reduceLT, Nat.reduceMul, Nat.reduceSub, Int.reduceEq, Int.reduceLT, Int.reduceLE, Int.reduceNeg, hlt, hfz]
end Go.Sh
namespace Go.Sh
set_option linter.unusedSectionVars false
set_option linter.unnecessarySimpa false
set_option linter.unusedVariables false
set_option linter.unusedSimpArgs false
set_option maxRecDepth 100000
set_option maxHeartbeats 4000000
theorem s31n (n : Nat) (H : Heap) : call1 T (n + 1) (.fn 31) [.lst 0 [] true, .lst 0 [] true] H = some (.bool true, H) := by
  refine call_pure e31 (by rfl) ?_
  simp only [c31, heap0, go_sem, Int.cast_ofNat_Int, Int.reduceToNat, Nat.reduceAdd, Nat.reduceBEq, Nat.reduceLeDiff, Nat.reduceLT, Nat.reduceMul, Nat.reduceSub, Int.reduceEq, Int.reduceLT, Int.reduceLE, Int.reduceNeg]
  refine loop_rule (fun i => ([(0, .lst 0 [] true), (1, .lst 0 [] true), (12, .int .i64 0), (13, .int .i64 0)], ⟨[], [], 0⟩)) (fun _ => True) 0 ?_ trivial ?_
  · simp only [go_sem, Int.cast_ofNat_Int, Int.reduceToNat, Nat.reduceAdd, Nat.reduceBEq, Nat.reduceLeDiff, Nat.reduceLT, Nat.reduceMul, Nat.reduceSub, Int.reduceEq, Int.reduceLT, Int.reduceLE, Int.reduceNeg]
  · intro i hi _
    simp only [go_sem, Int.cast_ofNat_Int, Int.reduceToNat, Nat.reduceAdd, Nat.reduceBEq, Nat.reduceLeDiff, Nat.reduceLT, Nat.reduceMul, Nat.reduceSub, Int.reduceEq, Int.reduceLT, Int.reduceLE, Int.reduceNeg]
theorem s9 (N : List (Int × Int)) (P : List Int) (W : List Wl) (f1 f2 f3 : Bool) (ex no th px py y : Int) (hN : N.length ≤ maxLen) (hP : P.length ≤ maxLen) (hW : W.length ≤ maxLen) :
    call1 T 41 (.fn 9) [st N P W f1 f2 f3 ex no th, pt px py, .int .i64 y] heap0 = some (.bool true, heap0) := by
  refine call_pure e9 (by rfl) ?_
  have h11 := s11
  have h20 := fun H => s20 39 H N P W f1 f2 f3 ex no th
  have h32 := fun H => s32 33 H N P W f1 f2 f3 ex no th px py hN hP hW
  have h33 := fun H => s33 33 H N P W f1 f2 f3 ex no th px py hN hW
  have h34 := fun H => s34 30 H N P W f1 f2 f3 ex no th y hN hP hW
  have h35 := fun H => s35 32 H N P W f1 f2 f3 ex no th y hN hW
  have h31 := fun H => s31 39 H (hrL (atR W ex) N P th no y N.length) (hrL (atR W ex) N P th no y N.length) false false (Nat.le_trans (hrL_len _) hN)
  have h31' := fun H => s31n 39 H
  cases hok : okI N P W ex no th with
  | false =>
    simp only [hok, HrV, cond_false] at h32 h33 h34 h35
    simp only [c9, heap0, go_sem, Int.cast_ofNat_Int, Int.reduceToNat, Nat.reduceAdd, Nat.reduceBEq, Nat.reduceLeDiff, Nat.reduceLT, Nat.reduceMul, Nat.reduceSub, Int.reduceEq, Int.reduceLT, Int.reduceLE, Int.reduceNeg, h11, h20]
    repeat' (with_reducible refine fork_split (fun _ => ?_) (fun _ => ?_) <;> simp only [*, go_sem, Int.cast_ofNat_Int, Int.reduceToNat, Nat.reduceAdd, Nat.reduceBEq, Nat.reduceLeDiff, Nat.reduceLT, Nat.reduceMul, Nat.reduceSub, Int.reduceEq, Int.reduceLT, Int.reduceLE, Int.reduceNeg, h32, h33, h34, h35, h31'])
  | true =>
    cases hin : inN N y with
    | false =>
      simp only [hok, hin, HrV, cond_false, cond_true] at h32 h33 h34 h35
      simp only [c9, heap0, go_sem, Int.cast_ofNat_Int, Int.reduceToNat, Nat.reduceAdd, Nat.reduceBEq, Nat.reduceLeDiff, Nat.reduceLT, Nat.reduceMul, Nat.reduceSub, Int.reduceEq, Int.reduceLT, Int.reduceLE, Int.reduceNeg, h11, h20]
      repeat' (with_reducible refine fork_split (fun _ => ?_) (fun _ => ?_) <;> simp only [*, go_sem, Int.cast_ofNat_Int, Int.reduceToNat, Nat.reduceAdd, Nat.reduceBEq, Nat.reduceLeDiff, Nat.reduceLT, Nat.reduceMul, Nat.reduceSub, Int.reduceEq, Int.reduceLT, Int.reduceLE, Int.reduceNeg, h32, h33, h34, h35, h31'])
    | true =>
      simp only [hok, hin, HrV, cond_true] at h32 h33 h34 h35
      simp only [c9, heap0, go_sem, Int.cast_ofNat_Int, Int.reduceToNat, Nat.reduceAdd, Nat.reduceBEq, Nat.reduceLeDiff, Nat.reduceLT, Nat.reduceMul, Nat.reduceSub, Int.reduceEq, Int.reduceLT, Int.reduceLE, Int.reduceNeg, h11, h20]
      repeat' (with_reducible refine fork_split (fun _ => ?_) (fun _ => ?_) <;> simp only [*, go_sem, Int.cast_ofNat_Int, Int.reduceToNat, Nat.reduceAdd, Nat.reduceBEq, Nat.reduceLeDiff, Nat.reduceLT, Nat.reduceMul, Nat.reduceSub, Int.reduceEq, Int.reduceLT, Int.reduceLE, Int.reduceNeg, h32, h33, h34, h35, h31])
theorem law9 (xs : List SV) (h : FitsAll [siteD, (true, [.int .i64, .int .i64]), (false, [.int .i64])] xs) : ∃ m, call1 T m (.fn 9) xs heap0 = some (.bool true, heap0) := by
  obtain ⟨x1, r1, rfl, h1, h⟩ := fitsAll_cons h
  obtain ⟨x2, r2, rfl, h2, h⟩ := fitsAll_cons h
  obtain ⟨x3, r3, rfl, h3, h⟩ := fitsAll_cons h
  cases fitsAll_nil h
  obtain ⟨N, P, W, f1, f2, f3, ex, no, th, rfl, hN, hP, hW⟩ := site_of h1
  obtain ⟨cs, rfl, k⟩ := fitsA_agg h2
  obtain ⟨a, _, rfl, _, k⟩ := fitsL_i k
  obtain ⟨b, _, rfl, _, k⟩ := fitsL_i k
  cases fitsL_nil' k
  obtain ⟨y, rfl, _⟩ := fits_int (fitsA_one h3)
  exact ⟨41, s9 N P W f1 f2 f3 ex no th a b y hN hP hW⟩
end Go.Sh
namespace Go.Sh
set_option linter.unusedSectionVars false
set_option linter.unnecessarySimpa false
set_option linter.unusedVariables false
set_option linter.unusedSimpArgs false
set_option maxRecDepth 100000
set_option maxHeartbeats 4000000
theorem x22 : T 22 = some (stdClone 5 40 [.int .i64 0, .int .i64 0, .int .i64 0, .int .i64 0, .int .i64 0]) := e22
theorem wls_still (W : List Wl) : Still (wlsS W) := by
  intro cs hcs c hc
  simp only [wlsS, List.mem_map] at hcs
  obtain ⟨h, _, rfl⟩ := hcs
  simp only [List.mem_cons, List.not_mem_nil, or_false] at hc
  rcases hc with rfl | rfl | rfl | rfl | rfl <;> exact ⟨by simp [SV.refs], fun N H d => by simp only [frz]⟩
theorem wls_snoc (W : List Wl) (w : Wl) : wlsS W ++ [wlC w] = wlsS (W ++ [w]) := by simp [wlsS]
theorem atR_snoc (W : List Wl) (w : Wl) (ex a b p c d : Int) : atR (W ++ [w]) ex a b p c d = stepR a b c d (atR W ex a b p c d) w := by simp [atR, List.foldl_append]
theorem start_le {ex a b p c d : Int} (hp : powI p = true) : startI ex a b p c d ≤ p := by
  have q1 := quo_le hp (mI_ge a b c d)
  have hle : w64 ((w64 (p * 100)).tdiv (mI a b c d)) ≤ p := by
    rw [q1.2]
    have hp' := pow_iff.1 hp
    exact Int.ediv_le_of_le_mul (by have := mI_ge a b c d; omega) (Int.mul_le_mul_of_nonneg_left (mI_ge a b c d) hp'.1)
  have q2 := quo_le q1.1 (mI_ge a b c d)
  have hle2 : w64 ((w64 (w64 ((w64 (p * 100)).tdiv (mI a b c d)) * 100)).tdiv (mI a b c d)) ≤ w64 ((w64 (p * 100)).tdiv (mI a b c d)) := by
    rw [q2.2]
    have hp' := pow_iff.1 q1.1
    exact Int.ediv_le_of_le_mul (by have := mI_ge a b c d; omega) (Int.mul_le_mul_of_nonneg_left (mI_ge a b c d) hp'.1)
  simp only [startI]
  split <;> omega
theorem at_le {N : List (Int × Int)} {P : List Int} {W : List Wl} {ex no th a b p c d : Int} (h : okI N P W ex no th = true) (ha : argI a b p c d = true) : powI (atR W ex a b p c d) = true ∧ atR W ex a b p c d ≤ p := by
  have h0 := ha
  simp only [argI, Bool.and_eq_true] at ha
  obtain ⟨⟨h1, h2⟩, h3⟩ := ha
  have := fold_eq h1 h2 W _ (start_pow (ex := ex) (a := a) (b := b) (c := c) (d := d) h3) (ok_walls h).1
  have hs := start_le (ex := ex) (a := a) (b := b) (c := c) (d := d) h3
  refine ⟨this.2.1, ?_⟩
  have := this.2.2
  unfold atR
  omega
theorem ok_more {N : List (Int × Int)} {P : List Int} {W : List Wl} {ex no th : Int} {w : Wl} (h : okI N P (W ++ [w]) ex no th = true) : badW w = false := by
  have := (ok_walls h).1
  simp only [List.any_append, List.any_cons, List.any_nil, Bool.or_false, Bool.or_eq_false_iff] at this
  exact this.2
theorem s7 (N : List (Int × Int)) (P : List Int) (W : List Wl) (f1 f2 f3 : Bool) (ex no th : Int) (w : Wl) (a b c d p x y : Int) (hN : N.length ≤ maxLen) (hP : P.length ≤ maxLen) (hW : W.length ≤ maxLen) :
    call1 T 41 (.fn 7) [st N P W f1 f2 f3 ex no th, .agg (wlC w), qy a b c d p x y] heap0 = some (.bool true, heap0) := by
  refine call_pure e7 (by rfl) ?_
  have h11 := s11
  have h20 := fun H => s20 39 H N P W f1 f2 f3 ex no th
  simp only [c7, heap0, go_sem, Int.cast_ofNat_Int, Int.reduceToNat, Nat.reduceAdd, Nat.reduceBEq, Nat.reduceLeDiff, Nat.reduceLT, Nat.reduceMul, Nat.reduceSub, Int.reduceEq, Int.reduceLT, Int.reduceLE, Int.reduceNeg, h11, h20]
  cases hf : fewI N P W with
  | false => simp only [go_sem, Int.cast_ofNat_Int, Int.reduceToNat, Nat.reduceAdd, Nat.reduceBEq, Nat.reduceLeDiff, Nat.reduceLT, Nat.reduceMul, Nat.reduceSub, Int.reduceEq, Int.reduceLT, Int.reduceLE, Int.reduceNeg]
  | true =>
    have hf' : (N.length ≤ 40 ∧ P.length ≤ 40) ∧ W.length ≤ 40 := by simpa [fewI] using hf
    by_cases h31 : 31 < W.length
    · simp only [go_sem, Int.cast_ofNat_Int, Int.reduceToNat, Nat.reduceAdd, Nat.reduceBEq, Nat.reduceLeDiff, Nat.reduceLT, Nat.reduceMul, Nat.reduceSub, Int.reduceEq, Int.reduceLT, Int.reduceLE, Int.reduceNeg, decide_eq_true (show (31 : Int) < (W.length : Int) by omega)]
    · have q1 : decide ((31 : Int) < (W.length : Int)) = false := decide_eq_false (by omega)
      have h21 := fun H => s21 31 H N P W f1 f2 f3 ex no th a b p c d hN hP hW
      rw [AtV_eq] at h21
      have hW1 : (W ++ [w]).length ≤ maxLen := by simp; exact Nat.le_trans (show W.length + 1 ≤ 41 by omega) (by decide)
      have h21m := fun H => s21 31 H N P (W ++ [w]) f1 f2 false ex no th a b p c d hN hP hW1
      rw [AtV_eq] at h21m
      have h23m := fun H => s23 34 H N P (W ++ [w]) f1 f2 false ex no th hN hP hW1
      have h22 := fun bl es ro => stdCloneK_ok (T := T) (f := 22) (n := 39) (z := 5) (z' := 5) (L := wlsS W) (fl := f3) x22 (.inl rfl) (by rw [wlsS_len]; exact Nat.le_trans (show W.length * 40 ≤ 10000 by omega) (by decide)) bl es ro
      simp only [wlsS_len] at h22
      have h15 := fun H => s15 35 H a b c d w.a w.b w.c w.d w.f
      have hroom : decide ((W.length + 1) * 40 ≤ mostLen) = true := decide_eq_true (Nat.le_trans (show (W.length + 1) * 40 ≤ 10000 by omega) (by decide))
      have hfz6 := fun H v => (wls_still (W ++ [w])).fz 0 H 6 v (W.length + 1) 5 false (by simp [wlsS])
      have hfz5 := fun H v => (wls_still (W ++ [w])).fz 0 H 5 v (W.length + 1) 5 false (by simp [wlsS])
      cases hok : okI N P W ex no th with
      | false =>
        simp only [hok, AtV, AtE, Bool.false_and, cond_false] at h21
        simp only [go_sem, Int.cast_ofNat_Int, Int.reduceToNat, Nat.reduceAdd, Nat.reduceBEq, Nat.reduceLeDiff, Nat.reduceLT, Nat.reduceMul, Nat.reduceSub, Int.reduceEq, Int.reduceLT, Int.reduceLE, Int.reduceNeg, q1, h21]
      | true =>
        cases ha : argI a b p c d with
        | false =>
          simp only [hok, ha, AtV, AtE, Bool.and_false, cond_false, cond_true] at h21
          simp only [go_sem, Int.cast_ofNat_Int, Int.reduceToNat, Nat.reduceAdd, Nat.reduceBEq, Nat.reduceLeDiff, Nat.reduceLT, Nat.reduceMul, Nat.reduceSub, Int.reduceEq, Int.reduceLT, Int.reduceLE, Int.reduceNeg, q1, h21]
        | true =>
          have hle := at_le hok ha
          have hpp := pow_iff.1 hle.1
          simp only [hok, ha, AtV, AtE, Bool.and_self, cond_true] at h21
          have r1 : decide (atR W ex a b p c d < 0) = false := decide_eq_false (by omega)
          have r2 : decide (p < atR W ex a b p c d) = false := decide_eq_false (by omega)
          simp only [go_sem, Int.cast_ofNat_Int, Int.reduceToNat, Nat.reduceAdd, Nat.reduceBEq, Nat.reduceLeDiff, Nat.reduceLT, Nat.reduceMul, Nat.reduceSub, Int.reduceEq, Int.reduceLT, Int.reduceLE, Int.reduceNeg, q1, h21, r1, r2, put1, h22, apB_grow _ _ _ _ _ _ _ wlsS_len, hroom, wls_snoc, hfz6, hfz5]
          cases hok2 : okI N P (W ++ [w]) ex no th with
          | false =>
            simp only [hok2, AtV, AtE, Bool.false_and, cond_false] at h21m
            simp only [go_sem, Int.cast_ofNat_Int, Int.reduceToNat, Nat.reduceAdd, Nat.reduceBEq, Nat.reduceLeDiff, Nat.reduceLT, Nat.reduceMul, Nat.reduceSub, Int.reduceEq, Int.reduceLT, Int.reduceLE, Int.reduceNeg, h21m, hfz5, hfz6, h23m, chk_no hok2]
          | true =>
            have hbw := ok_more hok2
            obtain ⟨k1, k2, k3, k4⟩ := badW_iff.1 hbw
            have ha' := ha
            simp only [argI, Bool.and_eq_true] at ha'
            have hcr := cross_eq (point_near ha'.1.1).1 (point_near ha'.1.1).2 (point_near ha'.1.2).1 (point_near ha'.1.2).2 (point_near k1).1 (point_near k1).2 (point_near k2).1 (point_near k2).2
            rw [hcr] at h15
            have hst := step_eq ha'.1.1 ha'.1.2 hle.1 hbw
            simp only [hok2, ha, AtV, AtE, Bool.and_self, cond_true, atR_snoc] at h21m
            simp only [go_sem, Int.cast_ofNat_Int, Int.reduceToNat, Nat.reduceAdd, Nat.reduceBEq, Nat.reduceLeDiff, Nat.reduceLT, Nat.reduceMul, Nat.reduceSub, Int.reduceEq, Int.reduceLT, Int.reduceLE, Int.reduceNeg, h21m, h15]
            cases hx : crossR a b c d w.a w.b w.c w.d with
            | false =>
              have : stepR a b c d (atR W ex a b p c d) w = atR W ex a b p c d := by simp [stepR, hx]
              simp only [go_sem, Int.cast_ofNat_Int, Int.reduceToNat, Nat.reduceAdd, Nat.reduceBEq, Nat.reduceLeDiff, Nat.reduceLT, Nat.reduceMul, Nat.reduceSub, Int.reduceEq, Int.reduceLT, Int.reduceLE, Int.reduceNeg, this]
            | true =>
              simp only [go_sem, Int.cast_ofNat_Int, Int.reduceToNat, Nat.reduceAdd, Nat.reduceBEq, Nat.reduceLeDiff, Nat.reduceLT, Nat.reduceMul, Nat.reduceSub, Int.reduceEq, Int.reduceLT, Int.reduceLE, Int.reduceNeg]
              cases h1000 : decide (w.f = 1000) with
              | true =>
                have hf1 := of_decide_eq_true h1000
                have : stepR a b c d (atR W ex a b p c d) w = atR W ex a b p c d := by
                  simp only [stepR, hx, if_true]
                  rw [(scale_le hle.1 k3 k4).1, hf1]
                  omega
                simp only [go_sem, Int.cast_ofNat_Int, Int.reduceToNat, Nat.reduceAdd, Nat.reduceBEq, Nat.reduceLeDiff, Nat.reduceLT, Nat.reduceMul, Nat.reduceSub, Int.reduceEq, Int.reduceLT, Int.reduceLE, Int.reduceNeg, this]
              | false =>
                have : decide (stepR a b c d (atR W ex a b p c d) w ≤ atR W ex a b p c d) = true := decide_eq_true hst.2.2
                simp only [go_sem, Int.cast_ofNat_Int, Int.reduceToNat, Nat.reduceAdd, Nat.reduceBEq, Nat.reduceLeDiff, Nat.reduceLT, Nat.reduceMul, Nat.reduceSub, Int.reduceEq, Int.reduceLT, Int.reduceLE, Int.reduceNeg, this]
theorem law7 (xs : List SV) (h : FitsAll [siteD, (true, [.int .i64, .int .i64, .int .i64, .int .i64, .int .i64]), (true, [.int .i64, .int .i64, .int .i64, .int .i64, .int .i64, .int .i64, .int .i64])] xs) : ∃ m, call1 T m (.fn 7) xs heap0 = some (.bool true, heap0) := by
  obtain ⟨x1, r1, rfl, h1, h⟩ := fitsAll_cons h
  obtain ⟨x3, r3, rfl, h3, h⟩ := fitsAll_cons h
  obtain ⟨x2, r2, rfl, h2, h⟩ := fitsAll_cons h
  cases fitsAll_nil h
  obtain ⟨N, P, W, f1, f2, f3, ex, no, th, rfl, hN, hP, hW⟩ := site_of h1
  obtain ⟨cs, rfl, k⟩ := fitsA_agg h3
  obtain ⟨w1, _, rfl, _, k⟩ := fitsL_i k
  obtain ⟨w2, _, rfl, _, k⟩ := fitsL_i k
  obtain ⟨w3, _, rfl, _, k⟩ := fitsL_i k
  obtain ⟨w4, _, rfl, _, k⟩ := fitsL_i k
  obtain ⟨w5, _, rfl, _, k⟩ := fitsL_i k
  cases fitsL_nil' k
  obtain ⟨cs, rfl, k⟩ := fitsA_agg h2
  obtain ⟨a, _, rfl, _, k⟩ := fitsL_i k
  obtain ⟨b, _, rfl, _, k⟩ := fitsL_i k
  obtain ⟨c, _, rfl, _, k⟩ := fitsL_i k
  obtain ⟨d, _, rfl, _, k⟩ := fitsL_i k
  obtain ⟨p, _, rfl, _, k⟩ := fitsL_i k
  obtain ⟨x, _, rfl, _, k⟩ := fitsL_i k
  obtain ⟨y, _, rfl, _, k⟩ := fitsL_i k
  cases fitsL_nil' k
  exact ⟨41, s7 N P W f1 f2 f3 ex no th ⟨w1, w2, w3, w4, w5⟩ a b c d p x y hN hP hW⟩
end Go.Sh
namespace Go.Sh
set_option linter.unusedSectionVars false
set_option linter.unnecessarySimpa false
set_option linter.unusedVariables false
set_option linter.unusedSimpArgs false
set_option maxRecDepth 100000
set_option maxHeartbeats 4000000
theorem x60 : T 60 = some stdIdx := e60
theorem x37 : T 37 = some (stdCon 60) := e37
theorem s59 (n : Nat) (H : Heap) (a b : Int) : call1 T (n + 2) (.fn 59) [.int .i64 a, .int .i64 b] H = some (.bool (decide (a < b)), H) := by
  refine call_pure e59 (by rfl) ?_
  simp only [c59, heap0, go_sem, Int.cast_ofNat_Int, Int.reduceToNat, Nat.reduceAdd, Nat.reduceBEq, Nat.reduceLeDiff, Nat.reduceLT, Nat.reduceMul, Nat.reduceSub, Int.reduceEq, Int.reduceLT, Int.reduceLE, Int.reduceNeg, s71]
theorem s36 (n : Nat) (H : Heap) (L : List Int) (f : Bool) (hL : L.length ≤ 1000) (hs : ∀ (i : Nat) x y, L[i]? = some x → L[i + 1]? = some y → x ≤ y) : call1 T (n + 3) (.fn 36) [.lst 1 (intsS L) f] H = some (.bool true, H) := by
  refine call_pure e36 (by rfl) ?_
  simp only [c36, heap0, go_sem, Int.cast_ofNat_Int, Int.reduceToNat, Nat.reduceAdd, Nat.reduceBEq, Nat.reduceLeDiff, Nat.reduceLT, Nat.reduceMul, Nat.reduceSub, Int.reduceEq, Int.reduceLT, Int.reduceLE, Int.reduceNeg]
  refine loop_rule (fun i => ([(0, .lst 1 (intsS L) f), (3, .int .i64 (w64 ((L.length : Int) - 1) - i))], ⟨[], [], 0⟩)) (fun _ => True) (L.length - 1) ?_ trivial ?_
  · simp only [go_sem, Int.cast_ofNat_Int, Int.reduceToNat, Nat.reduceAdd, Nat.reduceBEq, Nat.reduceLeDiff, Nat.reduceLT, Nat.reduceMul, Nat.reduceSub, Int.reduceEq, Int.reduceLT, Int.reduceLE, Int.reduceNeg, Int.sub_zero] <;> rfl
  · intro i hi _
    by_cases h0 : 2 ≤ L.length ∧ i < L.length - 1
    · have e1 : w64 ((L.length : Int) - 1) - i = ((L.length - 2 - i + 1 : Nat) : Int) := by rw [w64_id (by omega) (by omega)]; omega
      obtain ⟨x, hx⟩ := get_some (l := L) (i := L.length - 2 - i) (by omega)
      obtain ⟨y, hy⟩ := get_some (l := L) (i := L.length - 2 - i + 1) (by omega)
      have hxy := hs _ x y hx hy
      have q1 : decide ((0 : Int) < ((L.length - 2 - i + 1 : Nat) : Int)) = true := decide_eq_true (by omega)
      have q2 : L.length - 2 - i + 1 < L.length := by omega
      have q3 : w64 (((L.length - 2 - i + 1 : Nat) : Int) - 1) = ((L.length - 2 - i : Nat) : Int) := by rw [w64_id (by omega) (by omega)]; omega
      have q4 : L.length - 2 - i < L.length := by omega
      have q5 : decide (y < x) = false := decide_eq_false (by omega)
      have q6 : w64 ((L.length : Int) - 1) - ((i + 1 : Nat) : Int) = ((L.length - 2 - i : Nat) : Int) := by rw [w64_id (by omega) (by omega)]; omega
      simp only [go_sem, Int.cast_ofNat_Int, Int.reduceToNat, Nat.reduceAdd, Nat.reduceBEq, Nat.reduceLeDiff, Nat.reduceLT, Nat.reduceMul, Nat.reduceSub, Int.reduceEq, Int.reduceLT, Int.reduceLE, Int.reduceNeg, e1, q1, q2, hy, q3, q4, hx, s59, q5, q6]
      refine ⟨h0.2, by first | trivial | rfl, trivial⟩
    · have q1 : decide (0 < w64 ((L.length : Int) - 1) - i) = false := decide_eq_false (by rw [w64_id (by omega) (by omega)]; omega)
      simp only [go_sem, Int.cast_ofNat_Int, Int.reduceToNat, Nat.reduceAdd, Nat.reduceBEq, Nat.reduceLeDiff, Nat.reduceLT, Nat.reduceMul, Nat.reduceSub, Int.reduceEq, Int.reduceLT, Int.reduceLE, Int.reduceNeg, q1]
theorem hrL_mem {at1 N P th no y} {k : Nat} {x : Int} : x ∈ hrL at1 N P th no y k ↔ ∃ i : Nat, i < k ∧ heardB (btw at1 N P (i : Int) y) th no = true ∧ (i : Int) = x := by
  simp only [hrL, List.mem_map, List.mem_filter, List.mem_range]
  constructor
  · rintro ⟨i, ⟨h1, h2⟩, h3⟩; exact ⟨i, h1, h2, h3⟩
  · rintro ⟨i, h1, h2, h3⟩; exact ⟨i, ⟨h1, h2⟩, h3⟩
theorem hrL_sorted {at1 N P th no y} (k : Nat) : ∀ (i : Nat) a b, (hrL at1 N P th no y k)[i]? = some a → (hrL at1 N P th no y k)[i + 1]? = some b → a ≤ b := by
  have hp : (hrL at1 N P th no y k).Pairwise (· < ·) := by
    unfold hrL
    rw [List.pairwise_map]
    refine List.Pairwise.imp (R := (· < ·)) (fun h => by omega) ?_
    exact List.Pairwise.filter _ List.pairwise_lt_range
  intro i a b ha hb
  rw [List.pairwise_iff_getElem] at hp
  obtain ⟨h1, rfl⟩ := List.getElem?_eq_some_iff.1 ha
  obtain ⟨h2, rfl⟩ := List.getElem?_eq_some_iff.1 hb
  exact Int.le_of_lt (hp i (i + 1) h1 h2 (by omega))
theorem sq_exact {a b c d : Int} (h1 : pointI a b = true) (h2 : pointI c d = true) : sqI a b c d = (a - c) * (a - c) + (b - d) * (b - d) ∧ 0 ≤ (a - c) * (a - c) ∧ 0 ≤ (b - d) * (b - d) := by
  simp only [pointI, Bool.and_eq_true, decide_eq_true_eq] at h1 h2
  have n1 : 0 ≤ (a - c) * (a - c) := by
    rcases Int.le_total 0 (a - c) with h | h
    · exact Int.mul_nonneg h h
    · exact Int.mul_nonneg_of_nonpos_of_nonpos h h
  have n2 : 0 ≤ (b - d) * (b - d) := by
    rcases Int.le_total 0 (b - d) with h | h
    · exact Int.mul_nonneg h h
    · exact Int.mul_nonneg_of_nonpos_of_nonpos h h
  have b1 := wmul (u := a - c) (v := a - c) (by omega) (by omega)
  have b2 := wmul (u := b - d) (v := b - d) (by omega) (by omega)
  refine ⟨?_, n1, n2⟩
  unfold sqI
  rw [w64_id (n := a - c) (by omega) (by omega), w64_id (n := b - d) (by omega) (by omega)]
  generalize (a - c) * (a - c) = X at *
  generalize (b - d) * (b - d) = Y at *
  rw [w64_id (n := X) (by omega) (by omega), w64_id (n := Y) (by omega) (by omega), w64_id (by omega) (by omega)]
theorem sq_zero {a b c d : Int} (h1 : pointI a b = true) (h2 : pointI c d = true) (h : sqI a b c d ≤ 0) : a = c ∧ b = d := by
  obtain ⟨e, n1, n2⟩ := sq_exact h1 h2
  have m1 : (a - c) * (a - c) = 0 := by omega
  have m2 : (b - d) * (b - d) = 0 := by omega
  rw [Int.mul_eq_zero] at m1 m2
  omega
theorem sq_self {a b : Int} (h1 : pointI a b = true) : sqI a b a b = 0 := by
  rw [(sq_exact h1 h1).1]
  simp
theorem bst_min (N : List (Int × Int)) (px py : Int) : ∀ k, (∀ j, j < k → sqI (nd N (bst N px py k)).1 (nd N (bst N px py k)).2 px py ≤ sqI (nd N j).1 (nd N j).2 px py) ∧ ∀ j, j < bst N px py k → sqI (nd N (bst N px py k)).1 (nd N (bst N px py k)).2 px py < sqI (nd N j).1 (nd N j).2 px py
  | 0 => ⟨fun j hj => by omega, fun j hj => by simp [bst] at hj⟩
  | k + 1 => by
    obtain ⟨h1, h2⟩ := bst_min N px py k
    have hle := bst_le N px py k
    rw [bst]
    cases hc : decide (sqI (nd N k).1 (nd N k).2 px py < sqI (nd N (bst N px py k)).1 (nd N (bst N px py k)).2 px py) with
    | true =>
      have hc' := of_decide_eq_true hc
      simp only [cond_true]
      refine ⟨fun j hj => ?_, fun j hj => ?_⟩
      · rcases Nat.lt_or_ge j k with h | h
        · have := h1 j h; omega
        · obtain rfl : j = k := by omega
          exact Int.le_refl _
      · have := h1 j hj; omega
    | false =>
      have hc' := of_decide_eq_false hc
      simp only [cond_false]
      refine ⟨fun j hj => ?_, h2⟩
      rcases Nat.lt_or_ge j k with h | h
      · exact h1 j h
      · obtain rfl : j = k := by omega
        omega
theorem nd_point {N : List (Int × Int)} {P : List Int} {W : List Wl} {ex no th : Int} (h : okI N P W ex no th = true) {i : Nat} (hi : i < N.length) : pointI (nd N i).1 (nd N i).2 = true :=
  (ok_walls h).2.1 _ (List.mem_of_getElem? (nd_get hi))
theorem bst_ok {N : List (Int × Int)} {P : List Int} {W : List Wl} {ex no th : Int} (h : okI N P W ex no th = true) {i : Nat} (hi : i < N.length) : bst N (nd N i).1 (nd N i).2 N.length ≤ i ∧ nd N (bst N (nd N i).1 (nd N i).2 N.length) = nd N i := by
  have hl := bst_le N (nd N i).1 (nd N i).2 N.length
  obtain ⟨h1, h2⟩ := bst_min N (nd N i).1 (nd N i).2 N.length
  have hp := nd_point h hi
  have hz := sq_self hp
  have hm := h1 i hi
  rw [hz] at hm
  have hb : bst N (nd N i).1 (nd N i).2 N.length < N.length := by omega
  refine ⟨?_, ?_⟩
  · rcases Nat.lt_or_ge i (bst N (nd N i).1 (nd N i).2 N.length) with h3 | h3
    · have h4 := h2 i h3
      rw [hz] at h4
      obtain ⟨e, n1, n2⟩ := sq_exact (nd_point h hb) hp
      omega
    · exact h3
  · obtain ⟨e1, e2⟩ := sq_zero (nd_point h hb) hp hm
    exact Prod.ext e1 e2
theorem heard_eq {p th no : Int} (hr : rightI th no = true) : heardB p th no = decide (w64 (th * no) ≤ w64 (1000 * p)) := by
  simp only [rightI, Bool.and_eq_true, decide_eq_true_eq] at hr
  unfold heardB
  rw [Int.add_zero, w64_id (n := no) (by omega) (by omega)]
theorem heard_zero {th no : Int} (hr : rightI th no = true) : heardB 0 th no = false := by
  rw [heard_eq hr]
  simp only [rightI, Bool.and_eq_true, decide_eq_true_eq] at hr
  rw [decide_eq_false_iff_not]
  have h1 : 1 * 1 ≤ th * no := Int.mul_le_mul (by omega) (by omega) (by omega) (by omega)
  have h2 : th * no ≤ 100000 * 68719476736 := Int.mul_le_mul (by omega) (by omega) (by omega) (by omega)
  rw [w64_id (n := th * no) (by omega) (by omega), w64_id (by omega) (by omega)]
  omega
end Go.Sh
namespace Go.Sh
set_option linter.unusedSectionVars false
set_option linter.unnecessarySimpa false
set_option linter.unusedVariables false
set_option linter.unusedSimpArgs false
set_option maxRecDepth 100000
set_option maxHeartbeats 4000000
theorem pd_get {P : List Int} {i : Nat} (h : i < P.length) : P[i]? = some (P.getD i 0) := by
  rw [List.getD_eq_getElem?_getD, List.getElem?_eq_getElem h]; rfl
theorem s10 (N : List (Int × Int)) (P : List Int) (W : List Wl) (f1 f2 f3 : Bool) (ex no th : Int) (hN : N.length ≤ maxLen) (hP : P.length ≤ maxLen) (hW : W.length ≤ maxLen) :
    call1 T 41 (.fn 10) [st N P W f1 f2 f3 ex no th] heap0 = some (.bool true, heap0) := by
  refine call_pure e10 (by rfl) ?_
  have h11 := s11
  have h20 := fun H => s20 39 H N P W f1 f2 f3 ex no th
  have h23 := fun H => s23 34 H N P W f1 f2 f3 ex no th hN hP hW
  have h27 := fun H => s27 30 H N P W f1 f2 f3 ex no th hN hP hW
  simp only [c10, heap0, go_sem, Int.cast_ofNat_Int, Int.reduceToNat, Bool.true_xor, Bool.false_xor, Bool.xor_true, Bool.xor_false, Nat.reduceAdd, Nat.reduceBEq, Nat.reduceLeDiff, Nat.reduceLT, Nat.reduceMul, Nat.reduceSub, Int.reduceEq, Int.reduceLT, Int.reduceLE, Int.reduceNeg, h11, h20]
  cases hf : fewI N P W with
  | false => simp only [go_sem, Int.cast_ofNat_Int, Int.reduceToNat, Bool.true_xor, Bool.false_xor, Bool.xor_true, Bool.xor_false, Nat.reduceAdd, Nat.reduceBEq, Nat.reduceLeDiff, Nat.reduceLT, Nat.reduceMul, Nat.reduceSub, Int.reduceEq, Int.reduceLT, Int.reduceLE, Int.reduceNeg]
  | true =>
    cases hok : okI N P W ex no th with
    | false =>
      simp only [hok, cond_false] at h27
      simp only [go_sem, Int.cast_ofNat_Int, Int.reduceToNat, Bool.true_xor, Bool.false_xor, Bool.xor_true, Bool.xor_false, Nat.reduceAdd, Nat.reduceBEq, Nat.reduceLeDiff, Nat.reduceLT, Nat.reduceMul, Nat.reduceSub, Int.reduceEq, Int.reduceLT, Int.reduceLE, Int.reduceNeg, h27, h23, chk_no hok]
    | true =>
      have hl := ok_len hok
      have hr := ok_right hok
      have hwl := ok_walls hok
      simp only [hok, cond_true, tab_eq hok] at h27
      have hlen : (tabT (atR W ex) N P N.length).length = N.length := tabT_len
      have hPl : decide ((P.length : Int) = (N.length : Int)) = true := decide_eq_true (by omega)
      simp only [go_sem, Int.cast_ofNat_Int, Int.reduceToNat, Bool.true_xor, Bool.false_xor, Bool.xor_true, Bool.xor_false, Nat.reduceAdd, Nat.reduceBEq, Nat.reduceLeDiff, Nat.reduceLT, Nat.reduceMul, Nat.reduceSub, Int.reduceEq, Int.reduceLT, Int.reduceLE, Int.reduceNeg, h27, hlen, hPl]
      refine loop_rule (fun i => ([(1, .ptr 0 0 0 0), (3, .lst 1 (tabT (atR W ex) N P N.length) false), (56, .int .i64 N.length), (57, .int .i64 i)], ⟨[.box [.lst 2 (ptsS N) f1, .lst 1 (intsS P) f2, .lst 5 (wlsS W) f3, .int .i64 ex, .int .i64 no, .int .i64 th]], [], 0⟩)) (fun _ => True) N.length ?_ trivial ?_
      · simp only [go_sem, Int.cast_ofNat_Int, Int.reduceToNat, Bool.true_xor, Bool.false_xor, Bool.xor_true, Bool.xor_false, Nat.reduceAdd, Nat.reduceBEq, Nat.reduceLeDiff, Nat.reduceLT, Nat.reduceMul, Nat.reduceSub, Int.reduceEq, Int.reduceLT, Int.reduceLE, Int.reduceNeg] <;> rfl
      · intro i hi _
        rcases Nat.lt_or_ge i N.length with hlt | hge
        · have hs := w64_succ hlt hN
          have hin : inN N i = true := by rw [inN_iff]; omega
          have h34 := fun H => s34 30 H N P W f1 f2 f3 ex no th i hN hP hW
          simp only [HrV, hok, hin, cond_true] at h34
          have hLl := hrL_len (at1 := atR W ex) (N := N) (P := P) (th := th) (no := no) (y := (i : Int)) N.length
          have h36 := fun H => s36 37 H (hrL (atR W ex) N P th no i N.length) false (by omega) (hrL_sorted _)
          have h37 : ∀ H x, call1 T 40 (.fn 37) [.lst 1 (intsS (hrL (atR W ex) N P th no i N.length)) false, .int .i64 x] H = some (.bool (decide (x ∈ hrL (atR W ex) N P th no i N.length)), H) := fun H x =>
            stdCon_ok (T := T) (f := 37) (n := 38) (H := H) (v := .lst 1 (iS (hrL (atR W ex) N P th no i N.length)) false) (M := hrL (atR W ex) N P th no i N.length) (x := x) x37 x60 (.lst 1 false (.inl rfl)) (Nat.le_trans hLl hN)
          have hself : decide ((i : Int) ∈ hrL (atR W ex) N P th no i N.length) = false := decide_eq_false (fun hm => by
            obtain ⟨k, h1, h2, h3⟩ := hrL_mem.1 hm
            rw [h3] at h2
            have : btw (atR W ex) N P (i : Int) (i : Int) = 0 := by simp [btw]
            rw [this, heard_zero hr] at h2
            cases h2)
          simp only [go_sem, Int.cast_ofNat_Int, Int.reduceToNat, Bool.true_xor, Bool.false_xor, Bool.xor_true, Bool.xor_false, Nat.reduceAdd, Nat.reduceBEq, Nat.reduceLeDiff, Nat.reduceLT, Nat.reduceMul, Nat.reduceSub, Int.reduceEq, Int.reduceLT, Int.reduceLE, Int.reduceNeg, hlt, h34, h36, h37, hself]
          refine loop_post (fun j => ([(1, .ptr 0 0 0 0), (3, .lst 1 (tabT (atR W ex) N P N.length) false), (5, .int .i64 i), (6, .lst 1 (intsS (hrL (atR W ex) N P th no i N.length)) false), (56, .int .i64 N.length), (57, .int .i64 i), (80, .int .i64 N.length), (81, .int .i64 j)], ⟨[.box [.lst 2 (ptsS N) f1, .lst 1 (intsS P) f2, .lst 5 (wlsS W) f3, .int .i64 ex, .int .i64 no, .int .i64 th]], [], 0⟩)) (fun _ => True) N.length ?_ trivial ?_
          · simp only [go_sem, Int.cast_ofNat_Int, Int.reduceToNat, Bool.true_xor, Bool.false_xor, Bool.xor_true, Bool.xor_false, Nat.reduceAdd, Nat.reduceBEq, Nat.reduceLeDiff, Nat.reduceLT, Nat.reduceMul, Nat.reduceSub, Int.reduceEq, Int.reduceLT, Int.reduceLE, Int.reduceNeg] <;> rfl
          · intro j hj _
            rcases Nat.lt_or_ge j N.length with hlt2 | hge2
            · have hs2 := w64_succ hlt2 hN
              have hii : inI N j i = true := inI_nat hlt2 hlt
              have hbq := btw_eq (x := j) (y := i) hok hii
              have h25 := fun H => s25 30 H N P W f1 f2 f3 ex no th j i hN hP hW
              simp only [hok, hii, AtV, AtE, Bool.and_self, cond_true, hbq.1] at h25
              have hjP : j < P.length := by omega
              have harg : argI (nd N j).1 (nd N j).2 (P.getD j 0) (nd N i).1 (nd N i).2 = true := by
                simp only [argI, Bool.and_eq_true]
                exact ⟨⟨nd_point hok hlt2, nd_point hok hlt⟩, hwl.2.2 _ (List.mem_of_getElem? (pd_get hjP))⟩
              have h21 := fun H => s21 31 H N P W f1 f2 f3 ex no th (nd N j).1 (nd N j).2 (P.getD j 0) (nd N i).1 (nd N i).2 hN hP hW
              rw [AtV_eq] at h21
              simp only [hok, harg, AtV, AtE, Bool.and_self, cond_true] at h21
              have htab : (tabT (atR W ex) N P N.length)[j]? = some [.lst 1 (rowT (atR W ex) N P j N.length) false] := by simp [tabT, hlt2]
              have hrow : (rowT (atR W ex) N P j N.length)[i]? = some [.int .i64 (btw (atR W ex) N P j i)] := by simp [rowT, hlt]
              have hrl : (rowT (atR W ex) N P j N.length).length = N.length := rowT_len
              have hcon : decide ((j : Int) ∈ hrL (atR W ex) N P th no i N.length) = decide (w64 (th * no) ≤ w64 (1000 * btw (atR W ex) N P j i)) := by
                rw [← heard_eq hr, Bool.eq_iff_iff, decide_eq_true_eq, hrL_mem]
                constructor
                · rintro ⟨k, h1, h2, h3⟩; rw [h3] at h2; exact h2
                · intro h; exact ⟨j, hlt2, h, rfl⟩
              have hxx : ∀ b : Bool, (b != b) = false := fun b => by cases b <;> rfl
              cases hji : decide ((j : Int) = (i : Int)) with
              | true =>
                have hb0 : btw (atR W ex) N P (j : Int) (i : Int) = 0 := by simp [btw, hji]
                rw [hb0] at hrow hcon h25
                simp only [go_sem, Int.cast_ofNat_Int, Int.reduceToNat, Bool.true_xor, Bool.false_xor, Bool.xor_true, Bool.xor_false, Nat.reduceAdd, Nat.reduceBEq, Nat.reduceLeDiff, Nat.reduceLT, Nat.reduceMul, Nat.reduceSub, Int.reduceEq, Int.reduceLT, Int.reduceLE, Int.reduceNeg, hlt2, hlt, h25, nd_get hlt2, nd_get hlt, hjP, pd_get hjP, h21, hlen, htab, hrl, hrow, hji, h37, hcon, hs2, hxx]
                refine ⟨by first | trivial | omega, by first | trivial | rfl, ?_⟩
                trivial
              | false =>
                have hb1 : btw (atR W ex) N P (j : Int) (i : Int) = atR W ex (nd N j).1 (nd N j).2 (P.getD j 0) (nd N i).1 (nd N i).2 := by simp [btw, hji]
                rw [hb1] at hrow hcon h25
                simp only [go_sem, Int.cast_ofNat_Int, Int.reduceToNat, Bool.true_xor, Bool.false_xor, Bool.xor_true, Bool.xor_false, Nat.reduceAdd, Nat.reduceBEq, Nat.reduceLeDiff, Nat.reduceLT, Nat.reduceMul, Nat.reduceSub, Int.reduceEq, Int.reduceLT, Int.reduceLE, Int.reduceNeg, hlt2, hlt, h25, nd_get hlt2, nd_get hlt, hjP, pd_get hjP, h21, hlen, htab, hrl, hrow, hji, h37, hcon, hs2, hxx]
                refine ⟨by first | trivial | omega, by first | trivial | rfl, ?_⟩
                trivial
            · have hlt2 : ¬ j < N.length := by omega
              obtain ⟨b1, b2⟩ := bst_ok hok hlt
              have h32 := fun H => s32 33 H N P W f1 f2 f3 ex no th (nd N i).1 (nd N i).2 hN hP hW
              simp only [hok, nd_point hok hlt, AtV, AtE, Bool.and_self, cond_true] at h32
              have hbl : bst N (nd N i).1 (nd N i).2 N.length < N.length := by omega
              have r1 : decide ((bst N (nd N i).1 (nd N i).2 N.length : Int) < 0) = false := decide_eq_false (by omega)
              have r2 : decide ((i : Int) < (bst N (nd N i).1 (nd N i).2 N.length : Int)) = false := decide_eq_false (by omega)
              have r3 := nd_get hbl
              rw [b2] at r3
              simp only [go_sem, Int.cast_ofNat_Int, Int.reduceToNat, Bool.true_xor, Bool.false_xor, Bool.xor_true, Bool.xor_false, Nat.reduceAdd, Nat.reduceBEq, Nat.reduceLeDiff, Nat.reduceLT, Nat.reduceMul, Nat.reduceSub, Int.reduceEq, Int.reduceLT, Int.reduceLE, Int.reduceNeg, hlt2, hlt, nd_get hlt, h32, r1, r2, hbl, r3, hs]
              refine ⟨by first | trivial | omega, by first | trivial | rfl, ?_⟩
              trivial
        · obtain rfl : i = N.length := by omega
          simp only [go_sem, Int.cast_ofNat_Int, Int.reduceToNat, Bool.true_xor, Bool.false_xor, Bool.xor_true, Bool.xor_false, Nat.reduceAdd, Nat.reduceBEq, Nat.reduceLeDiff, Nat.reduceLT, Nat.reduceMul, Nat.reduceSub, Int.reduceEq, Int.reduceLT, Int.reduceLE, Int.reduceNeg, Nat.lt_irrefl]
theorem law10 (xs : List SV) (h : FitsAll [siteD] xs) : ∃ m, call1 T m (.fn 10) xs heap0 = some (.bool true, heap0) := by
  obtain ⟨x1, r1, rfl, h1, h⟩ := fitsAll_cons h
  cases fitsAll_nil h
  obtain ⟨N, P, W, f1, f2, f3, ex, no, th, rfl, hN, hP, hW⟩ := site_of h1
  exact ⟨41, s10 N P W f1 f2 f3 ex no th hN hP hW⟩
end Go.Sh
