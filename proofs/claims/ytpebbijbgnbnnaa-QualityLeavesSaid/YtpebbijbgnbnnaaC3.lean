

import Derived.Test.YtpebbijbgnbnnaaC2
namespace Go.Sh
set_option linter.unusedSectionVars false
set_option linter.unnecessarySimpa false
set_option linter.unusedVariables false
set_option linter.unusedSimpArgs false
set_option maxRecDepth 100000
set_option maxHeartbeats 4000000
theorem s16 (n : Nat) (H : Heap) (L : List Nat) (x : Nat) (hL : L.length ≤ maxLen) : call1 T (n + 2) (.fn 16) [.lst 1 (bS L) false, .int .i64 x] H = some (.bool (decide (x ∈ L)), H) := by
  have := stdCon_ok (T := T) (f := 16) (g := 42) (n := n) (H := H) (x := (x : Int)) (M := L.map fun (n : Nat) => (n : Int)) (v := .lst 1 (bS L) false) e16 e42 (by rw [bS_iS]; exact .lst 1 false (.inl rfl)) (by simpa using hL)
  rw [this]
  have e : decide ((x : Int) ∈ L.map fun (n : Nat) => (n : Int)) = decide (x ∈ L) := by
    rw [Bool.eq_iff_iff, decide_eq_true_eq, decide_eq_true_eq, List.mem_map]
    constructor
    · rintro ⟨a, h1, h2⟩
      obtain rfl : a = x := by omega
      exact h1
    · intro h; exact ⟨x, h, rfl⟩
  rw [e]
theorem s34 (n : Nat) (H : Heap) (a b : Int) : call1 T (n + 1) (.fn 34) [.agg [.int .i64 a, .int .i64 b]] H = some (.bool (!(decide (a = 0) && decide (b = 0))), H) := by
  refine call_pure e34 (by rfl) ?_
  simp only [c34, heap0, go_sem, Int.cast_ofNat_Int, Int.reduceToNat, Bool.true_xor, Bool.false_xor, Bool.xor_true, Bool.xor_false, Nat.reduceAdd, Nat.reduceBEq, Nat.reduceLeDiff, Nat.reduceLT, Nat.reduceMul, Nat.reduceSub, Int.reduceEq, Int.reduceLT, Int.reduceLE, Int.reduceNeg]
theorem s33 (n : Nat) (H : Heap) (C : List (Int × Int)) (f : Bool) (hC : C.length ≤ maxLen) : call1 T (n + 3) (.fn 33) [.lst 2 (cS C) f, .fn 34 []] H = some (.bool (C.any fun c => !(decide (c.1 = 0) && decide (c.2 = 0))), H) := by
  have := stdCF_ok (T := T) (f := 33) (g := 48) (n := n + 1) (H := H) (ag := true) (z := 2) (id := 34) (caps := []) (v := .lst 2 (cS C) f) (L := cS C)
    (p := fun r => match r with | [.int _ a, .int _ b] => !(decide (a = 0) && decide (b = 0)) | _ => false) e33 e48 (.lst 2 f (.inl rfl))
    (fun r hr => by simp only [cS, List.mem_map] at hr; obtain ⟨c, _, rfl⟩ := hr; rfl) (fun h => by cases h) (by rw [cS_len]; exact hC)
    (fun r hr bl ro _ => by simp only [cS, List.mem_map] at hr; obtain ⟨c, _, rfl⟩ := hr; exact s34 n _ c.1 c.2) (by simp [SV.refs.refsL])
  rw [this]
  simp only [cS, List.any_map]
  rfl
theorem s7 (r C U D f g h w lo hi le) (hrb : -9223372036854775808 ≤ r ∧ r ≤ 9223372036854775807) : call1 T 41 (.fn 7) [lr r C U D f g h, rul w lo hi le] heap0 = some (.bool true, heap0) := by
  refine call_pure e7 (by rfl) ?_
  have h10 := s10
  have h11 := fun H r C U D f g h => s11 39 H r C U D f g h
  cases k1 : fewB C U D with
  | false => simp only [c7, heap0, go_sem, Int.cast_ofNat_Int, Int.reduceToNat, Bool.true_xor, Bool.false_xor, Bool.xor_true, Bool.xor_false, Nat.reduceAdd, Nat.reduceBEq, Nat.reduceLeDiff, Nat.reduceLT, Nat.reduceMul, Nat.reduceSub, Int.reduceEq, Int.reduceLT, Int.reduceLE, Int.reduceNeg, h10, h11, k1]
  | true =>
    obtain ⟨a1, a2, a3⟩ := few_len k1
    have h13 := fun H => s13 39 H r C U D f g h a1 a2 a3
    have h14 := fun H => s14 30 H r C U D f g h w lo hi le a1 a2 a3
    have h15 := fun H => s15 37 H r C U D false false false
    have h13z := fun H => s13z H
    have h15z := fun H => s15 37 H 0 [] [] [] false false false
    have hb0 : blV 0 [] [] [] = .tup [.lst 0 [] true, .int .i64 1] := rfl
    rw [hb0] at h15z
    have hbl : ∃ l e, blV r C U D = .tup [l, .int .i64 e] := by
      unfold blV
      cases vB r C U D with
      | false => exact ⟨_, _, rfl⟩
      | true => exact ⟨_, _, rfl⟩
    have hzero : ∀ e : Int, decide (e = 0) = false → clV true r C U D w lo hi le = .tup [lz, .int .i64 e] → runK (call1 T 40) (fin1 c7.res fun v H' => frz 0 H' depth1 v) c7.body [] (env0 [lr r C U D f g h, rul w lo hi le]) heap0 () = some (.bool true) := fun e he q => by
      rw [q] at h14
      obtain ⟨l, e2, q2⟩ := hbl
      rw [q2] at h15
      simp only [c7, heap0, go_sem, Int.cast_ofNat_Int, Int.reduceToNat, Bool.true_xor, Bool.false_xor, Bool.xor_true, Bool.xor_false, Nat.reduceAdd, Nat.reduceBEq, Nat.reduceLeDiff, Nat.reduceLT, Nat.reduceMul, Nat.reduceSub, Int.reduceEq, Int.reduceLT, Int.reduceLE, Int.reduceNeg, h10, h11, k1, h13, h14, h15, h13z, h15z, he]
      rfl
    cases hv : vB r C U D with
    | false => exact hzero 1 rfl (by simp only [clV, hv, cond_false])
    | true =>
      cases hr : rightB w lo hi le with
      | false => exact hzero 2 rfl (by simp only [clV, hv, hr, cond_false, cond_true])
      | true =>
        cases h1 : decide (r = 1073741824) with
        | true => exact hzero 13 rfl (by simp only [clV, hv, hr, h1, cond_true])
        | false =>
          clear hzero
          obtain ⟨⟨r0, r1, hC, hU, hD⟩, _⟩ := vB_iff.1 hv
          have hcl := closed_ok hv hr h1
          have hA := AllC_of hv
          have hw1 : w64 (r + 1) = r + 1 := w64_id (by omega) (by omega)
          have hlU := clU_len (r := r) (C := C) (D := D) (w := w) (lo := lo) (le := le) hU
          have hlD := clD_len (r := r) (C := C) (U := U) (w := w) (lo := lo) (hi := hi) (le := le) hD
          have hq : clV true r C U D w lo hi le = .tup [lr (r + 1) C0 (clU r C U D w lo le) (clD r C U D w lo hi le) true true true, .int .i64 0] := by simp only [clV, hv, hr, h1, hw1, cond_false, cond_true]
          rw [hq] at h14
          generalize clU r C U D w lo le = U' at *
          generalize clD r C U D w lo hi le = D' at *
          have hv' := hcl.valid
          have hb : blV r C U D = .tup [.lst 1 (bS (blk U)) false, .int .i64 0] := by simp only [blV, hv, cond_true]
          have hb' : blV (r + 1) C0 U' D' = .tup [.lst 1 (bS (blk U')) false, .int .i64 0] := by simp only [blV, hv', cond_true]
          rw [hb] at h15
          have h13' := fun H => s13 39 H (r + 1) C0 U' D' true true true (by rw [C0_len]; omega) (by omega) (by omega)
          have h15' := fun H => s15 37 H (r + 1) C0 U' D' false false false
          rw [hb'] at h15'
          have h12' := fun H => s12 38 H (r + 1) C0 U' D' false false false
          have hn1 := fr_blk U hU
          have hn2 := fr_blk U' hlU
          have hf1 : 0 ≤ fr U ∧ fr U ≤ 16 := by
            have : U.count 0 ≤ 16 := hU ▸ List.count_le_length
            unfold fr; omega
          have hf2 : 0 ≤ fr U' ∧ fr U' ≤ 16 := by
            have : U'.count 0 ≤ 16 := hlU ▸ List.count_le_length
            unfold fr; omega
          have hw2 : w64 (16 - ((blk U).length : Int)) = fr U := by rw [hn1, w64_id (by omega) (by omega)]; omega
          have hw3 : w64 (16 - ((blk U').length : Int)) = fr U' := by rw [hn2, w64_id (by omega) (by omega)]; omega
          have hen := hcl.enough
          have hlb := upto_len (fun i => !decide (uA U i = 0)) 16
          have hlb' := upto_len (fun i => !decide (uA U' i = 0)) 16
          have hvI : vI (r + 1) C0 U' D' = 0 := vI_yes hv'
          have h33 := fun H => s33 37 H C0 true (by rw [C0_len]; exact ln16)
          have hany : (C0.any fun c => !(decide (c.1 = 0) && decide (c.2 = 0))) = false := by decide
          rw [hany] at h33
          have k2 : (decide (le ≤ fr U) && decide (fr U' < le)) = false := by
            cases q1 : decide (le ≤ fr U) with
            | false => rfl
            | true =>
              have := hen (of_decide_eq_true q1)
              rw [decide_eq_false (by omega)]; rfl
          have k3 : decide (le ≤ fr U) = false ∨ decide (le ≤ fr U) = true ∧ decide (fr U' < le) = false := by
            cases q1 : decide (le ≤ fr U) with
            | false => exact .inl rfl
            | true => rw [q1] at k2; exact .inr ⟨rfl, by simpa using k2⟩
          have hC16 : decide (C.length = 16) = true := decide_eq_true hC
          have hU16 : decide (U'.length = 16) = true := decide_eq_true hlU
          have hD16 : decide (D'.length = 16) = true := decide_eq_true hlD
          simp only [c7, heap0, go_sem, Int.cast_ofNat_Int, Int.reduceToNat, Bool.true_xor, Bool.false_xor, Bool.xor_true, Bool.xor_false, Nat.reduceAdd, Nat.reduceBEq, Nat.reduceLeDiff, Nat.reduceLT, Nat.reduceMul, Nat.reduceSub, Int.reduceEq, Int.reduceLT, Int.reduceLE, Int.reduceNeg, h10, h11, k1, h13, h14, h15, h13', h15', h12', hvI, hw1, hw2, hw3, hC16, hU16, hD16]
          rcases k3 with k3 | ⟨k3, k4⟩
          · simp only [go_sem, Int.cast_ofNat_Int, Int.reduceToNat, Bool.true_xor, Bool.false_xor, Bool.xor_true, Bool.xor_false, Nat.reduceAdd, Nat.reduceBEq, Nat.reduceLeDiff, Nat.reduceLT, Nat.reduceMul, Nat.reduceSub, Int.reduceEq, Int.reduceLT, Int.reduceLE, Int.reduceNeg, k3, hw3]
            refine loop_rule (fun i => ([(2, .ptr 0 0 0 0), (3, .ptr 1 0 0 0), (5, .ptr 2 0 0 0), (7, .lst 1 (bS (blk U)) false), (107, .lst 1 (bS (blk U')) false), (108, .int .i64 (blk U').length), (109, .int .i64 i)],
              ⟨[.box (lrC r C U D f g h), .box [.int .i64 w, .int .i64 lo, .int .i64 hi, .int .i64 le], .box (lrC (r + 1) C0 U' D' true true true)], [], 0⟩)) (fun _ => True) (blk U').length (by simp only [go_sem, Int.cast_ofNat_Int, Int.reduceToNat, Bool.true_xor, Bool.false_xor, Bool.xor_true, Bool.xor_false, Nat.reduceAdd, Nat.reduceBEq, Nat.reduceLeDiff, Nat.reduceLT, Nat.reduceMul, Nat.reduceSub, Int.reduceEq, Int.reduceLT, Int.reduceLE, Int.reduceNeg]; rfl) trivial ?_
            intro i hi' _
            rcases Nat.lt_or_ge i (blk U').length with hlt | hge
            · obtain ⟨c, hc⟩ := getS hlt
              obtain ⟨c16, cne⟩ := upto_mem.1 (List.mem_of_getElem? hc)
              have hw : w64 ((i : Int) + 1) = ((i + 1 : Nat) : Int) := w64_suc (n := 16) (Nat.lt_of_lt_of_le hlt hlb') ln16
              have hcn : decide ((c : Int) < 0) = false := decide_eq_false (by omega)
              have hcg : decide ((16 : Int) ≤ (c : Int)) = false := decide_eq_false (by omega)
              have h16 := fun H => s16 38 H (blk U) c (Nat.le_trans hlb ln16)
              cases hm : decide (c ∈ blk U) with
              | true =>
                rw [hm] at h16
                simp only [go_sem, Int.cast_ofNat_Int, Int.reduceToNat, Bool.true_xor, Bool.false_xor, Bool.xor_true, Bool.xor_false, Nat.reduceAdd, Nat.reduceBEq, Nat.reduceLeDiff, Nat.reduceLT, Nat.reduceMul, Nat.reduceSub, Int.reduceEq, Int.reduceLT, Int.reduceLE, Int.reduceNeg, hlt, hc, hcn, hcg, h16, hw]
                exact ⟨by first | trivial | omega, by first | trivial | rfl, trivial⟩
              | false =>
                rw [hm] at h16
                have hz : uA U c = 0 := by
                  rw [decide_eq_false_iff_not] at hm
                  refine Classical.byContradiction fun hne => hm (upto_mem.2 ⟨c16, by simp [hne]⟩)
                have hne : uA U' c ≠ 0 := by simpa using cne
                obtain ⟨hbd, hU'⟩ := (hcl.keep c c16 hne).resolve_left (fun h => h hz)
                obtain ⟨cc, hcc⟩ := getS (l := C) (i := c) (by omega)
                obtain ⟨u, hu⟩ := getS (l := U') (i := c) (by omega)
                obtain ⟨d, hd⟩ := getS (l := D') (i := c) (by omega)
                rw [uA_of hu, uA_of hd] at hU'
                simp only [badI, cA_of hcc, Bool.and_eq_true, Bool.not_eq_true'] at hbd
                have h20 := fun H => s20 38 H cc.1 cc.2
                have hra : raV cc.1 cc.2 = .tup [.int .i64 (rtV cc.1 cc.2), .int .i64 0] := by simp only [raV, vB_cB hv hcc, cond_true]
                rw [hra] at h20
                have hrt : decide (lo ≤ rtV cc.1 cc.2) = false := decide_eq_false (by have := of_decide_eq_true hbd.2; omega)
                have hdb : w64 (r + 1 + d) = r + 1 + d := by
                  have := (vB_iff.1 hv').2 c c16
                  rw [okI_uA C0_len hlU hlD c16, okAt_iff (by omega) (by have := of_decide_eq_false h1; omega), uA_of hd, uA_of hu] at this
                  rw [w64_id (by omega) (by omega)]
                have hlC : decide ((c : Int) < (C.length : Int)) = true := decide_eq_true (by omega)
                have hlU2 : decide ((c : Int) < (U'.length : Int)) = true := decide_eq_true (by omega)
                have hlD2 : decide ((c : Int) < (D'.length : Int)) = true := decide_eq_true (by omega)
                have heq : decide (u = r + 1 + d) = true := decide_eq_true hU'
                simp only [go_sem, Int.cast_ofNat_Int, Int.reduceToNat, Bool.true_xor, Bool.false_xor, Bool.xor_true, Bool.xor_false, Nat.reduceAdd, Nat.reduceBEq, Nat.reduceLeDiff, Nat.reduceLT, Nat.reduceMul, Nat.reduceSub, Int.reduceEq, Int.reduceLT, Int.reduceLE, Int.reduceNeg, hlt, hc, hcn, hcg, h16, hcc, hlC, hlU2, hlD2, hu, hd, h20, hbd.1.2, hrt, hdb, heq, hw]
                exact ⟨by first | trivial | omega, by first | trivial | rfl, trivial⟩
            · obtain rfl : i = (blk U').length := by omega
              simp only [go_sem, Int.cast_ofNat_Int, Int.reduceToNat, Bool.true_xor, Bool.false_xor, Bool.xor_true, Bool.xor_false, Nat.reduceAdd, Nat.reduceBEq, Nat.reduceLeDiff, Nat.reduceLT, Nat.reduceMul, Nat.reduceSub, Int.reduceEq, Int.reduceLT, Int.reduceLE, Int.reduceNeg, show decide (((blk U').length : Int) < ((blk U').length : Int)) = false from decide_eq_false (by omega), h33]
          · simp only [go_sem, Int.cast_ofNat_Int, Int.reduceToNat, Bool.true_xor, Bool.false_xor, Bool.xor_true, Bool.xor_false, Nat.reduceAdd, Nat.reduceBEq, Nat.reduceLeDiff, Nat.reduceLT, Nat.reduceMul, Nat.reduceSub, Int.reduceEq, Int.reduceLT, Int.reduceLE, Int.reduceNeg, k3, k4, hw3]
            refine loop_rule (fun i => ([(2, .ptr 0 0 0 0), (3, .ptr 1 0 0 0), (5, .ptr 2 0 0 0), (7, .lst 1 (bS (blk U)) false), (107, .lst 1 (bS (blk U')) false), (108, .int .i64 (blk U').length), (109, .int .i64 i)],
              ⟨[.box (lrC r C U D f g h), .box [.int .i64 w, .int .i64 lo, .int .i64 hi, .int .i64 le], .box (lrC (r + 1) C0 U' D' true true true)], [], 0⟩)) (fun _ => True) (blk U').length (by simp only [go_sem, Int.cast_ofNat_Int, Int.reduceToNat, Bool.true_xor, Bool.false_xor, Bool.xor_true, Bool.xor_false, Nat.reduceAdd, Nat.reduceBEq, Nat.reduceLeDiff, Nat.reduceLT, Nat.reduceMul, Nat.reduceSub, Int.reduceEq, Int.reduceLT, Int.reduceLE, Int.reduceNeg]; rfl) trivial ?_
            intro i hi' _
            rcases Nat.lt_or_ge i (blk U').length with hlt | hge
            · obtain ⟨c, hc⟩ := getS hlt
              obtain ⟨c16, cne⟩ := upto_mem.1 (List.mem_of_getElem? hc)
              have hw : w64 ((i : Int) + 1) = ((i + 1 : Nat) : Int) := w64_suc (n := 16) (Nat.lt_of_lt_of_le hlt hlb') ln16
              have hcn : decide ((c : Int) < 0) = false := decide_eq_false (by omega)
              have hcg : decide ((16 : Int) ≤ (c : Int)) = false := decide_eq_false (by omega)
              have h16 := fun H => s16 38 H (blk U) c (Nat.le_trans hlb ln16)
              cases hm : decide (c ∈ blk U) with
              | true =>
                rw [hm] at h16
                simp only [go_sem, Int.cast_ofNat_Int, Int.reduceToNat, Bool.true_xor, Bool.false_xor, Bool.xor_true, Bool.xor_false, Nat.reduceAdd, Nat.reduceBEq, Nat.reduceLeDiff, Nat.reduceLT, Nat.reduceMul, Nat.reduceSub, Int.reduceEq, Int.reduceLT, Int.reduceLE, Int.reduceNeg, hlt, hc, hcn, hcg, h16, hw]
                exact ⟨by first | trivial | omega, by first | trivial | rfl, trivial⟩
              | false =>
                rw [hm] at h16
                have hz : uA U c = 0 := by
                  rw [decide_eq_false_iff_not] at hm
                  refine Classical.byContradiction fun hne => hm (upto_mem.2 ⟨c16, by simp [hne]⟩)
                have hne : uA U' c ≠ 0 := by simpa using cne
                obtain ⟨hbd, hU'⟩ := (hcl.keep c c16 hne).resolve_left (fun h => h hz)
                obtain ⟨cc, hcc⟩ := getS (l := C) (i := c) (by omega)
                obtain ⟨u, hu⟩ := getS (l := U') (i := c) (by omega)
                obtain ⟨d, hd⟩ := getS (l := D') (i := c) (by omega)
                rw [uA_of hu, uA_of hd] at hU'
                simp only [badI, cA_of hcc, Bool.and_eq_true, Bool.not_eq_true'] at hbd
                have h20 := fun H => s20 38 H cc.1 cc.2
                have hra : raV cc.1 cc.2 = .tup [.int .i64 (rtV cc.1 cc.2), .int .i64 0] := by simp only [raV, vB_cB hv hcc, cond_true]
                rw [hra] at h20
                have hrt : decide (lo ≤ rtV cc.1 cc.2) = false := decide_eq_false (by have := of_decide_eq_true hbd.2; omega)
                have hdb : w64 (r + 1 + d) = r + 1 + d := by
                  have := (vB_iff.1 hv').2 c c16
                  rw [okI_uA C0_len hlU hlD c16, okAt_iff (by omega) (by have := of_decide_eq_false h1; omega), uA_of hd, uA_of hu] at this
                  rw [w64_id (by omega) (by omega)]
                have hlC : decide ((c : Int) < (C.length : Int)) = true := decide_eq_true (by omega)
                have hlU2 : decide ((c : Int) < (U'.length : Int)) = true := decide_eq_true (by omega)
                have hlD2 : decide ((c : Int) < (D'.length : Int)) = true := decide_eq_true (by omega)
                have heq : decide (u = r + 1 + d) = true := decide_eq_true hU'
                simp only [go_sem, Int.cast_ofNat_Int, Int.reduceToNat, Bool.true_xor, Bool.false_xor, Bool.xor_true, Bool.xor_false, Nat.reduceAdd, Nat.reduceBEq, Nat.reduceLeDiff, Nat.reduceLT, Nat.reduceMul, Nat.reduceSub, Int.reduceEq, Int.reduceLT, Int.reduceLE, Int.reduceNeg, hlt, hc, hcn, hcg, h16, hcc, hlC, hlU2, hlD2, hu, hd, h20, hbd.1.2, hrt, hdb, heq, hw]
                exact ⟨by first | trivial | omega, by first | trivial | rfl, trivial⟩
            · obtain rfl : i = (blk U').length := by omega
              simp only [go_sem, Int.cast_ofNat_Int, Int.reduceToNat, Bool.true_xor, Bool.false_xor, Bool.xor_true, Bool.xor_false, Nat.reduceAdd, Nat.reduceBEq, Nat.reduceLeDiff, Nat.reduceLT, Nat.reduceMul, Nat.reduceSub, Int.reduceEq, Int.reduceLT, Int.reduceLE, Int.reduceNeg, show decide (((blk U').length : Int) < ((blk U').length : Int)) = false from decide_eq_false (by omega), h33]
theorem law7 (xs : List SV) (h : FitsAll [(true, lrT), (true, [.int .i64, .int .i64, .int .i64, .int .i64])] xs) : ∃ m, call1 T m (.fn 7) xs heap0 = some (.bool true, heap0) := by
  obtain ⟨x1, r1, rfl, h1, h⟩ := fitsAll_cons h
  obtain ⟨x2, r2, rfl, h2, h⟩ := fitsAll_cons h
  cases fitsAll_nil h
  obtain ⟨r, C, U, D, f1, f2, f3, rfl, hb⟩ := lr_of h1
  obtain ⟨cs, rfl, k⟩ := fitsA_agg h2
  obtain ⟨a, _, rfl, _, k⟩ := fitsL_i k
  obtain ⟨b, _, rfl, _, k⟩ := fitsL_i k
  obtain ⟨c, _, rfl, _, k⟩ := fitsL_i k
  obtain ⟨d, _, rfl, _, k⟩ := fitsL_i k
  cases fitsL_nil' k
  exact ⟨41, s7 r C U D f1 f2 f3 a b c d hb⟩
end Go.Sh
