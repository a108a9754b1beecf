

import Derived.Test.YtpebbijbgnbnnaaC2
namespace Go.Sh
set_option linter.unusedSectionVars false
set_option linter.unnecessarySimpa false
set_option linter.unusedVariables false
set_option linter.unusedSimpArgs false
set_option maxRecDepth 100000
set_option maxHeartbeats 4000000
theorem s16 (n : Nat) (H : Heap) (L : List Nat) (x : Nat) (hL : L.length ≤ maxLen) : call1 T (n + 2) (.fn 16) [.lst 1 (bS L) false, .int .i64 x] H = some (.bool (decide (x ∈ L)), H) := by
  have := stdCon_ok (T := T) (f := 16) (g := 42) (n := n) (H := H) (x := (x : Int)) (M := L.map fun (n : Nat) => (n : Int)) (v := .lst 1 (bS L) false) e16 e42 (by rw [bS_iS]; exact .lst 1 false (.inl rfl)) (by simpa using hL)
  rw [this]
  have e : decide ((x : Int) ∈ L.map fun (n : Nat) => (n : Int)) = decide (x ∈ L) := by
    rw [Bool.eq_iff_iff, decide_eq_true_eq, decide_eq_true_eq, List.mem_map]
    constructor
    · rintro ⟨a, h1, h2⟩
      obtain rfl : a = x := by omega
      exact h1
    · intro h; exact ⟨x, h, rfl⟩
  rw [e]
theorem s34 (n : Nat) (H : Heap) (a b : Int) : call1 T (n + 1) (.fn 34) [.agg [.int .i64 a, .int .i64 b]] H = some (.bool (!(decide (a = 0) && decide (b = 0))), H) := by
  refine call_pure e34 (by rfl) ?_
  simp only [c34, heap0, go_sem, Int.cast_ofNat_Int, Int.reduceToNat, Bool.true_xor, Bool.false_xor, Bool.xor_true, Bool.xor_false, Nat.reduceAdd, Nat.reduceBEq, Nat.reduceLeDiff, Nat.reduceLT, Nat.reduceMul, Nat.reduceSub, Int.reduceEq, Int.reduceLT, Int.reduceLE, Int.reduceNeg]
theorem s33 (n : Nat) (H : Heap) (C : List (Int × Int)) (f : Bool) (hC : C.length ≤ maxLen) : call1 T (n + 3) (.fn 33) [.lst 2 (cS C) f, .fn 34 []] H = some (.bool (C.any fun c => !(decide (c.1 = 0) && decide (c.2 = 0))), H) := by
  have := stdCF_ok (T := T) (f := 33) (g := 48) (n := n + 1) (H := H) (ag := true) (z := 2) (id := 34) (caps := []) (v := .lst 2 (cS C) f) (L := cS C)
    (p := fun r => match r with | [.int _ a, .int _ b] => !(decide (a = 0) && decide (b = 0)) | _ => false) e33 e48 (.lst 2 f (.inl rfl))
    (fun r hr => by simp only [cS, List.mem_map] at hr; obtain ⟨c, _, rfl⟩ := hr; rfl) (fun h => by cases h) (by rw [cS_len]; exact hC)
    (fun r hr bl ro _ => by simp only [cS, List.mem_map] at hr; obtain ⟨c, _, rfl⟩ := hr; exact s34 n _ c.1 c.2) (by simp [SV.refs.refsL])
  rw [this]
  simp only [cS, List.any_map]
  rfl
theorem s7 (r C U D f g h w lo hi le) (hrb : -9223372036854775808 ≤ r ∧ r ≤ 9223372036854775807) : call1 T 41 (.fn 7) [lr r C U D f g h, rul w lo hi le] heap0 = some (.bool true, heap0) := by
  refine call_pure e7 (by rfl) ?_
  have h10 := s10
  have h11 := fun H r C U D f g h => s11 39 H r C U D f g h
  cases k1 : fewB C U D with
  | false => simp only [c7, heap0, go_sem, Int.cast_ofNat_Int, Int.reduceToNat, Bool.true_xor, Bool.false_xor, Bool.xor_true, Bool.xor_false, Nat.reduceAdd, Nat.reduceBEq, Nat.reduceLeDiff, Nat.reduceLT, Nat.reduceMul, Nat.reduceSub, Int.reduceEq, Int.reduceLT, Int.reduceLE, Int.reduceNeg, h10, h11, k1]
  | true =>
    obtain ⟨a1, a2, a3⟩ := few_len k1
    have h13 := fun H => s13 39 H r C U D f g h a1 a2 a3
    have h14 := fun H => s14 30 H r C U D f g h w lo hi le a1 a2 a3
    have h15 := fun H => s15 37 H r C U D false false false
    have h13z := fun H => s13z H
    have h15z := fun H => s15 37 H 0 [] [] [] false false false
    have hb0 : blV 0 [] [] [] = .tup [.lst 0 [] true, .int .i64 1] := rfl
    rw [hb0] at h15z
    have hbl : ∃ l e, blV r C U D = .tup [l, .int .i64 e] := by
      unfold blV
      cases vB r C U D with
      | false => exact ⟨_, _, rfl⟩
      | true => exact ⟨_, _, rfl⟩
    have hzero : ∀ e : Int, decide (e = 0) = false → clV true r C U D w lo hi le = .tup [lz, .int .i64 e] → runK (call1 T 40) (fin1 c7.res fun v H' => frz 0 H' depth1 v) c7.body [] (env0 [lr r C U D f g h, rul w lo hi le]) heap0 () = some (.bool true) := fun e he q => by
      rw [q] at h14
      obtain ⟨l, e2, q2⟩ := hbl
      rw [q2] at h15
      simp only [c7, heap0, go_sem, Int.cast_ofNat_Int, Int.reduceToNat, Bool.true_xor, Bool.false_xor, Bool.xor_true, Bool.xor_false, Nat.reduceAdd, Nat.reduceBEq, Nat.reduceLeDiff, Nat.reduceLT, Nat.reduceMul, Nat.reduceSub, Int.reduceEq, Int.reduceLT, Int.reduceLE, Int.reduceNeg, h10, h11, k1, h13, h14, h15, h13z, h15z, he]
      rfl
    cases hv : vB r C U D with
    | false => exact hzero 1 rfl (by simp only [clV, hv, cond_false])
    | true =>
      cases hr : rightB w lo hi le with
      | false => exact hzero 2 rfl (by simp only [clV, hv, hr, cond_false, cond_true])
      | true =>
        cases h1 : decide (r = 1073741824) with
        | true => exact hzero 13 rfl (by simp only [clV, hv, hr, h1, cond_true])
        | false =>
          clear hzero
          obtain ⟨⟨r0, r1, hC, hU, hD⟩, _⟩ := vB_iff.1 hv
          have hcl := closed_ok hv hr h1
          have hA := AllC_of hv
          have hw1 : w64 (r + 1) = r + 1 := w64_id (by omega) (by omega)
          have hlU := clU_len (r := r) (C := C) (D := D) (w := w) (lo := lo) (le := le) hU
          have hlD := clD_len (r := r) (C := C) (U := U) (w := w) (lo := lo) (hi := hi) (le := le) hD
          have hq : clV true r C U D w lo hi le = .tup [lr (r + 1) C0 (clU r C U D w lo le) (clD r C U D w lo hi le) true true true, .int .i64 0] := by simp only [clV, hv, hr, h1, hw1, cond_false, cond_true]
          rw [hq] at h14
          generalize clU r C U D w lo le = U' at *
          generalize clD r C U D w lo hi le = D' at *
          have hv' := hcl.valid
          have hb : blV r C U D = .tup [.lst 1 (bS (blk U)) false, .int .i64 0] := by simp only [blV, hv, cond_true]
          have hb' : blV (r + 1) C0 U' D' = .tup [.lst 1 (bS (blk U')) false, .int .i64 0] := by simp only [blV, hv', cond_true]
          rw [hb] at h15
          have h13' := fun H => s13 39 H (r + 1) C0 U' D' true true true (by rw [C0_len]; omega) (by omega) (by omega)
          have h15' := fun H => s15 37 H (r + 1) C0 U' D' false false false
          rw [hb'] at h15'
          have h12' := fun H => s12 38 H (r + 1) C0 U' D' false false false
          have hn1 := fr_blk U hU
          have hn2 := fr_blk U' hlU
          have hf1 : 0 ≤ fr U ∧ fr U ≤ 16 := by
            have : U.count 0 ≤ 16 := hU ▸ List.count_le_length
            unfold fr; omega
          have hf2 : 0 ≤ fr U' ∧ fr U' ≤ 16 := by
            have : U'.count 0 ≤ 16 := hlU ▸ List.count_le_length
            unfold fr; omega
          have hw2 : w64 (16 - ((blk U).length : Int)) = fr U := by rw [hn1, w64_id (by omega) (by omega)]; omega
          have hw3 : w64 (16 - ((blk U').length : Int)) = fr U' := by rw [hn2, w64_id (by omega) (by omega)]; omega
          have hen := hcl.enough
          have hlb := upto_len (fun i => !decide (uA U i = 0)) 16
          have hlb' := upto_len (fun i => !decide (uA U' i = 0)) 16
          have hvI : vI (r + 1) C0 U' D' = 0 := vI_yes hv'
          have h33 := fun H => s33 37 H C0 true (by rw [C0_len]; exact ln16)
          have hany : (C0.any fun c => !(decide (c.1 = 0) && decide (c.2 = 0))) = false := by decide
          rw [hany] at h33
          have k2 : (decide (le ≤ fr U) && decide (fr U' < le)) = false := by
            cases q1 : decide (le ≤ fr U) with
            | false => rfl
            | true =>
              have := hen (of_decide_eq_true q1)
              rw [decide_eq_false (by omega)]; rfl
          have k3 : decide (le ≤ fr U) = false ∨ decide (le ≤ fr U) = true ∧ decide (fr U' < le) = false := by
            cases q1 : decide (le ≤ fr U) with
            | false => exact .inl rfl
            | true => rw [q1] at k2; exact .inr ⟨rfl, by simpa using k2⟩
          have hC16 : decide (C.length = 16) = true := decide_eq_true hC
          have hU16 : decide (U'.length = 16) = true := decide_eq_true hlU
          have hD16 : decide (D'.length = 16) = true := decide_eq_true hlD
          simp only [c7, heap0, go_sem, Int.cast_ofNat_Int, Int.reduceToNat, Bool.true_xor, Bool.false_xor, Bool.xor_true, Bool.xor_false, Nat.reduceAdd, Nat.reduceBEq, Nat.reduceLeDiff, Nat.reduceLT, Nat.reduceMul, Nat.reduceSub, Int.reduceEq, Int.reduceLT, Int.reduceLE, Int.reduceNeg, h10, h11, k1, h13, h14, h15, h13', h15', h12', hvI, hw1, hw2, hw3, hC16, hU16, hD16]
          rcases k3 with k3 | ⟨k3, k4⟩
          · simp only [go_sem, Int.cast_ofNat_Int, Int.reduceToNat, Bool.true_xor, Bool.false_xor, Bool.xor_true, Bool.xor_false, Nat.reduceAdd, Nat.reduceBEq, Nat.reduceLeDiff, Nat.reduceLT, Nat.reduceMul, Nat.reduceSub, Int.reduceEq, Int.reduceLT, Int.reduceLE, Int.reduceNeg, k3, hw3]
            refine loop_rule (fun i => ([(2, .ptr 0 0 0 0), (3, .ptr 1 0 0 0), (5, .ptr 2 0 0 0), (7, .lst 1 (bS (blk U)) false), (107, .lst 1 (bS (blk U')) false), (108, .int .i64 (blk U').length), (109, .int .i64 i)],
              ⟨[.box (lrC r C U D f g h), .box [.int .i64 w, .int .i64 lo, .int .i64 hi, .int .i64 le], .box (lrC (r + 1) C0 U' D' true true true)], [], 0⟩)) (fun _ => True) (blk U').length (by simp only [go_sem, Int.cast_ofNat_Int, Int.reduceToNat, Bool.true_xor, Bool.false_xor, Bool.xor_true, Bool.xor_false, Nat.reduceAdd, Nat.reduceBEq, Nat.reduceLeDiff, Nat.reduceLT, Nat.reduceMul, Nat.reduceSub, Int.reduceEq, Int.reduceLT, Int.reduceLE, Int.reduceNeg]; rfl) trivial ?_
            intro i hi' _
            rcases Nat.lt_or_ge i (blk U').length with hlt | hge
            · obtain ⟨c, hc⟩ := getS hlt
              obtain ⟨c16, cne⟩ := upto_mem.1 (List.mem_of_getElem? hc)
              have hw : w64 ((i : Int) + 1) = ((i + 1 : Nat) : Int) := w64_suc (n := 16) (Nat.lt_of_lt_of_le hlt hlb') ln16
              have hcn : decide ((c : Int) < 0) = false := decide_eq_false (by omega)
              have hcg : decide ((16 : Int) ≤ (c : Int)) = false := decide_eq_false (by omega)
              have h16 := fun H => s16 38 H (blk U) c (Nat.le_trans hlb ln16)
              cases hm : decide (c ∈ blk U) with
              | true =>
                rw [hm] at h16
                simp only [go_sem, Int.cast_ofNat_Int, Int.reduceToNat, Bool.true_xor, Bool.false_xor, Bool.xor_true, Bool.xor_false, Nat.reduceAdd, Nat.reduceBEq, Nat.reduceLeDiff, Nat.reduceLT, Nat.reduceMul, Nat.reduceSub, Int.reduceEq, Int.reduceLT, Int.reduceLE, Int.reduceNeg, hlt, hc, hcn, hcg, h16, hw]
                exact ⟨by first | trivial | omega, by first | trivial | rfl, trivial⟩
              | false =>
                rw [hm] at h16
                have hz : uA U c = 0 := by
                  rw [decide_eq_false_iff_not] at hm
                  refine Classical.byContradiction fun hne => hm (upto_mem.2 ⟨c16, by simp [hne]⟩)
                have hne : uA U' c ≠ 0 := by simpa using cne
                obtain ⟨hbd, hU'⟩ := (hcl.keep c c16 hne).resolve_left (fun h => h hz)
                obtain ⟨cc, hcc⟩ := getS (l := C) (i := c) (by omega)
                obtain ⟨u, hu⟩ := getS (l := U') (i := c) (by omega)
                obtain ⟨d, hd⟩ := getS (l := D') (i := c) (by omega)
                rw [uA_of hu, uA_of hd] at hU'
                simp only [badI, cA_of hcc, Bool.and_eq_true, Bool.not_eq_true'] at hbd
                have h20 := fun H => s20 38 H cc.1 cc.2
                have hra : raV cc.1 cc.2 = .tup [.int .i64 (rtV cc.1 cc.2), .int .i64 0] := by simp only [raV, vB_cB hv hcc, cond_true]
                rw [hra] at h20
                have hrt : decide (lo ≤ rtV cc.1 cc.2) = false := decide_eq_false (by have := of_decide_eq_true hbd.2; omega)
                have hdb : w64 (r + 1 + d) = r + 1 + d := by
                  have := (vB_iff.1 hv').2 c c16
                  rw [okI_uA C0_len hlU hlD c16, okAt_iff (by omega) (by have := of_decide_eq_false h1; omega), uA_of hd, uA_of hu] at this
                  rw [w64_id (by omega) (by omega)]
                have hlC : decide ((c : Int) < (C.length : Int)) = true := decide_eq_true (by omega)
                have hlU2 : decide ((c : Int) < (U'.length : Int)) = true := decide_eq_true (by omega)
                have hlD2 : decide ((c : Int) < (D'.length : Int)) = true := decide_eq_true (by omega)
                have heq : decide (u = r + 1 + d) = true := decide_eq_true hU'
                simp only [go_sem, Int.cast_ofNat_Int, Int.reduceToNat, Bool.true_xor, Bool.false_xor, Bool.xor_true, Bool.xor_false, Nat.reduceAdd, Nat.reduceBEq, Nat.reduceLeDiff, Nat.reduceLT, Nat.reduceMul, Nat.reduceSub, Int.reduceEq, Int.reduceLT, Int.reduceLE, Int.reduceNeg, hlt, hc, hcn, hcg, h16, hcc, hlC, hlU2, hlD2, hu, hd, h20, hbd.1.2, hrt, hdb, heq, hw]
                exact ⟨by first | trivial | omega, by first | trivial | rfl, trivial⟩
            · obtain rfl : i = (blk U').length := by omega
              simp only [go_sem, Int.cast_ofNat_Int, Int.reduceToNat, Bool.true_xor, Bool.false_xor, Bool.xor_true, Bool.xor_false, Nat.reduceAdd, Nat.reduceBEq, Nat.reduceLeDiff, Nat.reduceLT, Nat.reduceMul, Nat.reduceSub, Int.reduceEq, Int.reduceLT, Int.reduceLE, Int.reduceNeg, show decide (((blk U').length : Int) < ((blk U').length : Int)) = false from decide_eq_false (by omega), h33]
          · simp only [go_sem, Int.cast_ofNat_Int, Int.reduceToNat, Bool.true_xor, Bool.false_xor, Bool.xor_true, Bool.xor_false, Nat.reduceAdd, Nat.reduceBEq, Nat.reduceLeDiff, Nat.reduceLT, Nat.reduceMul, Nat.reduceSub, Int.reduceEq, Int.reduceLT, Int.reduceLE, Int.reduceNeg, k3, k4, hw3]
            refine loop_rule (fun i => ([(2, .ptr 0 0 0 0), (3, .ptr 1 0 0 0), (5, .ptr 2 0 0 0), (7, .lst 1 (bS (blk U)) false), (107, .lst 1 (bS (blk U')) false), (108, .int .i64 (blk U').length), (109, .int .i64 i)],
              ⟨[.box (lrC r C U D f g h), .box [.int .i64 w, .int .i64 lo, .int .i64 hi, .int .i64 le], .box (lrC (r + 1) C0 U' D' true true true)], [], 0⟩)) (fun _ => True) (blk U').length (by simp only [go_sem, Int.cast_ofNat_Int, Int.reduceToNat, Bool.true_xor, Bool.false_xor, Bool.xor_true, Bool.xor_false, Nat.reduceAdd, Nat.reduceBEq, Nat.reduceLeDiff, Nat.reduceLT, Nat.reduceMul, Nat.reduceSub, Int.reduceEq, Int.reduceLT, Int.reduceLE, Int.reduceNeg]; rfl) trivial ?_
            intro i hi' _
            rcases Nat.lt_or_ge i (blk U').length with hlt | hge
            · obtain ⟨c, hc⟩ := getS hlt
              obtain ⟨c16, cne⟩ := upto_mem.1 (List.mem_of_getElem? hc)
              have hw : w64 ((i : Int) + 1) = ((i + 1 : Nat) : Int) := w64_suc (n := 16) (Nat.lt_of_lt_of_le hlt hlb') ln16
              have hcn : decide ((c : Int) < 0) = false := decide_eq_false (by omega)
              have hcg : decide ((16 : Int) ≤ (c : Int)) = false := decide_eq_false (by omega)
              have h16 := fun H => s16 38 H (blk U) c (Nat.le_trans hlb ln16)
              cases hm : decide (c ∈ blk U) with
              | true =>
                rw [hm] at h16
                simp only [go_sem, Int.cast_ofNat_Int, Int.reduceToNat, Bool.true_xor, Bool.false_xor, Bool.xor_true, Bool.xor_false, Nat.reduceAdd, Nat.reduceBEq, Nat.reduceLeDiff, Nat.reduceLT, Nat.reduceMul, Nat.reduceSub, Int.reduceEq, Int.reduceLT, Int.reduceLE, Int.reduceNeg, hlt, hc, hcn, hcg, h16, hw]
                exact ⟨by first | trivial | omega, by first | trivial | rfl, trivial⟩
              | false =>
                rw [hm] at h16
                have hz : uA U c = 0 := by
                  rw [decide_eq_false_iff_not] at hm
                  refine Classical.byContradiction fun hne => hm (upto_mem.2 ⟨c16, by simp [hne]⟩)
                have hne : uA U' c ≠ 0 := by simpa using cne
                obtain ⟨hbd, hU'⟩ := (hcl.keep c c16 hne).resolve_left (fun h => h hz)
                obtain ⟨cc, hcc⟩ := getS (l := C) (i := c) (by omega)
                obtain ⟨u, hu⟩ := getS (l := U') (i := c) (by omega)
                obtain ⟨d, hd⟩ := getS (l := D') (i := c) (by omega)
                rw [uA_of hu, uA_of hd] at hU'
                simp only [badI, cA_of hcc, Bool.and_eq_true, Bool.not_eq_true'] at hbd
                have h20 := fun H => s20 38 H cc.1 cc.2
                have hra : raV cc.1 cc.2 = .tup [.int .i64 (rtV cc.1 cc.2), .int .i64 0] := by simp only [raV, vB_cB hv hcc, cond_true]
                rw [hra] at h20
                have hrt : decide (lo ≤ rtV cc.1 cc.2) = false := decide_eq_false (by have := of_decide_eq_true hbd.2; omega)
                have hdb : w64 (r + 1 + d) = r + 1 + d := by
                  have := (vB_iff.1 hv').2 c c16
                  rw [okI_uA C0_len hlU hlD c16, okAt_iff (by omega) (by have := of_decide_eq_false h1; omega), uA_of hd, uA_of hu] at this
                  rw [w64_id (by omega) (by omega)]
                have hlC : decide ((c : Int) < (C.length : Int)) = true := decide_eq_true (by omega)
                have hlU2 : decide ((c : Int) < (U'.length : Int)) = true := decide_eq_true (by omega)
                have hlD2 : decide ((c : Int) < (D'.length : Int)) = true := decide_eq_true (by omega)
                have heq : decide (u = r + 1 + d) = true := decide_eq_true hU'
                simp only [go_sem, Int.cast_ofNat_Int, Int.reduceToNat, Bool.true_xor, Bool.false_xor, Bool.xor_true, Bool.xor_false, Nat.reduceAdd, Nat.reduceBEq, Nat.reduceLeDiff, Nat.reduceLT, Nat.reduceMul, Nat.reduceSub, Int.reduceEq, Int.reduceLT, Int.reduceLE, Int.reduceNeg, hlt, hc, hcn, hcg, h16, hcc, hlC, hlU2, hlD2, hu, hd, h20, hbd.1.2, hrt, hdb, heq, hw]
                exact ⟨by first | trivial | omega, by first | trivial | rfl, trivial⟩
            · obtain rfl : i = (blk U').length := by omega
              simp only [go_sem, Int.cast_ofNat_Int, Int.reduceToNat, Bool.true_xor, Bool.false_xor, Bool.xor_true, Bool.xor_false, Nat.reduceAdd, Nat.reduceBEq, Nat.reduceLeDiff, Nat.reduceLT, Nat.reduceMul, Nat.reduceSub, Int.reduceEq, Int.reduceLT, Int.reduceLE, Int.reduceNeg, show decide (((blk U').length : Int) < ((blk U').length : Int)) = false from decide_eq_false (by omega), h33]
theorem law7 (xs : List SV) (h : FitsAll [(true, lrT), (true, [.int .i64, .int .i64, .int .i64, .int .i64])] xs) : ∃ m, call1 T m (.fn 7) xs heap0 = some (.bool true, heap0) := by
  obtain ⟨x1, r1, rfl, h1, h⟩ := fitsAll_cons h
  obtain ⟨x2, r2, rfl, h2, h⟩ := fitsAll_cons h
  cases fitsAll_nil h
  obtain ⟨r, C, U, D, f1, f2, f3, rfl, hb⟩ := lr_of h1
  obtain ⟨cs, rfl, k⟩ := fitsA_agg h2
  obtain ⟨a, _, rfl, _, k⟩ := fitsL_i k
  obtain ⟨b, _, rfl, _, k⟩ := fitsL_i k
  obtain ⟨c, _, rfl, _, k⟩ := fitsL_i k
  obtain ⟨d, _, rfl, _, k⟩ := fitsL_i k
  cases fitsL_nil' k
  exact ⟨41, s7 r C U D f1 f2 f3 a b c d hb⟩
end Go.Sh
namespace Go.Sh
set_option linter.unusedSectionVars false
set_option linter.unnecessarySimpa false
set_option linter.unusedVariables false
set_option linter.unusedSimpArgs false
set_option maxRecDepth 100000
set_option maxHeartbeats 4000000
/-! ### A blacklisted channel returns -/
theorem s13s (n : Nat) (x0 x1 x2 x3 x7 x8 x9 x10 : SBlk) (r : Int) (C U D) (hC : C.length = 16) (hU : U.length = 16) (hD : D.length = 16) :
    call1 T (n + 1) (.fn 13) [ls r 4 16 16 16] ⟨[x0, x1, x2, x3, .arr 0 2 (cS C) false, .arr 0 1 (iS U) false, .arr 0 1 (iS D) false, x7, x8, x9, x10], [], 11⟩ =
      some (lr r C U D false false false, ⟨[x0, x1, x2, x3, .arr 0 2 (cS C) false, .arr 0 1 (iS U) false, .arr 0 1 (iS D) false, x7, x8, x9, x10], [], 11⟩) := by
  refine call_in e13 (by rfl) ?_
  have k1 : decide (16 * 16 ≤ mostLen) = true := by decide
  have k2 : decide (16 * 8 ≤ mostLen) = true := by decide
  simp only [c13, go_sem, Int.cast_ofNat_Int, Int.reduceToNat, Bool.true_xor, Bool.false_xor, Bool.xor_true, Bool.xor_false, Nat.reduceAdd, Nat.reduceBEq, Nat.reduceLeDiff, Nat.reduceLT, Nat.reduceMul, Nat.reduceSub, Int.reduceEq, Int.reduceLT, Int.reduceLE, Int.reduceNeg, hC, hU, hD, tk_cS _ hC, tk_iS _ hU, tk_iS _ hD, k1, k2, Nat.min_self, fz_cS16 _ _ _ _ _ _ hC, fz_iS16 _ _ _ _ _ _ hU, fz_iS16 _ _ _ _ _ _ hD]
  rfl
theorem s14s (n : Nat) (x0 x1 x2 x3 x7 : SBlk) (r : Int) (C U D w lo hi le) (hC : C.length = 16) (hU : U.length = 16) (hD : D.length = 16) :
    call1 T (n + 10) (.fn 14) [ls r 4 16 16 16, rul w lo hi le] ⟨[x0, x1, x2, x3, .arr 0 2 (cS C) false, .arr 0 1 (iS U) false, .arr 0 1 (iS D) false, x7], [], 0⟩ =
      some (clV true r C U D w lo hi le, ⟨[x0, x1, x2, x3, .arr 0 2 (cS C) false, .arr 0 1 (iS U) false, .arr 0 1 (iS D) false, x7], [], 0⟩) := by
  refine call_in e14 (by rfl) ?_
  have h13 := fun x8 x9 x10 => s13s (n + 8) x0 x1 x2 x3 x7 x8 x9 x10 r C U D hC hU hD
  have h40 := fun H => s40 n H r C U D false false false w lo hi le
  unfold clV at h40 ⊢
  cases hv : vB r C U D with
  | false =>
    simp only [hv, cond_false] at h40
    simp only [c14, heap0, go_sem, Int.cast_ofNat_Int, Int.reduceToNat, Bool.true_xor, Bool.false_xor, Bool.xor_true, Bool.xor_false, Nat.reduceAdd, Nat.reduceBEq, Nat.reduceLeDiff, Nat.reduceLT, Nat.reduceMul, Nat.reduceSub, Int.reduceEq, Int.reduceLT, Int.reduceLE, Int.reduceNeg, h13, h40]
  | true =>
    cases hr : rightB w lo hi le with
    | false =>
      simp only [hv, hr, cond_false, cond_true] at h40
      simp only [c14, heap0, go_sem, Int.cast_ofNat_Int, Int.reduceToNat, Bool.true_xor, Bool.false_xor, Bool.xor_true, Bool.xor_false, Nat.reduceAdd, Nat.reduceBEq, Nat.reduceLeDiff, Nat.reduceLT, Nat.reduceMul, Nat.reduceSub, Int.reduceEq, Int.reduceLT, Int.reduceLE, Int.reduceNeg, h13, h40]
    | true =>
      cases h1 : decide (r = 1073741824) with
      | true =>
        simp only [hv, hr, h1, cond_false, cond_true] at h40
        simp only [c14, heap0, go_sem, Int.cast_ofNat_Int, Int.reduceToNat, Bool.true_xor, Bool.false_xor, Bool.xor_true, Bool.xor_false, Nat.reduceAdd, Nat.reduceBEq, Nat.reduceLeDiff, Nat.reduceLT, Nat.reduceMul, Nat.reduceSub, Int.reduceEq, Int.reduceLT, Int.reduceLE, Int.reduceNeg, h13, h40]
      | false =>
        simp only [hv, hr, h1, cond_false, cond_true] at h40
        simp only [c14, heap0, go_sem, Int.cast_ofNat_Int, Int.reduceToNat, Bool.true_xor, Bool.false_xor, Bool.xor_true, Bool.xor_false, Nat.reduceAdd, Nat.reduceBEq, Nat.reduceLeDiff, Nat.reduceLT, Nat.reduceMul, Nat.reduceSub, Int.reduceEq, Int.reduceLT, Int.reduceLE, Int.reduceNeg, h13, h40]
/-- Until and Hold behind k rounds. -/
def stt (r : Int) (U D : List Int) (w lo hi le : Int) : Nat → List Int × List Int
  | 0 => (U, D)
  | k + 1 => (clU (r + k) C0 (stt r U D w lo hi le k).1 (stt r U D w lo hi le k).2 w lo le, clD (r + k) C0 (stt r U D w lo hi le k).1 (stt r U D w lo hi le k).2 w lo hi le)
theorem bad_C0 {U : List Int} {w lo : Int} (hw : 1 ≤ w) (j : Nat) : badI C0 U w lo j = false := by
  have : (cA C0 j).1 = 0 := by
    unfold cA
    rw [List.getD_eq_getElem?_getD]
    cases hq : C0[j]? with
    | none => rfl
    | some c =>
      have := List.mem_of_getElem? hq
      rw [C0, List.mem_replicate] at this
      rw [this.2]; rfl
  simp only [badI, this]
  rw [decide_eq_true (show (0 : Int) < w by omega)]
  simp
theorem vB_C0 {r C U D} (h : vB r C U D = true) : vB r C0 U D = true := by
  obtain ⟨⟨r0, r1, hC, hU, hD⟩, hok⟩ := vB_iff.1 h
  refine vB_iff.2 ⟨⟨r0, r1, C0_len, hU, hD⟩, fun j hj => ?_⟩
  have := hok j hj
  rw [okI_uA hC hU hD hj, okAt_iff r0 r1] at this
  rw [okI_uA C0_len hU hD hj, okAt_iff r0 r1]
  have hc0 : C0[j]? = some (0, 0) := by rw [C0, List.getElem?_replicate, if_pos hj]
  rw [cA_of hc0]
  exact ⟨rfl, this.2⟩
theorem stt_ok {r : Int} {U D : List Int} {w lo hi le : Int} (hr : rightB w lo hi le = true) (h : vB r C0 U D = true) (h6 : r ≤ 1000000) : ∀ k : Nat, k ≤ 64 → vB (r + k) C0 (stt r U D w lo hi le k).1 (stt r U D w lo hi le k).2 = true ∧ ∀ j, j < 16 → uA (stt r U D w lo hi le k).1 j = if uA U j ≤ r + k then 0 else uA U j
  | 0, _ => by
    obtain ⟨⟨r0, r1, hC, hU, hD⟩, hok⟩ := vB_iff.1 h
    simp only [stt, Int.natCast_zero, Int.add_zero]
    refine ⟨h, fun j hj => ?_⟩
    have := hok j hj
    rw [okI_uA hC hU hD hj, okAt_iff r0 r1] at this
    split <;> omega
  | k + 1, hk => by
    obtain ⟨ih1, ih2⟩ := stt_ok hr h h6 k (by omega)
    have hw : 1 ≤ w := by simp only [rightB, Bool.and_eq_true, decide_eq_true_eq] at hr; omega
    have hcl := closed_ok ih1 hr (decide_eq_false (by omega))
    simp only [stt]
    have e : r + ((k + 1 : Nat) : Int) = r + k + 1 := by omega
    rw [e]
    refine ⟨hcl.valid, fun j hj => ?_⟩
    rw [hcl.rest j hj (bad_C0 hw j), ih2 j hj]
    by_cases h1 : uA U j ≤ r + k
    · rw [if_pos h1, if_pos (show uA U j ≤ r + k + 1 by omega)]
      split <;> rfl
    · rw [if_neg h1]
theorem stt_len {r : Int} {U D : List Int} {w lo hi le : Int} (hr : rightB w lo hi le = true) (h : vB r C0 U D = true) (h6 : r ≤ 1000000) (k : Nat) (hk : k ≤ 64) : (stt r U D w lo hi le k).1.length = 16 ∧ (stt r U D w lo hi le k).2.length = 16 := by
  obtain ⟨⟨_, _, _, hU, hD⟩, _⟩ := vB_iff.1 (stt_ok hr h h6 k hk).1
  exact ⟨hU, hD⟩
/-- The cells of the learner in round k: at first it lies in blocks. -/
def mb (r : Int) (U D : List Int) (w lo hi le : Int) : Nat → List SV
  | 0 => lsC r 4 16 16 16
  | k + 1 => lrC (r + (k + 1 : Nat)) C0 (stt r U D w lo hi le (k + 1)).1 (stt r U D w lo hi le (k + 1)).2 true true true
theorem mb_part (r U D w lo hi le k) : part1 true 4 (mb r U D w lo hi le k) 0 = some (.agg (mb r U D w lo hi le k)) := by
  cases k <;> rfl
theorem mb_len (r U D w lo hi le k) : decide (4 ≤ (mb r U D w lo hi le k).length) = true := by
  cases k <;> rfl
theorem mb_drop (r U D w lo hi le k) : (mb r U D w lo hi le k).drop 4 = [] := by
  cases k <;> rfl
theorem s14m {r : Int} {U D : List Int} {w lo hi le : Int} (h : vB r C0 U D = true) (k : Nat) (x0 x1 x2 x3 x7 : SBlk) (hk : rightB w lo hi le = true → r ≤ 1000000 ∧ k ≤ 64) (hkr : rightB w lo hi le = false → k = 0) :
    call1 T 40 (.fn 14) [.agg (mb r U D w lo hi le k), rul w lo hi le] ⟨[x0, x1, x2, x3, .arr 0 2 (cS C0) false, .arr 0 1 (iS U) false, .arr 0 1 (iS D) false, x7], [], 0⟩ =
      some (clV true (r + k) C0 (stt r U D w lo hi le k).1 (stt r U D w lo hi le k).2 w lo hi le, ⟨[x0, x1, x2, x3, .arr 0 2 (cS C0) false, .arr 0 1 (iS U) false, .arr 0 1 (iS D) false, x7], [], 0⟩) := by
  cases k with
  | zero =>
    obtain ⟨⟨_, _, hC, hU, hD⟩, _⟩ := vB_iff.1 h
    simp only [Int.natCast_zero, Int.add_zero]
    exact s14s 30 x0 x1 x2 x3 x7 r C0 U D w lo hi le hC hU hD
  | succ k =>
    cases hr : rightB w lo hi le with
    | false => have := hkr hr; omega
    | true =>
      obtain ⟨h6, hk⟩ := hk hr
      obtain ⟨l1, l2⟩ := stt_len hr h h6 (k + 1) hk
      exact s14 30 _ _ _ _ _ _ _ _ _ _ _ _ (by rw [C0_len]; omega) (by omega) (by omega)
theorem s3 (r C U D f g h w lo hi le) (hrb : -9223372036854775808 ≤ r ∧ r ≤ 9223372036854775807) : call1 T 41 (.fn 3) [lr r C U D f g h, rul w lo hi le] heap0 = some (.bool true, heap0) := by
  refine call_pure e3 (by rfl) ?_
  have h10 := s10
  have h11 := fun H r C U D f g h => s11 39 H r C U D f g h
  cases k1 : fewB C U D with
  | false => simp only [c3, heap0, go_sem, Int.cast_ofNat_Int, Int.reduceToNat, Bool.true_xor, Bool.false_xor, Bool.xor_true, Bool.xor_false, Nat.reduceAdd, Nat.reduceBEq, Nat.reduceLeDiff, Nat.reduceLT, Nat.reduceMul, Nat.reduceSub, Int.reduceEq, Int.reduceLT, Int.reduceLE, Int.reduceNeg, h10, h11, k1]
  | true =>
    obtain ⟨a1, a2, a3⟩ := few_len k1
    have h13 := fun H => s13 39 H r C U D f g h a1 a2 a3
    have h12 := fun H => s12 38 H r C U D false false false
    cases hv : vB r C U D with
    | false => simp only [c3, heap0, go_sem, Int.cast_ofNat_Int, Int.reduceToNat, Bool.true_xor, Bool.false_xor, Bool.xor_true, Bool.xor_false, Nat.reduceAdd, Nat.reduceBEq, Nat.reduceLeDiff, Nat.reduceLT, Nat.reduceMul, Nat.reduceSub, Int.reduceEq, Int.reduceLT, Int.reduceLE, Int.reduceNeg, h10, h11, h12, h13, k1, hv]
    | true =>
      cases k2 : decide (1000000 < r) with
      | true => simp only [c3, heap0, go_sem, Int.cast_ofNat_Int, Int.reduceToNat, Bool.true_xor, Bool.false_xor, Bool.xor_true, Bool.xor_false, Nat.reduceAdd, Nat.reduceBEq, Nat.reduceLeDiff, Nat.reduceLT, Nat.reduceMul, Nat.reduceSub, Int.reduceEq, Int.reduceLT, Int.reduceLE, Int.reduceNeg, h10, h11, h12, h13, k1, k2, hv]
      | false =>
        have h6 : r ≤ 1000000 := by have := of_decide_eq_false k2; omega
        obtain ⟨⟨r0, r1, hC, hU, hD⟩, hok⟩ := vB_iff.1 hv
        have h13k := fun x y es => s13k2 39 x y es r C U D f g h a1 a2 a3
        rw [hC, hU, hD] at h13k
        simp only [c3, heap0, go_sem, Int.cast_ofNat_Int, Int.reduceToNat, Bool.true_xor, Bool.false_xor, Bool.xor_true, Bool.xor_false, Nat.reduceAdd, Nat.reduceBEq, Nat.reduceLeDiff, Nat.reduceLT, Nat.reduceMul, Nat.reduceSub, Int.reduceEq, Int.reduceLT, Int.reduceLE, Int.reduceNeg, h10, h11, h12, h13, h13k, k1, k2, hv]
        refine loop_rule (fun i => ([(2, .ptr 0 0 0 0), (3, .ptr 1 0 0 0), (5, .ptr 7 0 0 0), (35, .int .i64 16), (36, .int .i64 i)],
          ⟨[.box (lrC r C U D f g h), .box [.int .i64 w, .int .i64 lo, .int .i64 hi, .int .i64 le], .box (lrC r C U D f g h), .box (lsC r 4 16 16 16), .arr 0 2 (cS (C0.take i ++ C.drop i)) false, .arr 0 1 (iS U) false, .arr 0 1 (iS D) false, .box (lsC r 4 16 16 16)], [], 0⟩)) (fun _ => True) 16 (by simp only [go_sem, Int.cast_ofNat_Int, Int.reduceToNat, Bool.true_xor, Bool.false_xor, Bool.xor_true, Bool.xor_false, Nat.reduceAdd, Nat.reduceBEq, Nat.reduceLeDiff, Nat.reduceLT, Nat.reduceMul, Nat.reduceSub, Int.reduceEq, Int.reduceLT, Int.reduceLE, Int.reduceNeg]; rfl) trivial ?_
        intro i hi' _
        have hC0 : C0.length = C.length := by rw [C0_len, hC]
        rcases Nat.lt_or_ge i 16 with hlt | hge
        · obtain ⟨c, hc⟩ := getS (l := C) (i := i) (by omega)
          have hlt' : decide ((i : Int) < 16) = true := decide_eq_true (by omega)
          have hlt2 : decide (i < 16) = true := decide_eq_true hlt
          have hw : w64 ((i : Int) + 1) = ((i + 1 : Nat) : Int) := w64_suc (n := 16) hlt ln16
          have gc : (C0.take i ++ C.drop i)[i]? = some c := by rw [mid_get (by omega), hc]
          have sc : (C0.take i ++ C.drop i).set i (0, 0) = C0.take (i + 1) ++ C.drop (i + 1) := mid_set (by rw [C0, List.getElem?_replicate, if_pos hlt]) hC0
          simp only [go_sem, Int.cast_ofNat_Int, Int.reduceToNat, Bool.true_xor, Bool.false_xor, Bool.xor_true, Bool.xor_false, Nat.reduceAdd, Nat.reduceBEq, Nat.reduceLeDiff, Nat.reduceLT, Nat.reduceMul, Nat.reduceSub, Int.reduceEq, Int.reduceLT, Int.reduceLE, Int.reduceNeg, hlt, hlt', hlt2, gc, cS_set2, sc, hw]
          exact ⟨by first | trivial | omega, by first | trivial | rfl, trivial⟩
        obtain rfl : i = 16 := by omega
        have e2 : C0.take 16 ++ C.drop 16 = C0 := mid_end (by omega) hC0
        simp only [go_sem, Int.cast_ofNat_Int, Int.reduceToNat, Bool.true_xor, Bool.false_xor, Bool.xor_true, Bool.xor_false, Nat.reduceAdd, Nat.reduceBEq, Nat.reduceLeDiff, Nat.reduceLT, Nat.reduceMul, Nat.reduceSub, Int.reduceEq, Int.reduceLT, Int.reduceLE, Int.reduceNeg, show decide (((16 : Nat) : Int) < 16) = false from by decide, e2]
        clear hge hi' e2 hC0 h10 h11 h12 h13 h13k
        have hv0 := vB_C0 hv
        refine loop_rule (fun k => ([(2, .ptr 0 0 0 0), (3, .ptr 1 0 0 0), (5, .ptr 7 0 0 0), (45, .int .i64 k)],
          ⟨[.box (lrC r C U D f g h), .box [.int .i64 w, .int .i64 lo, .int .i64 hi, .int .i64 le], .box (lrC r C U D f g h), .box (lsC r 4 16 16 16), .arr 0 2 (cS C0) false, .arr 0 1 (iS U) false, .arr 0 1 (iS D) false, .box (mb r U D w lo hi le k)], [], 0⟩))
          (fun k => rightB w lo hi le = false → k = 0) 64 (by simp only [go_sem, Int.cast_ofNat_Int, Int.reduceToNat, Bool.true_xor, Bool.false_xor, Bool.xor_true, Bool.xor_false, Nat.reduceAdd, Nat.reduceBEq, Nat.reduceLeDiff, Nat.reduceLT, Nat.reduceMul, Nat.reduceSub, Int.reduceEq, Int.reduceLT, Int.reduceLE, Int.reduceNeg]; rfl) (fun _ => rfl) ?_
        intro k hk hP
        have h14 := fun x0 x1 x2 x3 x7 => s14m (le := le) (lo := lo) (hi := hi) (w := w) hv0 k x0 x1 x2 x3 x7 (fun _ => ⟨h6, hk⟩) hP
        rcases Nat.lt_or_ge k 64 with hlt | hge
        · have hlt' : decide ((k : Int) < 64) = true := decide_eq_true (by omega)
          cases hr : rightB w lo hi le with
          | false =>
            obtain rfl : k = 0 := hP hr
            have hq : clV true (r + (0 : Nat)) C0 (stt r U D w lo hi le 0).1 (stt r U D w lo hi le 0).2 w lo hi le = .tup [lz, .int .i64 2] := by
              simp only [clV, stt, Int.natCast_zero, Int.add_zero, hv0, hr, cond_true, cond_false]
            rw [hq] at h14
            simp only [go_sem, Int.cast_ofNat_Int, Int.reduceToNat, Bool.true_xor, Bool.false_xor, Bool.xor_true, Bool.xor_false, Nat.reduceAdd, Nat.reduceBEq, Nat.reduceLeDiff, Nat.reduceLT, Nat.reduceMul, Nat.reduceSub, Int.reduceEq, Int.reduceLT, Int.reduceLE, Int.reduceNeg, hlt', mb_part, h14]
          | true =>
            obtain ⟨hvk, _⟩ := stt_ok hr hv0 h6 k (by omega)
            have hq : clV true (r + k) C0 (stt r U D w lo hi le k).1 (stt r U D w lo hi le k).2 w lo hi le = .tup [lr (r + (k + 1 : Nat)) C0 (stt r U D w lo hi le (k + 1)).1 (stt r U D w lo hi le (k + 1)).2 true true true, .int .i64 0] := by
              have e : w64 (r + k + 1) = r + ((k + 1 : Nat) : Int) := by rw [w64_id (by omega) (by omega)]; omega
              simp only [clV, hvk, hr, decide_eq_false (show ¬ r + (k : Int) = 1073741824 by omega), cond_true, cond_false, e]
              rfl
            rw [hq] at h14
            obtain ⟨hvn, hun⟩ := stt_ok hr hv0 h6 (k + 1) (by omega)
            obtain ⟨l1, l2⟩ := stt_len hr hv0 h6 (k + 1) (by omega)
            have h13n := fun H => s13 39 H (r + (k + 1 : Nat)) C0 (stt r U D w lo hi le (k + 1)).1 (stt r U D w lo hi le (k + 1)).2 true true true (by rw [C0_len]; omega) (by omega) (by omega)
            have h15n := fun H => s15 37 H (r + (k + 1 : Nat)) C0 (stt r U D w lo hi le (k + 1)).1 (stt r U D w lo hi le (k + 1)).2 false false false
            have hbn : blV (r + (k + 1 : Nat)) C0 (stt r U D w lo hi le (k + 1)).1 (stt r U D w lo hi le (k + 1)).2 = .tup [.lst 1 (bS (blk (stt r U D w lo hi le (k + 1)).1)) false, .int .i64 0] := by simp only [blV, hvn, cond_true]
            rw [hbn] at h15n
            simp only [go_sem, Int.cast_ofNat_Int, Int.reduceToNat, Bool.true_xor, Bool.false_xor, Bool.xor_true, Bool.xor_false, Nat.reduceAdd, Nat.reduceBEq, Nat.reduceLeDiff, Nat.reduceLT, Nat.reduceMul, Nat.reduceSub, Int.reduceEq, Int.reduceLT, Int.reduceLE, Int.reduceNeg, hlt', mb_part, h14, h13n, h15n, hU]
            refine loop_post (fun i => ([(2, .ptr 0 0 0 0), (3, .ptr 1 0 0 0), (5, .ptr 7 0 0 0), (7, .ptr 8 0 0 0), (9, .lst 1 (bS (blk (stt r U D w lo hi le (k + 1)).1)) false), (45, .int .i64 k), (66, .lst 1 (iS U) g), (67, .int .i64 16), (68, .int .i64 i)],
              ⟨[.box (lrC r C U D f g h), .box [.int .i64 w, .int .i64 lo, .int .i64 hi, .int .i64 le], .box (lrC r C U D f g h), .box (lsC r 4 16 16 16), .arr 0 2 (cS C0) false, .arr 0 1 (iS U) false, .arr 0 1 (iS D) false, .box (mb r U D w lo hi le k),
                .box (lrC (r + (k + 1 : Nat)) C0 (stt r U D w lo hi le (k + 1)).1 (stt r U D w lo hi le (k + 1)).2 true true true)], [], 0⟩)) (fun _ => True) 16 (by simp only [go_sem, Int.cast_ofNat_Int, Int.reduceToNat, Bool.true_xor, Bool.false_xor, Bool.xor_true, Bool.xor_false, Nat.reduceAdd, Nat.reduceBEq, Nat.reduceLeDiff, Nat.reduceLT, Nat.reduceMul, Nat.reduceSub, Int.reduceEq, Int.reduceLT, Int.reduceLE, Int.reduceNeg]; rfl) trivial ?_
            intro i hi' _
            rcases Nat.lt_or_ge i 16 with hlt3 | hge3
            · obtain ⟨u, hu⟩ := getS (l := U) (i := i) (by omega)
              have hlt4 : decide ((i : Int) < 16) = true := decide_eq_true (by omega)
              have hlU : i < U.length := by omega
              have hw : w64 ((i : Int) + 1) = ((i + 1 : Nat) : Int) := w64_suc (n := 16) hlt3 ln16
              have hlb := upto_len (fun i => !decide (uA (stt r U D w lo hi le (k + 1)).1 i = 0)) 16
              have h16 := fun H => s16 38 H (blk (stt r U D w lo hi le (k + 1)).1) i (Nat.le_trans hlb ln16)
              cases hz : decide (u = 0) with
              | true =>
                simp only [go_sem, Int.cast_ofNat_Int, Int.reduceToNat, Bool.true_xor, Bool.false_xor, Bool.xor_true, Bool.xor_false, Nat.reduceAdd, Nat.reduceBEq, Nat.reduceLeDiff, Nat.reduceLT, Nat.reduceMul, Nat.reduceSub, Int.reduceEq, Int.reduceLT, Int.reduceLE, Int.reduceNeg, hlt3, hlt4, hlU, hu, hz, hw]
                exact ⟨by first | trivial | omega, by first | trivial | rfl, trivial⟩
              | false =>
                have hz' := of_decide_eq_false hz
                have hmem : decide (i ∈ blk (stt r U D w lo hi le (k + 1)).1) = decide (r + ((k + 1 : Nat) : Int) < u) := by
                  rw [Bool.eq_iff_iff, decide_eq_true_eq, decide_eq_true_eq, blk, upto_mem, hun i hlt3, uA_of hu]
                  constructor
                  · rintro ⟨_, h2⟩
                    split at h2
                    · simp at h2
                    · omega
                  · intro h2
                    rw [if_neg (by omega)]
                    exact ⟨hlt3, by simp [hz']⟩
                rw [hmem] at h16
                simp only [go_sem, Int.cast_ofNat_Int, Int.reduceToNat, Bool.true_xor, Bool.false_xor, Bool.xor_true, Bool.xor_false, Nat.reduceAdd, Nat.reduceBEq, Nat.reduceLeDiff, Nat.reduceLT, Nat.reduceMul, Nat.reduceSub, Int.reduceEq, Int.reduceLT, Int.reduceLE, Int.reduceNeg, hlt3, hlt4, hlU, hu, hz, h16, hw]
                exact ⟨by first | trivial | omega, by first | trivial | rfl, trivial⟩
            · obtain rfl : i = 16 := by omega
              have hw : w64 ((k : Int) + 1) = ((k + 1 : Nat) : Int) := w64_suc (n := 64) hlt (by decide)
              simp only [go_sem, Int.cast_ofNat_Int, Int.reduceToNat, Bool.true_xor, Bool.false_xor, Bool.xor_true, Bool.xor_false, Nat.reduceAdd, Nat.reduceBEq, Nat.reduceLeDiff, Nat.reduceLT, Nat.reduceMul, Nat.reduceSub, Int.reduceEq, Int.reduceLT, Int.reduceLE, Int.reduceNeg, show decide (((16 : Nat) : Int) < 16) = false from by decide, hw, mb_len, mb_drop, hlt]
              exact ⟨by first | trivial | omega, by first | trivial | rfl, fun h => by cases h⟩
        · obtain rfl : k = 64 := by omega
          cases hr : rightB w lo hi le with
          | false => have := hP hr; omega
          | true =>
            obtain ⟨hvn, hun⟩ := stt_ok hr hv0 h6 64 (by omega)
            obtain ⟨l1, l2⟩ := stt_len hr hv0 h6 64 (by omega)
            have hmb : mb r U D w lo hi le 64 = lrC (r + (64 : Nat)) C0 (stt r U D w lo hi le 64).1 (stt r U D w lo hi le 64).2 true true true := rfl
            have h13n := fun H => s13 39 H (r + (64 : Nat)) C0 (stt r U D w lo hi le 64).1 (stt r U D w lo hi le 64).2 true true true (by rw [C0_len]; omega) (by omega) (by omega)
            have h15n := fun H => s15 37 H (r + (64 : Nat)) C0 (stt r U D w lo hi le 64).1 (stt r U D w lo hi le 64).2 false false false
            have hbn : blV (r + (64 : Nat)) C0 (stt r U D w lo hi le 64).1 (stt r U D w lo hi le 64).2 = .tup [.lst 1 [] false, .int .i64 0] := by
              have : blk (stt r U D w lo hi le 64).1 = [] := by
                refine List.eq_nil_iff_forall_not_mem.2 (fun j hj => ?_)
                obtain ⟨h1, h2⟩ := upto_mem.1 hj
                have := hok j h1
                rw [okI_uA hC hU hD h1, okAt_iff r0 r1] at this
                rw [hun j h1, if_pos (by omega)] at h2
                simp at h2
              simp only [blV, hvn, cond_true, this]
              rfl
            rw [hbn] at h15n
            simp only [Int.cast_ofNat_Int] at hmb h13n h15n
            have h17 := fun H => s17z 39 H [] false (by decide)
            have hi0 : iS [] = [] := rfl
            rw [hi0] at h17
            have hn : decide ((([] : List Int) = [])) = true := by decide
            simp only [go_sem, Int.cast_ofNat_Int, Int.reduceToNat, Bool.true_xor, Bool.false_xor, Bool.xor_true, Bool.xor_false, Nat.reduceAdd, Nat.reduceBEq, Nat.reduceLeDiff, Nat.reduceLT, Nat.reduceMul, Nat.reduceSub, Int.reduceEq, Int.reduceLT, Int.reduceLE, Int.reduceNeg, show decide (((64 : Nat) : Int) < 64) = false from by decide, hmb, h13n, h15n, h17, hn]
theorem law3 (xs : List SV) (h : FitsAll [(true, lrT), (true, [.int .i64, .int .i64, .int .i64, .int .i64])] xs) : ∃ m, call1 T m (.fn 3) xs heap0 = some (.bool true, heap0) := by
  obtain ⟨x1, r1, rfl, h1, h⟩ := fitsAll_cons h
  obtain ⟨x2, r2, rfl, h2, h⟩ := fitsAll_cons h
  cases fitsAll_nil h
  obtain ⟨r, C, U, D, f1, f2, f3, rfl, hb⟩ := lr_of h1
  obtain ⟨cs, rfl, k⟩ := fitsA_agg h2
  obtain ⟨a, _, rfl, _, k⟩ := fitsL_i k
  obtain ⟨b, _, rfl, _, k⟩ := fitsL_i k
  obtain ⟨c, _, rfl, _, k⟩ := fitsL_i k
  obtain ⟨d, _, rfl, _, k⟩ := fitsL_i k
  cases fitsL_nil' k
  exact ⟨41, s3 r C U D f1 f2 f3 a b c d hb⟩
end Go.Sh
namespace Go.Sh
set_option linter.unusedSectionVars false
set_option linter.unnecessarySimpa false
set_option linter.unusedVariables false
set_option linter.unusedSimpArgs false
set_option maxRecDepth 100000
set_option maxHeartbeats 4000000
/-! ### The order of attempts does not matter -/
def uS (N : List Nat) : List (List SV) := N.map fun (n : Nat) => [.int .u8 (n : Int)]
@[go_sem] theorem uS_len (N) : (uS N).length = N.length := by simp [uS]
@[go_sem] theorem uS_get (N) (i : Nat) : (uS N)[i]? = (N[i]?).map (fun (n : Nat) => [.int .u8 (n : Int)]) := by simp [uS]
def atM (N : List Nat) (c : Nat) : Int := (N.countP fun n => n % 16 == c : Nat)
def okM (N : List Nat) (c : Nat) : Int := (N.countP fun n => n % 16 == c && decide (128 ≤ n) : Nat)
def cF (N : List Nat) : List (Int × Int) := (List.range 16).map fun c => (atM N c, okM N c)
theorem cF_len (N) : (cF N).length = 16 := by simp [cF]
theorem cF_get (N) {c : Nat} (h : c < 16) : (cF N)[c]? = some (atM N c, okM N c) := by simp [cF, h]
theorem cF_nil : cF [] = C0 := by decide
theorem atM_snoc (N n c) : atM (N ++ [n]) c = atM N c + bif n % 16 == c then 1 else 0 := by
  unfold atM
  rw [List.countP_append]
  cases h : n % 16 == c <;> simp [h]
theorem okM_snoc (N n c) : okM (N ++ [n]) c = okM N c + bif n % 16 == c && decide (128 ≤ n) then 1 else 0 := by
  unfold okM
  rw [List.countP_append]
  cases h : n % 16 == c && decide (128 ≤ n) <;> simp [List.countP_cons, h]
theorem cF_snoc (N : List Nat) (n : Nat) : (cF N).set (n % 16) (ad1 (atM N (n % 16), okM N (n % 16)) (decide (128 ≤ (n : Int)))) = cF (N ++ [n]) := by
  apply List.ext_getElem?
  intro j
  have e : decide (128 ≤ (n : Int)) = decide (128 ≤ n) := by rw [Bool.eq_iff_iff, decide_eq_true_eq, decide_eq_true_eq]; omega
  rcases Nat.lt_or_ge j 16 with hj | hj
  · rw [List.getElem?_set, cF_get _ hj, cF_get _ hj, atM_snoc, okM_snoc, e]
    by_cases h : n % 16 = j
    · rw [if_pos h, if_pos (by rw [cF_len]; omega)]
      subst h
      simp only [ad1, beq_self_eq_true, Bool.true_and, cond_true]
      cases decide (128 ≤ n) <;> simp
    · have hb : (n % 16 == j) = false := by simpa using h
      rw [if_neg h, hb]
      simp
  · rw [List.getElem?_eq_none (by rw [List.length_set, cF_len]; omega), List.getElem?_eq_none (by rw [cF_len]; omega)]
theorem okM_le (N c) : 0 ≤ okM N c ∧ okM N c ≤ atM N c ∧ atM N c ≤ N.length := by
  unfold okM atM
  have h1 : N.countP (fun n => n % 16 == c && decide (128 ≤ n)) ≤ N.countP (fun n => n % 16 == c) := List.countP_mono_left (fun x _ h => by simp only [Bool.and_eq_true] at h; exact h.1)
  have h2 : N.countP (fun n => n % 16 == c) ≤ N.length := List.countP_le_length
  omega
theorem cF_valid {N : List Nat} (h : N.length ≤ 100) : vB 0 (cF N) Z0 Z0 = true := by
  refine vB_iff.2 ⟨⟨by omega, by omega, cF_len N, Z0_len, Z0_len⟩, fun i hi => ?_⟩
  rw [okI_uA (cF_len N) Z0_len Z0_len hi, okAt_iff (by omega) (by omega), cA_of (cF_get N hi)]
  have hz : Z0[i]? = some 0 := by rw [Z0, List.getElem?_replicate, if_pos hi]
  rw [uA_of hz]
  have := okM_le N i
  exact ⟨cB_iff.2 (by simp only; omega), rfl, .inl rfl⟩
theorem nt_cF {N : List Nat} (h : N.length ≤ 100) (n : Nat) : ntV true 0 (cF N) Z0 Z0 ((n % 16 : Nat) : Int) (decide (128 ≤ (n : Int))) = .tup [lr 0 (cF (N ++ [n])) Z0 Z0 true true true, .int .i64 0] := by
  have hm : n % 16 < 16 := Nat.mod_lt _ (by omega)
  have := okM_le N (n % 16)
  have hg : (cF N).getD (n % 16) (0, 0) = (atM N (n % 16), okM N (n % 16)) := by rw [List.getD_eq_getElem?_getD, cF_get N hm]; rfl
  simp only [ntV, cF_valid h, Int.toNat_natCast, hg, cF_snoc]
  rw [decide_eq_false (show ¬ ((n % 16 : Nat) : Int) < 0 by omega), decide_eq_false (show ¬ (16 : Int) ≤ ((n % 16 : Nat) : Int) by omega), decide_eq_false (show ¬ atM N (n % 16) = 1073741824 by omega)]
  rfl
theorem cF_rev (N : List Nat) : cF N.reverse = cF N := by
  simp only [cF, atM, okM, List.countP_reverse]
theorem cF_sum (M N : List Nat) : sumC (cF M) (cF N) = cF (M ++ N) := by
  apply List.ext_getElem?
  intro j
  rcases Nat.lt_or_ge j 16 with hj | hj
  · rw [sumC_get (cF_get M hj) (cF_get N hj), cF_get _ hj]
    simp [atM, okM, List.countP_append]
  · rw [List.getElem?_eq_none (by rw [sumC_len (by rw [cF_len, cF_len]), cF_len]; omega), List.getElem?_eq_none (by rw [cF_len]; omega)]
theorem mg_cF {M N : List Nat} (h : M.length + N.length ≤ 100) : mgV true 0 (cF M) Z0 Z0 0 (cF N) Z0 Z0 = .tup [lr 0 (cF (M ++ N)) Z0 Z0 true true true, .int .i64 0] := by
  have hok : okS (sumC (cF M) (cF N)) = true := okS_yes (fun j c hc => by
    rw [cF_sum] at hc
    have hj : j < 16 := by have := (List.getElem?_eq_some_iff.1 hc).1; rw [cF_len] at this; exact this
    rw [cF_get _ hj] at hc
    cases hc
    have := okM_le (M ++ N) j
    have e : (M ++ N).length = M.length + N.length := by simp
    exact decide_eq_true (by simp only; omega))
  rw [cF_sum] at hok
  simp only [mgV, cF_valid (N := M) (by omega), cF_valid (N := N) (by omega), hok, decide_true, Bool.and_self, cond_true, cF_sum]
theorem tm16 (n : Nat) : (n : Int).tmod 16 = ((n % 16 : Nat) : Int) := by
  rw [Int.tmod_eq_emod_of_nonneg (by omega)]; omega
theorem s9 (N : List Nat) (fN : Bool) (sp : Nat) (w lo hi le : Int) (hN : ∀ n ∈ N, n < 256) (hsp : sp < 256) (hm : N.length ≤ maxLen) : call1 T 41 (.fn 9) [.lst 1 (uS N) fN, .int .u8 sp, rul w lo hi le] heap0 = some (.bool true, heap0) := by
  refine call_pure e9 (by rfl) ?_
  have h10 := s10
  cases k1 : decide ((60 : Int) < (N.length : Int)) with
  | true => simp only [c9, heap0, go_sem, Int.cast_ofNat_Int, Int.reduceToNat, Bool.true_xor, Bool.false_xor, Bool.xor_true, Bool.xor_false, Nat.reduceAdd, Nat.reduceBEq, Nat.reduceLeDiff, Nat.reduceLT, Nat.reduceMul, Nat.reduceSub, Int.reduceEq, Int.reduceLT, Int.reduceLE, Int.reduceNeg, h10, k1]
  | false =>
    have k1' := of_decide_eq_false k1
    have hl : N.length ≤ 60 := by omega
    have h31 := fun H => s31 39 H
    generalize hs : sp % (N.length + 1) = s
    have hsl : s ≤ N.length := by have := Nat.mod_lt sp (show 0 < N.length + 1 by omega); omega
    simp only [c9, heap0, go_sem, Int.cast_ofNat_Int, Int.reduceToNat, Bool.true_xor, Bool.false_xor, Bool.xor_true, Bool.xor_false, Nat.reduceAdd, Nat.reduceBEq, Nat.reduceLeDiff, Nat.reduceLT, Nat.reduceMul, Nat.reduceSub, Int.reduceEq, Int.reduceLT, Int.reduceLE, Int.reduceNeg, h10, k1, h31]
    refine loop_rule (fun i => ([(0, .lst 1 (uS N) fN), (1, .int .u8 sp), (5, .ptr 0 0 0 0), (7, .ptr 1 0 0 0), (8, .ptr 2 0 0 0), (9, .ptr 3 0 0 0), (10, .ptr 4 0 0 0), (33, .lst 1 (uS N) fN), (34, .int .i64 N.length), (35, .int .i64 i)],
      ⟨[.box [.int .i64 w, .int .i64 lo, .int .i64 hi, .int .i64 le], .box (lrC 0 (cF (N.take i)) Z0 Z0 true true true), .box (lrC 0 (cF (N.reverse.take i)) Z0 Z0 true true true), .box (lrC 0 (cF ((N.take s).take i)) Z0 Z0 true true true), .box (lrC 0 (cF ((N.drop s).take (i - s))) Z0 Z0 true true true)], [], 0⟩))
      (fun _ => True) N.length (by simp only [go_sem, Int.cast_ofNat_Int, Int.reduceToNat, Bool.true_xor, Bool.false_xor, Bool.xor_true, Bool.xor_false, Nat.reduceAdd, Nat.reduceBEq, Nat.reduceLeDiff, Nat.reduceLT, Nat.reduceMul, Nat.reduceSub, Int.reduceEq, Int.reduceLT, Int.reduceLE, Int.reduceNeg, List.take_zero, Nat.zero_sub, cF_nil]; rfl) trivial ?_
    intro i hi' _
    rcases Nat.lt_or_ge i N.length with hlt | hge
    · obtain ⟨n, hn⟩ := getS hlt
      have hn256 := hN n (List.mem_of_getElem? hn)
      have hj : N.length - 1 - i < N.length := by omega
      obtain ⟨z, hz⟩ := getS hj
      have hz256 := hN z (List.mem_of_getElem? hz)
      have hzr : N.reverse[i]? = some z := by rw [List.getElem?_reverse (by omega)]; exact hz
      have w1 : w64 (n : Int) = n := w64_id (by omega) (by omega)
      have w2 : w64 (z : Int) = z := w64_id (by omega) (by omega)
      have w3 : w64 (w64 ((N.length : Int) - 1) - (i : Int)) = ((N.length - 1 - i : Nat) : Int) := by
        rw [w64_id (n := (N.length : Int) - 1) (by omega) (by omega), w64_id (by omega) (by omega)]; omega
      have w4 : w64 (sp : Int) = sp := w64_id (by omega) (by omega)
      have w5 : w64 ((N.length : Int) + 1) = ((N.length + 1 : Nat) : Int) := by rw [w64_id (by omega) (by omega)]; omega
      have w6 : ((sp : Int)).tmod ((N.length + 1 : Nat) : Int) = (s : Int) := by
        rw [Int.tmod_eq_emod_of_nonneg (by omega), ← hs]; omega
      have w7 : decide (((N.length + 1 : Nat) : Int) = 0) = false := decide_eq_false (by omega)
      have hw := w64_suc hlt hm
      have hlj : decide (((N.length - 1 - i : Nat) : Int) < (N.length : Int)) = true := decide_eq_true (by omega)
      have hlj0 : decide ((0 : Int) ≤ ((N.length - 1 - i : Nat) : Int)) = true := decide_eq_true (by omega)
      have h35 := fun H M (hM : M.length ≤ 100) (n : Nat) => (s35 37 H 0 (cF M) Z0 Z0 true true true ((n % 16 : Nat) : Int) (decide (128 ≤ (n : Int)))).trans (by rw [nt_cF hM n])
      have h35a := fun H => h35 H (N.take i) (by simp; omega) n
      have h35b := fun H => h35 H (N.reverse.take i) (by simp; omega) z
      have h35c := fun H => h35 H ((N.take s).take i) (by simp; omega) n
      have h35d := fun H => h35 H ((N.drop s).take (i - s)) (by simp; omega) n
      have ea : N.take i ++ [n] = N.take (i + 1) := (take_snoc hn).symm
      have eb : N.reverse.take i ++ [z] = N.reverse.take (i + 1) := (take_snoc hzr).symm
      rw [ea] at h35a
      rw [eb] at h35b
      simp only [go_sem, Int.cast_ofNat_Int, Int.reduceToNat, Bool.true_xor, Bool.false_xor, Bool.xor_true, Bool.xor_false, Nat.reduceAdd, Nat.reduceBEq, Nat.reduceLeDiff, Nat.reduceLT, Nat.reduceMul, Nat.reduceSub, Int.reduceEq, Int.reduceLT, Int.reduceLE, Int.reduceNeg, hlt, hn, hz, w1, w2, w3, w4, w5, w6, w7, tm16, hlj, hlj0, h35a, h35b]
      cases k2 : decide ((s : Int) ≤ (i : Int)) with
      | false =>
        have k2' := of_decide_eq_false k2
        have hts : (N.take s)[i]? = some n := by rw [List.getElem?_take, if_pos (by omega)]; exact hn
        have ec : (N.take s).take i ++ [n] = (N.take s).take (i + 1) := (take_snoc hts).symm
        have ed : i + 1 - s = i - s := by omega
        rw [ec] at h35c
        simp only [go_sem, Int.cast_ofNat_Int, Int.reduceToNat, Bool.true_xor, Bool.false_xor, Bool.xor_true, Bool.xor_false, Nat.reduceAdd, Nat.reduceBEq, Nat.reduceLeDiff, Nat.reduceLT, Nat.reduceMul, Nat.reduceSub, Int.reduceEq, Int.reduceLT, Int.reduceLE, Int.reduceNeg, h35c, hw, ed, hlt]
        exact ⟨by first | trivial | omega, by first | trivial | rfl, trivial⟩
      | true =>
        have k2' := of_decide_eq_true k2
        have hts : (N.drop s)[i - s]? = some n := by rw [List.getElem?_drop, show s + (i - s) = i by omega]; exact hn
        have ec : (N.drop s).take (i - s) ++ [n] = (N.drop s).take (i + 1 - s) := by rw [show i + 1 - s = i - s + 1 by omega]; exact (take_snoc hts).symm
        have ed : (N.take s).take (i + 1) = (N.take s).take i := by
          rw [List.take_take, List.take_take, Nat.min_eq_right (by omega), Nat.min_eq_right (by omega)]
        rw [ec] at h35d
        simp only [go_sem, Int.cast_ofNat_Int, Int.reduceToNat, Bool.true_xor, Bool.false_xor, Bool.xor_true, Bool.xor_false, Nat.reduceAdd, Nat.reduceBEq, Nat.reduceLeDiff, Nat.reduceLT, Nat.reduceMul, Nat.reduceSub, Int.reduceEq, Int.reduceLT, Int.reduceLE, Int.reduceNeg, h35d, hw, ed, hlt]
        exact ⟨by first | trivial | omega, by first | trivial | rfl, trivial⟩
    · obtain rfl : i = N.length := by omega
      have e1 : N.take N.length = N := List.take_length
      have e2 : N.reverse.take N.length = N.reverse := List.take_of_length_le (by simp)
      have e3 : (N.take s).take N.length = N.take s := List.take_of_length_le (by simp; omega)
      have e4 : (N.drop s).take (N.length - s) = N.drop s := List.take_of_length_le (by simp)
      have h28 := fun H => (s28 37 H 0 (cF (N.take s)) Z0 Z0 true true true 0 (cF (N.drop s)) Z0 Z0 true true true).trans (by rw [mg_cF (by simp; omega), List.take_append_drop])
      have h30 := fun H => s30 39 H 0 (cF N) Z0 Z0 true true true 0 (cF N) Z0 Z0 true true true (by rw [cF_len]; exact ln16) (by decide) (by decide)
      rw [sm_self] at h30
      have h14 := fun H => s14 30 H 0 (cF N) Z0 Z0 true true true w lo hi le (by rw [cF_len]; omega) (by decide) (by decide)
      rcases cl_eq 0 (cF N) Z0 Z0 w lo hi le with ⟨e, q⟩ | ⟨r', C', U', D', e, m1, m2, m3, q⟩
      · rw [q] at h14
        have hz := fun H => s30z H
        simp only [go_sem, Int.cast_ofNat_Int, Int.reduceToNat, Bool.true_xor, Bool.false_xor, Bool.xor_true, Bool.xor_false, Nat.reduceAdd, Nat.reduceBEq, Nat.reduceLeDiff, Nat.reduceLT, Nat.reduceMul, Nat.reduceSub, Int.reduceEq, Int.reduceLT, Int.reduceLE, Int.reduceNeg, show decide ((N.length : Int) < (N.length : Int)) = false from decide_eq_false (by omega), e1, e2, e3, e4, cF_rev, h28, h30, h14, hz]
      · rw [q] at h14
        have hz := fun H => s30 39 H r' C' U' D' true true true r' C' U' D' true true true m1 m2 m3
        rw [sm_self] at hz
        simp only [go_sem, Int.cast_ofNat_Int, Int.reduceToNat, Bool.true_xor, Bool.false_xor, Bool.xor_true, Bool.xor_false, Nat.reduceAdd, Nat.reduceBEq, Nat.reduceLeDiff, Nat.reduceLT, Nat.reduceMul, Nat.reduceSub, Int.reduceEq, Int.reduceLT, Int.reduceLE, Int.reduceNeg, show decide ((N.length : Int) < (N.length : Int)) = false from decide_eq_false (by omega), e1, e2, e3, e4, cF_rev, h28, h30, h14, hz]
theorem u8_of {n : Int} (h : (Lit.int .u8 n).wf = true) : ∃ m : Nat, n = m ∧ m < 256 := by
  simp only [Lit.wf, Bool.and_eq_true, decide_eq_true_eq] at h
  have h1 : IntKind.u8.min = 0 := rfl
  have h2 : IntKind.u8.max = 255 := rfl
  exact ⟨n.toNat, by omega, by omega⟩
theorem uS_of : ∀ {L : List (List SV)}, (∀ q ∈ L, FitsL [.int .u8] q) → ∃ N, L = uS N ∧ ∀ n ∈ N, n < 256
  | [], _ => ⟨[], rfl, by simp⟩
  | q :: L, h => by
    obtain ⟨N, rfl, hN⟩ := uS_of (L := L) (fun q hq => h q (by simp [hq]))
    have k := h q (by simp)
    obtain ⟨a, _, rfl, w, k⟩ := fitsL_i k
    cases fitsL_nil' k
    obtain ⟨m, rfl, hm⟩ := u8_of w
    refine ⟨m :: N, rfl, fun n hn => ?_⟩
    rcases List.mem_cons.1 hn with rfl | hn
    · exact hm
    · exact hN n hn
theorem law9 (xs : List SV) (h : FitsAll [(false, [.lst [.int .u8]]), (false, [.int .u8]), (true, [.int .i64, .int .i64, .int .i64, .int .i64])] xs) : ∃ m, call1 T m (.fn 9) xs heap0 = some (.bool true, heap0) := by
  obtain ⟨x1, r1, rfl, h1, h⟩ := fitsAll_cons h
  obtain ⟨x2, r2, rfl, h2, h⟩ := fitsAll_cons h
  obtain ⟨x3, r3, rfl, h3, h⟩ := fitsAll_cons h
  cases fitsAll_nil h
  obtain ⟨L, f, rfl, hL, hr⟩ := fits_lst (fitsA_one h1)
  obtain ⟨N, rfl, hN⟩ := uS_of hr
  obtain ⟨x, rfl, hx⟩ := fits_int (fitsA_one h2)
  obtain ⟨sp, rfl, hsp⟩ := u8_of hx
  obtain ⟨cs, rfl, k⟩ := fitsA_agg h3
  obtain ⟨a, _, rfl, _, k⟩ := fitsL_i k
  obtain ⟨b, _, rfl, _, k⟩ := fitsL_i k
  obtain ⟨c, _, rfl, _, k⟩ := fitsL_i k
  obtain ⟨d, _, rfl, _, k⟩ := fitsL_i k
  cases fitsL_nil' k
  exact ⟨41, s9 N f sp a b c d hN hsp (by rw [uS_len] at hL; exact hL)⟩
end Go.Sh
