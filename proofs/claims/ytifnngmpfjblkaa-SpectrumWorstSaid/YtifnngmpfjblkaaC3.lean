

import Derived.Test.YtifnngmpfjblkaaC2
namespace Go.Sh
set_option linter.unusedSectionVars false
set_option linter.unnecessarySimpa false
set_option linter.unusedVariables false
set_option linter.unusedSimpArgs false
set_option maxRecDepth 100000
set_option maxHeartbeats 4000000
theorem tms_snoc {F : List Fd} {i : Nat} {w : Fd} (h : F[i]? = some w) : tms (F.take (i + 1)) = tms (F.take i) ++ [w.x] := by
  simp [tms, List.take_add_one, h]
theorem tms_len (F : List Fd) : (tms F).length = 2 + F.length := by simp [tms]; omega
@[go_sem] theorem ap_full (esz bytes H z l L x X) : sappend esz bytes H (.lst z (l :: L) true) (x :: X) = bif decide (((l :: L).length + (x :: X).length) * bytes ≤ mostLen) then (bif z == esz then some (.slc H.bl.length 0 0 ((l :: L).length + (x :: X).length), hnew H (.arr 0 esz ((l :: L) ++ (x :: X)) false)) else none) else none := by
  simp only [sappend, Bool.true_and]
theorem ouT_snoc (p : Int → Nat → Int) (Ts : List Int) (t : Int) : ouT p (Ts ++ [t]) = inT (p t) (ouT p Ts) 16 := by simp [ouT]
theorem tms_0 : tms [] = [0, 1099511627776] := rfl
theorem roomT {n : Nat} (h : n ≤ 1000) : decide ((n + 1) * 8 ≤ mostLen) = true := by
  simp only [decide_eq_true_eq]
  exact Nat.le_trans (show (n + 1) * 8 ≤ 8008 by omega) (by decide)
theorem s8 (N P W g1 g2 g3 ex no th S f1 F f2) (a b : Int) (hN : N.length ≤ maxLen) (hP : P.length ≤ maxLen) (hW : W.length ≤ maxLen) (hS : okS S) (hF : F.length ≤ maxLen) :
    call1 T 41 (.fn 8) [G.st N P W g1 g2 g3 ex no th, sp S f1 F f2, .agg [.int .i64 a, .int .i64 b]] heap0 = some (.bool true, heap0) := by
  refine call_pure e8 (by rfl) ?_
  have h10 := s10
  have h18 := fun H => G.s18 39 H N P W g1 g2 g3 ex no th
  have h11 := fun H => s11 38 H S F f1 f2 hS.1
  have h30 := fun H => s30 28 H N P W g1 g2 g3 ex no th 7 S f1 6 F f2 a b hN hP hW (.inl rfl) (.inl rfl) hS hF
  simp only [c8, heap0, go_sem, Int.cast_ofNat_Int, Int.reduceToNat, Bool.true_xor, Bool.false_xor, Bool.xor_true, Bool.xor_false, Nat.reduceAdd, Nat.reduceBEq, Nat.reduceLeDiff, Nat.reduceLT, Nat.reduceMul, Nat.reduceSub, Int.reduceEq, Int.reduceLT, Int.reduceLE, Int.reduceNeg, h10, h18]
  cases hf0 : G.fewI N P W with
  | false => simp only [go_sem, Int.cast_ofNat_Int, Int.reduceToNat, Bool.true_xor, Bool.false_xor, Bool.xor_true, Bool.xor_false, Nat.reduceAdd, Nat.reduceBEq, Nat.reduceLeDiff, Nat.reduceLT, Nat.reduceMul, Nat.reduceSub, Int.reduceEq, Int.reduceLT, Int.reduceLE, Int.reduceNeg]
  | true =>
    simp only [go_sem, Int.cast_ofNat_Int, Int.reduceToNat, Bool.true_xor, Bool.false_xor, Bool.xor_true, Bool.xor_false, Nat.reduceAdd, Nat.reduceBEq, Nat.reduceLeDiff, Nat.reduceLT, Nat.reduceMul, Nat.reduceSub, Int.reduceEq, Int.reduceLT, Int.reduceLE, Int.reduceNeg, h11]
    cases hf : fewB S F with
    | false => simp only [go_sem, Int.cast_ofNat_Int, Int.reduceToNat, Bool.true_xor, Bool.false_xor, Bool.xor_true, Bool.xor_false, Nat.reduceAdd, Nat.reduceBEq, Nat.reduceLeDiff, Nat.reduceLT, Nat.reduceMul, Nat.reduceSub, Int.reduceEq, Int.reduceLT, Int.reduceLE, Int.reduceNeg]
    | true =>
      cases hok : G.okI N P W ex no th && ckB S F with
      | false =>
        simp only [hok, V3_eq, E3, cond_false] at h30
        simp only [go_sem, Int.cast_ofNat_Int, Int.reduceToNat, Bool.true_xor, Bool.false_xor, Bool.xor_true, Bool.xor_false, Nat.reduceAdd, Nat.reduceBEq, Nat.reduceLeDiff, Nat.reduceLT, Nat.reduceMul, Nat.reduceSub, Int.reduceEq, Int.reduceLT, Int.reduceLE, Int.reduceNeg, h30]
      | true =>
        cases hin : G.inI N a b with
        | false =>
          simp only [hok, hin, V3_eq, E3, cond_false, cond_true] at h30
          simp only [go_sem, Int.cast_ofNat_Int, Int.reduceToNat, Bool.true_xor, Bool.false_xor, Bool.xor_true, Bool.xor_false, Nat.reduceAdd, Nat.reduceBEq, Nat.reduceLeDiff, Nat.reduceLT, Nat.reduceMul, Nat.reduceSub, Int.reduceEq, Int.reduceLT, Int.reduceLE, Int.reduceNeg, h30]
        | true =>
          obtain ⟨hok1, hck⟩ := Bool.and_eq_true_iff.1 hok
          simp only [hok, hin, V3_eq, E3, cond_true] at h30
          have hlF := (few_of hf).2.1
          have hb := (G.btw_eq hok1 hin).2
          have hrW := le_rng (apW a b) (ckB_f0 hck)
          have hW0 := sg_nn hb hrW.1 hrW.2
          have hpp : ∀ (t : Int) (c : Nat), sgV (G.btw (G.atR W ex) N P a b) (leV (apW a b) F) ≤ sgV (G.btw (G.atR W ex) N P a b) (leV (apF a b (c : Int) t) F) := fun t c =>
            sg_mono hb hrW.1 (le_mono (p := apF a b (c : Int) t) (q := apW a b) (fun w h => apW_of w h) F) (le_rng _ (ckB_f0 hck)).2
          have hfin : ouT (fun t c => sgV (G.btw (G.atR W ex) N P a b) (leV (apF a b (c : Int) t) F)) (tms F) = sgV (G.btw (G.atR W ex) N P a b) (leV (apW a b) F) := by
            refine ouT_J hW0 hpp (tms F) (-1) (.inl rfl) ?_
            obtain ⟨t, h1, c, h2, h3⟩ := worst_at hck a b
            exact .inr ⟨t, h1, c, h2, by rw [h3]⟩
          simp only [go_sem, Int.cast_ofNat_Int, Int.reduceToNat, Bool.true_xor, Bool.false_xor, Bool.xor_true, Bool.xor_false, Nat.reduceAdd, Nat.reduceBEq, Nat.reduceLeDiff, Nat.reduceLT, Nat.reduceMul, Nat.reduceSub, Int.reduceEq, Int.reduceLT, Int.reduceLE, Int.reduceNeg, h30]
          refine loop_rule (fun i => ([(3, .ptr 0 0 0 0), (4, .ptr 1 0 0 0), (7, .int .i64 a), (8, .int .i64 b), (9, .int .i64 (sgV (G.btw (G.atR W ex) N P a b) (leV (apW a b) F))), (11, tmV F i), (48, .lst 6 (fdsS F) f2), (49, .int .i64 F.length), (50, .int .i64 i)],
            ⟨[.box [.lst 2 (G.ptsS N) g1, .lst 1 (G.intsS P) g2, .lst 5 (G.wlsS W) g3, .int .i64 ex, .int .i64 no, .int .i64 th], .box [.lst 7 (srsS S) f1, .lst 6 (fdsS F) f2], .box [.int .i64 a, .int .i64 b], tmK F i], [], 0⟩)) (fun _ => True) F.length ?_ trivial ?_
          · simp only [go_sem, Int.cast_ofNat_Int, Int.reduceToNat, Bool.true_xor, Bool.false_xor, Bool.xor_true, Bool.xor_false, Nat.reduceAdd, Nat.reduceBEq, Nat.reduceLeDiff, Nat.reduceLT, Nat.reduceMul, Nat.reduceSub, Int.reduceEq, Int.reduceLT, Int.reduceLE, Int.reduceNeg, tmV, tmK]
            rfl
          · intro i hi _
            rcases Nat.lt_or_ge i F.length with hlt | hge
            · obtain ⟨w, hw⟩ := getS hlt
              have hs := w64_suc hlt hF
              have hsn := tms_snoc hw
              have hl := tms_len (F.take i)
              cases i with
              | zero =>
                have hd : decide ((0:Int) < (F.length : Int)) = true := decide_eq_true (by omega)
                simp only [go_sem, Int.cast_ofNat_Int, Int.reduceToNat, Bool.true_xor, Bool.false_xor, Bool.xor_true, Bool.xor_false, Nat.reduceAdd, Nat.reduceBEq, Nat.reduceLeDiff, Nat.reduceLT, Nat.reduceMul, Nat.reduceSub, Int.reduceEq, Int.reduceLT, Int.reduceLE, Int.reduceNeg, hd, hlt, hw, hs, tmV, tmK, hsn, tms_0, List.take_zero, iS, List.map_cons, List.map_nil, List.cons_append, List.nil_append, show decide (3 * 8 ≤ mostLen) = true from rfl, List.length_cons, List.length_nil]
                exact ⟨trivial, rfl, trivial⟩
              | succ i =>
                have hrm : decide ((2 + (i + 1) + 1) * 8 ≤ mostLen) = true := roomT (n := 2 + (i + 1)) (by omega)
                have hsn2 : tms (F.take (i + 1 + 1)) = tms (F.take (i + 1)) ++ [w.x] := hsn
                have hL : (iS (tms (F.take (i + 1)))).length = 2 + (i + 1) := by rw [iS_len', tms_len, List.length_take]; omega
                simp only [go_sem, Int.cast_ofNat_Int, Int.reduceToNat, Bool.true_xor, Bool.false_xor, Bool.xor_true, Bool.xor_false, Nat.reduceAdd, Nat.reduceBEq, Nat.reduceLeDiff, Nat.reduceLT, Nat.reduceMul, Nat.reduceSub, Int.reduceEq, Int.reduceLT, Int.reduceLE, Int.reduceNeg, hlt, hw, hs, tmV, tmK, apB_grow _ _ _ _ _ _ _ hL, hrm, iS_snoc, hsn2]
                exact ⟨trivial, rfl, trivial⟩
            · have hlt : ¬ i < F.length := by omega
              have hiF : i = F.length := by omega
              subst hiF
              have hM := tms_len F
              have htm := tms_tm hck
              have hMm : (tms F).length ≤ maxLen := Nat.le_trans (show (tms F).length ≤ 72 by omega) (by decide)
              have h28 : ∀ (t : Int) (c : Nat), t ∈ tms F → c < 16 → ∀ H, call1 T 40 (.fn 28) [G.st N P W g1 g2 g3 ex no th, spz 7 S f1 6 F f2, .int .i64 a, .int .i64 b, .int .i64 (c : Int), .int .i64 t] H = some (.tup [.int .i64 (sgV (G.btw (G.atR W ex) N P a b) (leV (apF a b (c : Int) t) F)), .int .i64 0], H) := by
                intro t c ht hc H
                have h := s28 28 H N P W g1 g2 g3 ex no th 7 S f1 6 F f2 a b c t hN hP hW (.inl rfl) (.inl rfl) hS hF
                have har : (chanB (c : Int) && tmB t) = true := by
                  rw [htm t ht, Bool.and_true]
                  simp only [chanB, Bool.and_eq_true, decide_eq_true_eq]
                  omega
                simpa only [hok, hin, har, V3_eq, E3, cond_true] using h
              have e14 : inT (fun c => sgV (G.btw (G.atR W ex) N P a b) (leV (apF a b (c : Int) 0) F)) 0 0 = 0 := rfl
              cases hFl : F.length with
              | zero =>
                have hF0 : F = [] := List.eq_nil_of_length_eq_zero hFl
                have hlt : ¬ 0 < 0 := by omega
                have hT : tms F = [0, 1099511627776] := by rw [hF0]; rfl
                have hT2 : (tms F).length = 2 := by rw [hT]; rfl
                simp only [go_sem, Int.cast_ofNat_Int, Int.reduceToNat, Bool.true_xor, Bool.false_xor, Bool.xor_true, Bool.xor_false, Nat.reduceAdd, Nat.reduceBEq, Nat.reduceLeDiff, Nat.reduceLT, Nat.reduceMul, Nat.reduceSub, Int.reduceEq, Int.reduceLT, Int.reduceLE, Int.reduceNeg, hFl, hlt, tmV, tmK, iS_len']
                refine loop_rule (fun j => ([(3, .ptr 0 0 0 0), (4, .ptr 1 0 0 0), (7, .int .i64 a), (8, .int .i64 b), (9, .int .i64 (sgV (G.btw (G.atR W ex) N P a b) (leV (apW a b) F))), (14, .int .i64 (ouT (fun t c => sgV (G.btw (G.atR W ex) N P a b) (leV (apF a b (c : Int) t) F)) ((tms F).take j))), (60, (.lst 1 (iS [0, 1099511627776]) true)), (61, .int .i64 (2)), (62, .int .i64 j)],
                  ⟨[.box [.lst 2 (G.ptsS N) g1, .lst 1 (G.intsS P) g2, .lst 5 (G.wlsS W) g3, .int .i64 ex, .int .i64 no, .int .i64 th], .box [.lst 7 (srsS S) f1, .lst 6 (fdsS F) f2], .box [.int .i64 a, .int .i64 b], (.arr 0 1 [] false)], [], 0⟩)) (fun _ => True) (tms F).length ?_ trivial ?_
                · simp only [go_sem, Int.cast_ofNat_Int, Int.reduceToNat, Bool.true_xor, Bool.false_xor, Bool.xor_true, Bool.xor_false, Nat.reduceAdd, Nat.reduceBEq, Nat.reduceLeDiff, Nat.reduceLT, Nat.reduceMul, Nat.reduceSub, Int.reduceEq, Int.reduceLT, Int.reduceLE, Int.reduceNeg, iS_len']
                  rfl
                · intro j hj _
                  rcases Nat.lt_or_ge j (tms F).length with hjl | hjg
                  · obtain ⟨t, ht⟩ : ∃ t, (tms F)[j]? = some t := ⟨_, List.getElem?_eq_getElem hjl⟩
                    have htM := List.mem_of_getElem? ht
                    have hd1 : decide ((j:Int) < 2) = true := decide_eq_true (by omega)
                    have ht1 : ([0, 1099511627776] : List Int)[j]? = some t := hT ▸ ht
                    simp only [go_sem, Int.cast_ofNat_Int, Int.reduceToNat, Bool.true_xor, Bool.false_xor, Bool.xor_true, Bool.xor_false, Nat.reduceAdd, Nat.reduceBEq, Nat.reduceLeDiff, Nat.reduceLT, Nat.reduceMul, Nat.reduceSub, Int.reduceEq, Int.reduceLT, Int.reduceLE, Int.reduceNeg, hd1, ht1, iS_nth, Option.map_some, iS_len']
                    have hsj := w64_suc hjl hMm
                    have htk : (tms F).take (j + 1) = (tms F).take j ++ [t] := by simp [List.take_add_one, ht]
                    refine loop_post (fun c => ([(3, .ptr 0 0 0 0), (4, .ptr 1 0 0 0), (7, .int .i64 a), (8, .int .i64 b), (9, .int .i64 (sgV (G.btw (G.atR W ex) N P a b) (leV (apW a b) F))), (14, .int .i64 (inT (fun c => sgV (G.btw (G.atR W ex) N P a b) (leV (apF a b (c : Int) t) F)) (ouT (fun t c => sgV (G.btw (G.atR W ex) N P a b) (leV (apF a b (c : Int) t) F)) ((tms F).take j)) c)), (16, .int .i64 t), (60, (.lst 1 (iS [0, 1099511627776]) true)), (61, .int .i64 (2)), (62, .int .i64 j), (66, .int .i64 c)],
                      ⟨[.box [.lst 2 (G.ptsS N) g1, .lst 1 (G.intsS P) g2, .lst 5 (G.wlsS W) g3, .int .i64 ex, .int .i64 no, .int .i64 th], .box [.lst 7 (srsS S) f1, .lst 6 (fdsS F) f2], .box [.int .i64 a, .int .i64 b], (.arr 0 1 [] false)], [], 0⟩)) (fun _ => True) 16 ?_ trivial ?_
                    · simp only [go_sem, Int.cast_ofNat_Int, Int.reduceToNat, Bool.true_xor, Bool.false_xor, Bool.xor_true, Bool.xor_false, Nat.reduceAdd, Nat.reduceBEq, Nat.reduceLeDiff, Nat.reduceLT, Nat.reduceMul, Nat.reduceSub, Int.reduceEq, Int.reduceLT, Int.reduceLE, Int.reduceNeg, iS_len']
                      rfl
                    · intro c hcc _
                      rcases Nat.lt_or_ge c 16 with hc | hc
                      · have hx := h28 t c htM hc
                        have hsc := w64_suc hc (show 16 ≤ maxLen by decide)
                        have hdc : decide ((c : Int) < 16) = true := decide_eq_true (by omega)
                        have hd1 : decide (sgV (G.btw (G.atR W ex) N P a b) (leV (apF a b (c : Int) t) F) < sgV (G.btw (G.atR W ex) N P a b) (leV (apW a b) F)) = false := decide_eq_false (by have := hpp t c; omega)
                        simp only [go_sem, Int.cast_ofNat_Int, Int.reduceToNat, Bool.true_xor, Bool.false_xor, Bool.xor_true, Bool.xor_false, Nat.reduceAdd, Nat.reduceBEq, Nat.reduceLeDiff, Nat.reduceLT, Nat.reduceMul, Nat.reduceSub, Int.reduceEq, Int.reduceLT, Int.reduceLE, Int.reduceNeg, hdc, hx, hd1, hsc, iS_len']
                        generalize hl : inT (fun c => sgV (G.btw (G.atR W ex) N P a b) (leV (apF a b (c : Int) t) F)) (ouT (fun t c => sgV (G.btw (G.atR W ex) N P a b) (leV (apF a b (c : Int) t) F)) ((tms F).take j)) c = l
                        rcases Int.lt_or_le l 0 with q1 | q1
                        · have e1 : decide (l < 0) = true := decide_eq_true q1
                          have eu : upd l (sgV (G.btw (G.atR W ex) N P a b) (leV (apF a b (c : Int) t) F)) = (sgV (G.btw (G.atR W ex) N P a b) (leV (apF a b (c : Int) t) F)) := if_pos q1
                          simp only [go_sem, Int.cast_ofNat_Int, Int.reduceToNat, Bool.true_xor, Bool.false_xor, Bool.xor_true, Bool.xor_false, Nat.reduceAdd, Nat.reduceBEq, Nat.reduceLeDiff, Nat.reduceLT, Nat.reduceMul, Nat.reduceSub, Int.reduceEq, Int.reduceLT, Int.reduceLE, Int.reduceNeg, e1, inT_succ, hl, eu, hsc, iS_len']
                          exact ⟨hc, rfl, trivial⟩
                        · have e1 : decide (l < 0) = false := decide_eq_false (by omega)
                          rcases Int.lt_or_le (sgV (G.btw (G.atR W ex) N P a b) (leV (apF a b (c : Int) t) F)) l with q2 | q2
                          · have e2 : decide ((sgV (G.btw (G.atR W ex) N P a b) (leV (apF a b (c : Int) t) F)) < l) = true := decide_eq_true q2
                            have eu : upd l (sgV (G.btw (G.atR W ex) N P a b) (leV (apF a b (c : Int) t) F)) = (sgV (G.btw (G.atR W ex) N P a b) (leV (apF a b (c : Int) t) F)) := by rw [upd, if_neg (by omega), if_pos q2]
                            simp only [go_sem, Int.cast_ofNat_Int, Int.reduceToNat, Bool.true_xor, Bool.false_xor, Bool.xor_true, Bool.xor_false, Nat.reduceAdd, Nat.reduceBEq, Nat.reduceLeDiff, Nat.reduceLT, Nat.reduceMul, Nat.reduceSub, Int.reduceEq, Int.reduceLT, Int.reduceLE, Int.reduceNeg, e1, e2, inT_succ, hl, eu, hsc, iS_len']
                            exact ⟨hc, rfl, trivial⟩
                          · have e2 : decide ((sgV (G.btw (G.atR W ex) N P a b) (leV (apF a b (c : Int) t) F)) < l) = false := decide_eq_false (by omega)
                            have eu : upd l (sgV (G.btw (G.atR W ex) N P a b) (leV (apF a b (c : Int) t) F)) = l := by rw [upd, if_neg (by omega), if_neg (by omega)]
                            simp only [go_sem, Int.cast_ofNat_Int, Int.reduceToNat, Bool.true_xor, Bool.false_xor, Bool.xor_true, Bool.xor_false, Nat.reduceAdd, Nat.reduceBEq, Nat.reduceLeDiff, Nat.reduceLT, Nat.reduceMul, Nat.reduceSub, Int.reduceEq, Int.reduceLT, Int.reduceLE, Int.reduceNeg, e1, e2, inT_succ, hl, eu, hsc, iS_len']
                            exact ⟨hc, rfl, trivial⟩
                      · have hc16 : c = 16 := by omega
                        subst hc16
                        simp only [go_sem, Int.cast_ofNat_Int, Int.reduceToNat, Bool.true_xor, Bool.false_xor, Bool.xor_true, Bool.xor_false, Nat.reduceAdd, Nat.reduceBEq, Nat.reduceLeDiff, Nat.reduceLT, Nat.reduceMul, Nat.reduceSub, Int.reduceEq, Int.reduceLT, Int.reduceLE, Int.reduceNeg, hsj, htk, ouT_snoc, iS_len']
                        exact ⟨by omega, rfl, trivial⟩
                  · have hjF : j = (tms F).length := by omega
                    subst hjF
                    have hd2 : decide (((tms F).length : Int) < 2) = false := decide_eq_false (by omega)
                    simp only [go_sem, Int.cast_ofNat_Int, Int.reduceToNat, Bool.true_xor, Bool.false_xor, Bool.xor_true, Bool.xor_false, Nat.reduceAdd, Nat.reduceBEq, Nat.reduceLeDiff, Nat.reduceLT, Nat.reduceMul, Nat.reduceSub, Int.reduceEq, Int.reduceLT, Int.reduceLE, Int.reduceNeg, hd2, List.take_length, hfin, iS_len']
              | succ k =>
                have hlt : ¬ k + 1 < k + 1 := by omega
                have hK : F.take (k + 1) = F := List.take_of_length_le (by omega)
                simp only [go_sem, Int.cast_ofNat_Int, Int.reduceToNat, Bool.true_xor, Bool.false_xor, Bool.xor_true, Bool.xor_false, Nat.reduceAdd, Nat.reduceBEq, Nat.reduceLeDiff, Nat.reduceLT, Nat.reduceMul, Nat.reduceSub, Int.reduceEq, Int.reduceLT, Int.reduceLE, Int.reduceNeg, hFl, hlt, tmV, tmK, hK, iS_len', hM]
                refine loop_rule (fun j => ([(3, .ptr 0 0 0 0), (4, .ptr 1 0 0 0), (7, .int .i64 a), (8, .int .i64 b), (9, .int .i64 (sgV (G.btw (G.atR W ex) N P a b) (leV (apW a b) F))), (14, .int .i64 (ouT (fun t c => sgV (G.btw (G.atR W ex) N P a b) (leV (apF a b (c : Int) t) F)) ((tms F).take j))), (60, (.slc 3 (k + 1) 0 (2 + (k + 1)))), (61, .int .i64 (((2 + (k + 1) : Nat) : Int))), (62, .int .i64 j)],
                  ⟨[.box [.lst 2 (G.ptsS N) g1, .lst 1 (G.intsS P) g2, .lst 5 (G.wlsS W) g3, .int .i64 ex, .int .i64 no, .int .i64 th], .box [.lst 7 (srsS S) f1, .lst 6 (fdsS F) f2], .box [.int .i64 a, .int .i64 b], (.arr (k + 1) 1 (iS (tms F)) false)], [], 0⟩)) (fun _ => True) (tms F).length ?_ trivial ?_
                · simp only [go_sem, Int.cast_ofNat_Int, Int.reduceToNat, Bool.true_xor, Bool.false_xor, Bool.xor_true, Bool.xor_false, Nat.reduceAdd, Nat.reduceBEq, Nat.reduceLeDiff, Nat.reduceLT, Nat.reduceMul, Nat.reduceSub, Int.reduceEq, Int.reduceLT, Int.reduceLE, Int.reduceNeg, hK, iS_len', hM]
                  rfl
                · intro j hj _
                  rcases Nat.lt_or_ge j (tms F).length with hjl | hjg
                  · obtain ⟨t, ht⟩ : ∃ t, (tms F)[j]? = some t := ⟨_, List.getElem?_eq_getElem hjl⟩
                    have htM := List.mem_of_getElem? ht
                    have hd1 : j < 2 + (k + 1) := by omega
                    have ht1 := ht
                    simp only [go_sem, Int.cast_ofNat_Int, Int.reduceToNat, Bool.true_xor, Bool.false_xor, Bool.xor_true, Bool.xor_false, Nat.reduceAdd, Nat.reduceBEq, Nat.reduceLeDiff, Nat.reduceLT, Nat.reduceMul, Nat.reduceSub, Int.reduceEq, Int.reduceLT, Int.reduceLE, Int.reduceNeg, hd1, ht1, iS_nth, Option.map_some, hK, iS_len', hM]
                    have hsj := w64_suc hjl hMm
                    have htk : (tms F).take (j + 1) = (tms F).take j ++ [t] := by simp [List.take_add_one, ht]
                    refine loop_post (fun c => ([(3, .ptr 0 0 0 0), (4, .ptr 1 0 0 0), (7, .int .i64 a), (8, .int .i64 b), (9, .int .i64 (sgV (G.btw (G.atR W ex) N P a b) (leV (apW a b) F))), (14, .int .i64 (inT (fun c => sgV (G.btw (G.atR W ex) N P a b) (leV (apF a b (c : Int) t) F)) (ouT (fun t c => sgV (G.btw (G.atR W ex) N P a b) (leV (apF a b (c : Int) t) F)) ((tms F).take j)) c)), (16, .int .i64 t), (60, (.slc 3 (k + 1) 0 (2 + (k + 1)))), (61, .int .i64 (((2 + (k + 1) : Nat) : Int))), (62, .int .i64 j), (66, .int .i64 c)],
                      ⟨[.box [.lst 2 (G.ptsS N) g1, .lst 1 (G.intsS P) g2, .lst 5 (G.wlsS W) g3, .int .i64 ex, .int .i64 no, .int .i64 th], .box [.lst 7 (srsS S) f1, .lst 6 (fdsS F) f2], .box [.int .i64 a, .int .i64 b], (.arr (k + 1) 1 (iS (tms F)) false)], [], 0⟩)) (fun _ => True) 16 ?_ trivial ?_
                    · simp only [go_sem, Int.cast_ofNat_Int, Int.reduceToNat, Bool.true_xor, Bool.false_xor, Bool.xor_true, Bool.xor_false, Nat.reduceAdd, Nat.reduceBEq, Nat.reduceLeDiff, Nat.reduceLT, Nat.reduceMul, Nat.reduceSub, Int.reduceEq, Int.reduceLT, Int.reduceLE, Int.reduceNeg, hK, iS_len', hM]
                      rfl
                    · intro c hcc _
                      rcases Nat.lt_or_ge c 16 with hc | hc
                      · have hx := h28 t c htM hc
                        have hsc := w64_suc hc (show 16 ≤ maxLen by decide)
                        have hdc : decide ((c : Int) < 16) = true := decide_eq_true (by omega)
                        have hd1 : decide (sgV (G.btw (G.atR W ex) N P a b) (leV (apF a b (c : Int) t) F) < sgV (G.btw (G.atR W ex) N P a b) (leV (apW a b) F)) = false := decide_eq_false (by have := hpp t c; omega)
                        simp only [go_sem, Int.cast_ofNat_Int, Int.reduceToNat, Bool.true_xor, Bool.false_xor, Bool.xor_true, Bool.xor_false, Nat.reduceAdd, Nat.reduceBEq, Nat.reduceLeDiff, Nat.reduceLT, Nat.reduceMul, Nat.reduceSub, Int.reduceEq, Int.reduceLT, Int.reduceLE, Int.reduceNeg, hdc, hx, hd1, hsc, hK, iS_len', hM]
                        generalize hl : inT (fun c => sgV (G.btw (G.atR W ex) N P a b) (leV (apF a b (c : Int) t) F)) (ouT (fun t c => sgV (G.btw (G.atR W ex) N P a b) (leV (apF a b (c : Int) t) F)) ((tms F).take j)) c = l
                        rcases Int.lt_or_le l 0 with q1 | q1
                        · have e1 : decide (l < 0) = true := decide_eq_true q1
                          have eu : upd l (sgV (G.btw (G.atR W ex) N P a b) (leV (apF a b (c : Int) t) F)) = (sgV (G.btw (G.atR W ex) N P a b) (leV (apF a b (c : Int) t) F)) := if_pos q1
                          simp only [go_sem, Int.cast_ofNat_Int, Int.reduceToNat, Bool.true_xor, Bool.false_xor, Bool.xor_true, Bool.xor_false, Nat.reduceAdd, Nat.reduceBEq, Nat.reduceLeDiff, Nat.reduceLT, Nat.reduceMul, Nat.reduceSub, Int.reduceEq, Int.reduceLT, Int.reduceLE, Int.reduceNeg, e1, inT_succ, hl, eu, hsc, hK, iS_len', hM]
                          exact ⟨hc, rfl, trivial⟩
                        · have e1 : decide (l < 0) = false := decide_eq_false (by omega)
                          rcases Int.lt_or_le (sgV (G.btw (G.atR W ex) N P a b) (leV (apF a b (c : Int) t) F)) l with q2 | q2
                          · have e2 : decide ((sgV (G.btw (G.atR W ex) N P a b) (leV (apF a b (c : Int) t) F)) < l) = true := decide_eq_true q2
                            have eu : upd l (sgV (G.btw (G.atR W ex) N P a b) (leV (apF a b (c : Int) t) F)) = (sgV (G.btw (G.atR W ex) N P a b) (leV (apF a b (c : Int) t) F)) := by rw [upd, if_neg (by omega), if_pos q2]
                            simp only [go_sem, Int.cast_ofNat_Int, Int.reduceToNat, Bool.true_xor, Bool.false_xor, Bool.xor_true, Bool.xor_false, Nat.reduceAdd, Nat.reduceBEq, Nat.reduceLeDiff, Nat.reduceLT, Nat.reduceMul, Nat.reduceSub, Int.reduceEq, Int.reduceLT, Int.reduceLE, Int.reduceNeg, e1, e2, inT_succ, hl, eu, hsc, hK, iS_len', hM]
                            exact ⟨hc, rfl, trivial⟩
                          · have e2 : decide ((sgV (G.btw (G.atR W ex) N P a b) (leV (apF a b (c : Int) t) F)) < l) = false := decide_eq_false (by omega)
                            have eu : upd l (sgV (G.btw (G.atR W ex) N P a b) (leV (apF a b (c : Int) t) F)) = l := by rw [upd, if_neg (by omega), if_neg (by omega)]
                            simp only [go_sem, Int.cast_ofNat_Int, Int.reduceToNat, Bool.true_xor, Bool.false_xor, Bool.xor_true, Bool.xor_false, Nat.reduceAdd, Nat.reduceBEq, Nat.reduceLeDiff, Nat.reduceLT, Nat.reduceMul, Nat.reduceSub, Int.reduceEq, Int.reduceLT, Int.reduceLE, Int.reduceNeg, e1, e2, inT_succ, hl, eu, hsc, hK, iS_len', hM]
                            exact ⟨hc, rfl, trivial⟩
                      · have hc16 : c = 16 := by omega
                        subst hc16
                        simp only [go_sem, Int.cast_ofNat_Int, Int.reduceToNat, Bool.true_xor, Bool.false_xor, Bool.xor_true, Bool.xor_false, Nat.reduceAdd, Nat.reduceBEq, Nat.reduceLeDiff, Nat.reduceLT, Nat.reduceMul, Nat.reduceSub, Int.reduceEq, Int.reduceLT, Int.reduceLE, Int.reduceNeg, hsj, htk, ouT_snoc, hK, iS_len', hM]
                        exact ⟨by omega, rfl, trivial⟩
                  · have hjF : j = (tms F).length := by omega
                    subst hjF
                    have hd2 : ¬ 2 + F.length < 2 + (k + 1) := by omega
                    have hd3 : (tms F).take (2 + F.length) = tms F := by rw [← hM, List.take_length]
                    simp only [go_sem, Int.cast_ofNat_Int, Int.reduceToNat, Bool.true_xor, Bool.false_xor, Bool.xor_true, Bool.xor_false, Nat.reduceAdd, Nat.reduceBEq, Nat.reduceLeDiff, Nat.reduceLT, Nat.reduceMul, Nat.reduceSub, Int.reduceEq, Int.reduceLT, Int.reduceLE, Int.reduceNeg, hd2, List.take_length, hfin, hd3, hK, iS_len', hM]
theorem law8 (xs : List SV) (h : FitsAll [siteD, spD, (true, [.int .i64, .int .i64])] xs) : ∃ m, call1 T m (.fn 8) xs heap0 = some (.bool true, heap0) := by
  obtain ⟨x1, r1, rfl, h1, h⟩ := fitsAll_cons h
  obtain ⟨x2, r2, rfl, h2, h⟩ := fitsAll_cons h
  obtain ⟨x3, r3, rfl, h3, h⟩ := fitsAll_cons h
  cases fitsAll_nil h
  obtain ⟨N, P, W, g1, g2, g3, ex, no, th, rfl, hN, hP, hW⟩ := site_of h1
  obtain ⟨S, f1, F, f2, rfl, hS, hF⟩ := sp_of h2
  obtain ⟨cs, rfl, k⟩ := fitsA_agg h3
  obtain ⟨a, _, rfl, _, k⟩ := fitsL_i k
  obtain ⟨b, _, rfl, _, k⟩ := fitsL_i k
  cases fitsL_nil' k
  exact ⟨41, s8 N P W g1 g2 g3 ex no th S f1 F f2 a b hN hP hW hS hF⟩
end Go.Sh
