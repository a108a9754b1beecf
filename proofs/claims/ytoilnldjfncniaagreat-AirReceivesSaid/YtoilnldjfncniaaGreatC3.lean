

import Derived.Test.YtoilnldjfncniaaGreatC2
import Derived.Test.YtoilnldjfncniaaGreatB4
namespace Go.Sh
set_option linter.unusedSectionVars false
set_option linter.unnecessarySimpa false
set_option linter.unusedVariables false
set_option linter.unusedSimpArgs false
set_option maxRecDepth 100000
set_option maxHeartbeats 4000000
structure Sn where
  N : List (Int × Int)
  P : List Int
  W : List G.Wl
  g1 : Bool
  g2 : Bool
  g3 : Bool
  ex : Int
  no : Int
  th : Int
  S : List U.Src
  f1 : Bool
  F : List U.Fd
  f2 : Bool
  hN : N.length ≤ maxLen
  hP : P.length ≤ maxLen
  hW : W.length ≤ maxLen
  hS : U.okS S
  hF : F.length ≤ maxLen
abbrev stC (s : Sn) : List SV := [.lst 2 (G.ptsS s.N) s.g1, .lst 1 (G.intsS s.P) s.g2, .lst 5 (G.wlsS s.W) s.g3, .int .i64 s.ex, .int .i64 s.no, .int .i64 s.th]
abbrev spC (s : Sn) : List SV := [.lst 7 (U.srsS s.S) s.f1, .lst 6 (U.fdsS s.F) s.f2]
/-- A scene's cells; the site of its function lies in the block b. -/
abbrev snC (s : Sn) (L : List Em) (f : Bool) (b : Nat) : List SV := [.lst 2 (G.ptsS s.N) s.g1, .lst 1 (G.intsS s.P) s.g2, .lst 5 (G.wlsS s.W) s.g3, .int .i64 s.ex, .int .i64 s.no, .int .i64 s.th, .lst 7 (U.srsS s.S) s.f1, .lst 6 (U.fdsS s.F) s.f2, .lst 4 (emsS L) f, .fn 40 [.ptr b 0 0 0]]
def okSn (s : Sn) : Bool := G.okI s.N s.P s.W s.ex s.no s.th && U.ckB s.S s.F
def sig (s : Sn) (a : Em) (n : Int) : Int := U.V3 (okSn s) (G.inI s.N a.n n) (U.chanB a.c && U.tmB a.x) (U.sgV (G.btw (G.atR s.W s.ex) s.N s.P a.n n) (U.leV (U.apF a.n n a.c a.x) s.F))
def ext (s : Sn) (a : Em) (n : Int) : Int := U.V3 (okSn s) (U.inB s.N.length n) (U.chanB a.c && U.ivB a.x a.y) (U.extV (U.exR s.N s.P s.W s.ex s.no s.th n.toNat) s.S a.c a.x a.y)
theorem s57 (n : Nat) (H : Heap) (a b : Int) : call1 T (n + 1) (.fn 57) [.int .i64 a, .int .i64 b] H = some (.bool (decide (1000 ≤ a) && decide (a ≤ 100000) && decide (1 ≤ b) && decide (b ≤ 68719476736)), H) := by
  refine call_pure e57 (by rfl) ?_
  simp only [c57, heap0, go_sem, Int.cast_ofNat_Int, Int.reduceToNat, Bool.true_xor, Bool.false_xor, Bool.xor_true, Bool.xor_false, Nat.reduceAdd, Nat.reduceBEq, Nat.reduceLeDiff, Nat.reduceLT, Nat.reduceMul, Nat.reduceSub, Int.reduceEq, Int.reduceLT, Int.reduceLE, Int.reduceNeg]
  repeat' (with_reducible refine fork_split (fun _ => ?_) (fun _ => ?_) <;> simp only [*, go_sem, Int.cast_ofNat_Int, Int.reduceToNat, Bool.true_xor, Bool.false_xor, Bool.xor_true, Bool.xor_false, Nat.reduceAdd, Nat.reduceBEq, Nat.reduceLeDiff, Nat.reduceLT, Nat.reduceMul, Nat.reduceSub, Int.reduceEq, Int.reduceLT, Int.reduceLE, Int.reduceNeg])
  all_goals simp_all
def mgI (p th no : Int) : Int := bif G.powI p && (decide (1000 ≤ th) && decide (th ≤ 100000) && decide (1 ≤ no) && decide (no ≤ 68719476736)) then max (w64 ((w64 ((w64 (1000 * p)).tdiv th)) - no)) (-1) else 0
def mgE (p th no : Int) : Int := bif G.powI p && (decide (1000 ≤ th) && decide (th ≤ 100000) && decide (1 ≤ no) && decide (no ≤ 68719476736)) then 0 else 2
theorem s41 (n : Nat) (H : Heap) (p th no : Int) : call1 T (n + 2) (.fn 41) [.int .i64 p, .int .i64 th, .int .i64 no] H = some (.tup [.int .i64 (mgI p th no), .int .i64 (mgE p th no)], H) := by
  refine call_pure e41 (by rfl) ?_
  have h83 := fun H => G.s56 n H p
  have h84 := fun H => s57 n H th no
  unfold mgI mgE
  cases k1 : G.powI p with
  | false => simp only [c41, heap0, go_sem, Int.cast_ofNat_Int, Int.reduceToNat, Bool.true_xor, Bool.false_xor, Bool.xor_true, Bool.xor_false, Nat.reduceAdd, Nat.reduceBEq, Nat.reduceLeDiff, Nat.reduceLT, Nat.reduceMul, Nat.reduceSub, Int.reduceEq, Int.reduceLT, Int.reduceLE, Int.reduceNeg, h83, k1]
  | true =>
    cases k2 : (decide (1000 ≤ th) && decide (th ≤ 100000) && decide (1 ≤ no) && decide (no ≤ 68719476736)) with
    | false => simp only [c41, heap0, go_sem, Int.cast_ofNat_Int, Int.reduceToNat, Bool.true_xor, Bool.false_xor, Bool.xor_true, Bool.xor_false, Nat.reduceAdd, Nat.reduceBEq, Nat.reduceLeDiff, Nat.reduceLT, Nat.reduceMul, Nat.reduceSub, Int.reduceEq, Int.reduceLT, Int.reduceLE, Int.reduceNeg, h83, h84, k1, k2]
    | true =>
      have h0 : decide (th = 0) = false := decide_eq_false (by simp only [Bool.and_eq_true, decide_eq_true_eq] at k2; omega)
      simp only [c41, heap0, go_sem, Int.cast_ofNat_Int, Int.reduceToNat, Bool.true_xor, Bool.false_xor, Bool.xor_true, Bool.xor_false, Nat.reduceAdd, Nat.reduceBEq, Nat.reduceLeDiff, Nat.reduceLT, Nat.reduceMul, Nat.reduceSub, Int.reduceEq, Int.reduceLT, Int.reduceLE, Int.reduceNeg, h83, h84, k1, k2, h0]
def hearB (s : Sn) (p q : Int) : Bool := decide (q ≤ mgI p s.th s.no)
theorem s40 (n : Nat) (H : Heap) (s : Sn) (b : Nat) (p q : Int) (hb : H.bl[b]? = some (.box (stC s))) : call1 T (n + 3) (.fn 40) [.int .i64 p, .int .i64 q, .ptr b 0 0 0] H = some (.bool (hearB s p q), H) := by
  refine call_ro e40 rfl rfl (fun R k bl ro hbl => ?_)
  obtain rfl : bl = H.bl := by
    rcases hbl with ⟨_, h2⟩ | h
    · simp [SV.refs.refsL, SV.refs] at h2
    · exact h
  have h70 := fun H => s41 n H p s.th s.no
  simp only [c40, go_sem, Int.cast_ofNat_Int, Int.reduceToNat, Bool.true_xor, Bool.false_xor, Bool.xor_true, Bool.xor_false, Nat.reduceAdd, Nat.reduceBEq, Nat.reduceLeDiff, Nat.reduceLT, Nat.reduceMul, Nat.reduceSub, Int.reduceEq, Int.reduceLT, Int.reduceLE, Int.reduceNeg, hb, h70]
  rfl
def freeB (L : List Em) (a : Em) (n : Int) : Bool := !L.any fun b => decide (b.n = n) && ovB b a
theorem any_at {A : Type} {L : List A} {p : A → Bool} {i : Nat} {x : A} (h : L[i]? = some x) (hp : p x = true) : L.any p = true := List.any_eq_true.2 ⟨x, List.mem_of_getElem? h, hp⟩
theorem any_none {A : Type} {L : List A} {p : A → Bool} {i : Nat} (hi : L.length ≤ i) (h : ∀ (j : Nat) x, j < i → L[j]? = some x → p x = false) : L.any p = false := by
  rw [List.any_eq_false]
  intro x hx
  obtain ⟨j, hj⟩ := List.getElem?_of_mem hx
  rw [h j x (by have := (List.getElem?_eq_some_iff.1 hj).1; omega) hj]
  simp
theorem s27 (n : Nat) (H : Heap) (s : Sn) (L : List Em) (f : Bool) (b i : Nat) (a : Em) (k : Int) (hL : L.length ≤ maxLen) (ha : L[i]? = some a) (hb : b < H.bl.length) :
    call1 T (n + 2) (.fn 27) [.agg (snC s L f b), .int .i64 i, .int .i64 k] H = some (.bool (freeB L a k), H) := by
  refine call_rox e27 rfl rfl (fun R kk bl ro r hbl hk => ?_)
  obtain rfl : bl = H.bl := by
    rcases hbl with ⟨_, h2⟩ | h
    · simp [SV.refs.refsL, SV.refs] at h2
    · exact h
  have hi : i < L.length := (List.getElem?_eq_some_iff.1 ha).1
  generalize H.bl = bl at *
  clear hbl
  simp only [c27, go_sem, Int.cast_ofNat_Int, Int.reduceToNat, Bool.true_xor, Bool.false_xor, Bool.xor_true, Bool.xor_false, Nat.reduceAdd, Nat.reduceBEq, Nat.reduceLeDiff, Nat.reduceLT, Nat.reduceMul, Nat.reduceSub, Int.reduceEq, Int.reduceLT, Int.reduceLE, Int.reduceNeg, fr_get0, fr_getk, fr_set0, fr_setk, fr_take0, fr_takek, fr_drop0, fr_dropk, fr_le, fr_le0, fr_lt, fr_lt0, fr_lt1, fr_min, fr_mink, fr_beq, fr_beq0, fr_beq1, fr_maxle, fr_refl, fr_z, fr_s, List.append_assoc, List.length_append, Nat.add_assoc]
  refine loop_rule (fun q => ([(1, .int .i64 i), (2, .int .i64 k), (3, .ptr bl.length 0 0 0), (10, .lst 4 (emsS L) f), (11, .int .i64 L.length), (12, .int .i64 q)], ⟨bl ++ [.box (snC s L f b)], [], min ro bl.length⟩))
    (fun q => ∀ (j : Nat) x, j < q → L[j]? = some x → (decide (x.n = k) && ovB x a) = false) L.length (by simp only [go_sem, Int.cast_ofNat_Int, Int.reduceToNat, Bool.true_xor, Bool.false_xor, Bool.xor_true, Bool.xor_false, Nat.reduceAdd, Nat.reduceBEq, Nat.reduceLeDiff, Nat.reduceLT, Nat.reduceMul, Nat.reduceSub, Int.reduceEq, Int.reduceLT, Int.reduceLE, Int.reduceNeg, fr_get0, fr_getk, fr_set0, fr_setk, fr_take0, fr_takek, fr_drop0, fr_dropk, fr_le, fr_le0, fr_lt, fr_lt0, fr_lt1, fr_min, fr_mink, fr_beq, fr_beq0, fr_beq1, fr_maxle, fr_refl, fr_z, fr_s, List.append_assoc, List.length_append, Nat.add_assoc]) (fun j x h => by omega) ?_
  intro q hq hP
  rcases Nat.lt_or_ge q L.length with hlt | hge
  · obtain ⟨x, hx⟩ := getS hlt
    have hw := w64_suc hlt hL
    have h14 := fun H => s19 n H x a
    have go : (decide (x.n = k) && ovB x a) = false → ∀ (j : Nat) y, j < q + 1 → L[j]? = some y → (decide (y.n = k) && ovB y a) = false := fun h j y hj hy => by
      rcases Nat.lt_or_ge j q with h3 | h3
      · exact hP j y h3 hy
      · obtain rfl : j = q := by omega
        rw [hx] at hy; cases hy; exact h
    simp only [go_sem, Int.cast_ofNat_Int, Int.reduceToNat, Bool.true_xor, Bool.false_xor, Bool.xor_true, Bool.xor_false, Nat.reduceAdd, Nat.reduceBEq, Nat.reduceLeDiff, Nat.reduceLT, Nat.reduceMul, Nat.reduceSub, Int.reduceEq, Int.reduceLT, Int.reduceLE, Int.reduceNeg, fr_get0, fr_getk, fr_set0, fr_setk, fr_take0, fr_takek, fr_drop0, fr_dropk, fr_le, fr_le0, fr_lt, fr_lt0, fr_lt1, fr_min, fr_mink, fr_beq, fr_beq0, fr_beq1, fr_maxle, fr_refl, fr_z, fr_s, List.append_assoc, List.length_append, Nat.add_assoc, hlt, hx]
    cases k1 : decide (x.n = k) with
    | false =>
      simp only [go_sem, Int.cast_ofNat_Int, Int.reduceToNat, Bool.true_xor, Bool.false_xor, Bool.xor_true, Bool.xor_false, Nat.reduceAdd, Nat.reduceBEq, Nat.reduceLeDiff, Nat.reduceLT, Nat.reduceMul, Nat.reduceSub, Int.reduceEq, Int.reduceLT, Int.reduceLE, Int.reduceNeg, fr_get0, fr_getk, fr_set0, fr_setk, fr_take0, fr_takek, fr_drop0, fr_dropk, fr_le, fr_le0, fr_lt, fr_lt0, fr_lt1, fr_min, fr_mink, fr_beq, fr_beq0, fr_beq1, fr_maxle, fr_refl, fr_z, fr_s, List.append_assoc, List.length_append, Nat.add_assoc, hlt, hw]
      exact ⟨trivial, by first | trivial | rfl, go (by rw [k1]; rfl)⟩
    | true =>
      cases k2 : ovB x a with
      | false =>
        simp only [go_sem, Int.cast_ofNat_Int, Int.reduceToNat, Bool.true_xor, Bool.false_xor, Bool.xor_true, Bool.xor_false, Nat.reduceAdd, Nat.reduceBEq, Nat.reduceLeDiff, Nat.reduceLT, Nat.reduceMul, Nat.reduceSub, Int.reduceEq, Int.reduceLT, Int.reduceLE, Int.reduceNeg, fr_get0, fr_getk, fr_set0, fr_setk, fr_take0, fr_takek, fr_drop0, fr_dropk, fr_le, fr_le0, fr_lt, fr_lt0, fr_lt1, fr_min, fr_mink, fr_beq, fr_beq0, fr_beq1, fr_maxle, fr_refl, fr_z, fr_s, List.append_assoc, List.length_append, Nat.add_assoc, hlt, hi, ha, h14, k2, hw]
        exact ⟨trivial, by first | trivial | rfl, go (by rw [k1, k2]; rfl)⟩
      | true =>
        have hf : freeB L a k = false := by rw [freeB, any_at hx (by rw [k1, k2]; rfl)]; rfl
        rw [hf] at hk
        simp only [go_sem, Int.cast_ofNat_Int, Int.reduceToNat, Bool.true_xor, Bool.false_xor, Bool.xor_true, Bool.xor_false, Nat.reduceAdd, Nat.reduceBEq, Nat.reduceLeDiff, Nat.reduceLT, Nat.reduceMul, Nat.reduceSub, Int.reduceEq, Int.reduceLT, Int.reduceLE, Int.reduceNeg, fr_get0, fr_getk, fr_set0, fr_setk, fr_take0, fr_takek, fr_drop0, fr_dropk, fr_le, fr_le0, fr_lt, fr_lt0, fr_lt1, fr_min, fr_mink, fr_beq, fr_beq0, fr_beq1, fr_maxle, fr_refl, fr_z, fr_s, List.append_assoc, List.length_append, Nat.add_assoc, hlt, hi, ha, h14, k2, hk]
  · have hlt : ¬ q < L.length := by omega
    have hf : freeB L a k = true := by rw [freeB, any_none hge hP]; rfl
    rw [hf] at hk
    simp only [go_sem, Int.cast_ofNat_Int, Int.reduceToNat, Bool.true_xor, Bool.false_xor, Bool.xor_true, Bool.xor_false, Nat.reduceAdd, Nat.reduceBEq, Nat.reduceLeDiff, Nat.reduceLT, Nat.reduceMul, Nat.reduceSub, Int.reduceEq, Int.reduceLT, Int.reduceLE, Int.reduceNeg, fr_get0, fr_getk, fr_set0, fr_setk, fr_take0, fr_takek, fr_drop0, fr_dropk, fr_le, fr_le0, fr_lt, fr_lt0, fr_lt1, fr_min, fr_mink, fr_beq, fr_beq0, fr_beq1, fr_maxle, fr_refl, fr_z, fr_s, List.append_assoc, List.length_append, Nat.add_assoc, hlt, hk]
theorem s28 (n : Nat) (H : Heap) (s : Sn) (L : List Em) (f : Bool) (b : Nat) (a : Em) (k : Int) (hb : b < H.bl.length) :
    call1 T (n + 13) (.fn 28) [.agg (snC s L f b), .agg (emC a), .int .i64 k] H = some (.int .i64 (sig s a k), H) := by
  refine call_rox e28 rfl rfl (fun R kk bl ro r hbl hk => ?_)
  obtain rfl : bl = H.bl := by
    rcases hbl with ⟨_, h2⟩ | h
    · simp [SV.refs.refsL, SV.refs] at h2
    · exact h
  generalize H.bl = bl at *
  clear hbl
  have h71 := fun H => U.s46 n H s.N s.P s.W s.g1 s.g2 s.g3 s.ex s.no s.th 7 s.S s.f1 6 s.F s.f2 a.n k a.c a.x s.hN s.hP s.hW (.inl rfl) (.inl rfl) s.hS s.hF
  simp only [c28, go_sem, Int.cast_ofNat_Int, Int.reduceToNat, Bool.true_xor, Bool.false_xor, Bool.xor_true, Bool.xor_false, Nat.reduceAdd, Nat.reduceBEq, Nat.reduceLeDiff, Nat.reduceLT, Nat.reduceMul, Nat.reduceSub, Int.reduceEq, Int.reduceLT, Int.reduceLE, Int.reduceNeg, fr_get0, fr_getk, fr_set0, fr_setk, fr_take0, fr_takek, fr_drop0, fr_dropk, fr_le, fr_le0, fr_lt, fr_lt0, fr_lt1, fr_min, fr_mink, fr_beq, fr_beq0, fr_beq1, fr_maxle, fr_refl, fr_z, fr_s, List.append_assoc, List.length_append, Nat.add_assoc, h71]
  exact hk _
theorem s29 (n : Nat) (H : Heap) (s : Sn) (L : List Em) (f : Bool) (b i : Nat) (a : Em) (k : Int) (ha : L[i]? = some a) (hb : b < H.bl.length) :
    call1 T (n + 13) (.fn 29) [.agg (snC s L f b), .int .i64 i, .int .i64 k] H = some (.int .i64 (ext s a k), H) := by
  refine call_rox e29 rfl rfl (fun R kk bl ro r hbl hk => ?_)
  obtain rfl : bl = H.bl := by
    rcases hbl with ⟨_, h2⟩ | h
    · simp [SV.refs.refsL, SV.refs] at h2
    · exact h
  have hi : i < L.length := (List.getElem?_eq_some_iff.1 ha).1
  generalize H.bl = bl at *
  clear hbl
  have h72 := fun H => U.s47 n H s.N s.P s.W s.g1 s.g2 s.g3 s.ex s.no s.th s.S s.f1 s.F s.f2 k a.c a.x a.y s.hN s.hP s.hW s.hS s.hF
  simp only [c29, go_sem, Int.cast_ofNat_Int, Int.reduceToNat, Bool.true_xor, Bool.false_xor, Bool.xor_true, Bool.xor_false, Nat.reduceAdd, Nat.reduceBEq, Nat.reduceLeDiff, Nat.reduceLT, Nat.reduceMul, Nat.reduceSub, Int.reduceEq, Int.reduceLT, Int.reduceLE, Int.reduceNeg, fr_get0, fr_getk, fr_set0, fr_setk, fr_take0, fr_takek, fr_drop0, fr_dropk, fr_le, fr_le0, fr_lt, fr_lt0, fr_lt1, fr_min, fr_mink, fr_beq, fr_beq0, fr_beq1, fr_maxle, fr_refl, fr_z, fr_s, List.append_assoc, List.length_append, Nat.add_assoc, hi, ha, h72]
  exact hk _
theorem s30k (n : Nat) (bl : List SBlk) (es : List (Nat × Nat)) (ro : Nat) (s : Sn) (L : List Em) (f : Bool) (b i : Nat) (k : Int) : call1 T (n + 1) (.kfn 30) [.agg (snC s L f b), .int .i64 i, .int .i64 k] ⟨bl, es, ro⟩ =
    some (.fn 48 [.ptr bl.length 0 0 0, .ptr (bl.length + 1) 0 0 0, .ptr (bl.length + 2) 0 0 0], ⟨bl ++ [.box (snC s L f b), .box [.int .i64 i], .box [.int .i64 k]], es, ro⟩) := by
  refine kcall_in e30 ?_
  simp only [c30, go_sem, Int.cast_ofNat_Int, Int.reduceToNat, Bool.true_xor, Bool.false_xor, Bool.xor_true, Bool.xor_false, Nat.reduceAdd, Nat.reduceBEq, Nat.reduceLeDiff, Nat.reduceLT, Nat.reduceMul, Nat.reduceSub, Int.reduceEq, Int.reduceLT, Int.reduceLE, Int.reduceNeg, fr_get0, fr_getk, fr_set0, fr_setk, fr_take0, fr_takek, fr_drop0, fr_dropk, fr_le, fr_le0, fr_lt, fr_lt0, fr_lt1, fr_min, fr_mink, fr_beq, fr_beq0, fr_beq1, fr_maxle, fr_refl, fr_z, fr_s, List.append_assoc, List.length_append, Nat.add_assoc]
end Go.Sh
namespace Go.Sh
set_option linter.unusedSectionVars false
set_option linter.unnecessarySimpa false
set_option linter.unusedVariables false
set_option linter.unusedSimpArgs false
set_option maxRecDepth 100000
set_option maxHeartbeats 4000000
def othB (a : Em) (i : Nat) (k : Int) (q : Nat) (x : Em) : Bool := !decide ((q : Int) = (i : Int)) && decide (x.c = a.c) && !decide (x.n = k) && ovB a x
def othF {A : Type} (u : A → Nat → Em → A) (a : Em) (i : Nat) (k : Int) (L : List Em) (v : A) : Nat → A
  | 0 => v
  | q + 1 => match L[q]? with
    | some x => bif othB a i k q x then u (othF u a i k L v q) q x else othF u a i k L v q
    | none => othF u a i k L v q
theorem s48 (n : Nat) (es : List (Nat × Nat)) (q : LoopRec) (bl : List SBlk) (ro : Nat) (X0 : SBlk) {A : Type} (X1 X2 : A → SBlk) (u : A → Nat → Em → A) (s : Sn) (L : List Em) (f : Bool) (b i : Nat) (a : Em) (k : Int) (hL : L.length ≤ maxLen) (ha : L[i]? = some a) (hb : b < bl.length) (hro : ro ≤ bl.length)
    (P : Nat → A → Prop) (hPs : ∀ v j, P j v → P (j + 1) v) (hPu : ∀ v j x, P j v → P (j + 1) (u v j x))
    (hy : ∀ (v : A) (j : Nat) (x : Em) (X : SBlk), P j v → j < L.length → L[j]? = some x → call1 T (n + 1) (.yld (bl.length + 6)) [.int .i64 j, .agg (emC x)] ⟨bl ++ [X0, X1 v, X2 v, .box (snC s L f b), .box [.int .i64 i], .box [.int .i64 k], .loop q .ready .normal, X], [], ro⟩ =
      some (.bool true, ⟨bl ++ [X0, X1 (u v j x), X2 (u v j x), .box (snC s L f b), .box [.int .i64 i], .box [.int .i64 k], .loop q .ready .normal, X], [], ro⟩)) (v : A) (hP0 : P 0 v) :
    call1 T (n + 2) (.fn 48) [.yld (bl.length + 6), .ptr (bl.length + 3) 0 0 0, .ptr (bl.length + 4) 0 0 0, .ptr (bl.length + 5) 0 0 0] ⟨bl ++ [X0, X1 v, X2 v, .box (snC s L f b), .box [.int .i64 i], .box [.int .i64 k], .loop q .ready .normal], es, ro⟩ =
      some (.tup [], ⟨bl ++ [X0, X1 (othF u a i k L v L.length), X2 (othF u a i k L v L.length), .box (snC s L f b), .box [.int .i64 i], .box [.int .i64 k], .loop q .ready .normal], es, ro⟩) := by
  refine call_in e48 (pure0_ne (by simp [SV.refs.refsL, SV.refs])) ?_
  have hm : ∀ k, min ro (bl.length + k) = ro := fun k => Nat.min_eq_left (by omega)
  have hm2 : ∀ k, decide (ro ≤ bl.length + k) = true := fun k => decide_eq_true (by omega)
  have hi : i < L.length := (List.getElem?_eq_some_iff.1 ha).1
  simp only [c48, go_sem, Int.cast_ofNat_Int, Int.reduceToNat, Bool.true_xor, Bool.false_xor, Bool.xor_true, Bool.xor_false, Nat.reduceAdd, Nat.reduceBEq, Nat.reduceLeDiff, Nat.reduceLT, Nat.reduceMul, Nat.reduceSub, Int.reduceEq, Int.reduceLT, Int.reduceLE, Int.reduceNeg, fr_get0, fr_getk, fr_set0, fr_setk, fr_take0, fr_takek, fr_drop0, fr_dropk, fr_le, fr_le0, fr_lt, fr_lt0, fr_lt1, fr_min, fr_mink, fr_beq, fr_beq0, fr_beq1, fr_maxle, fr_refl, fr_z, fr_s, List.append_assoc, List.length_append, Nat.add_assoc, hm, hm2]
  refine loop_rule (fun q' => ([(0, .yld (bl.length + 6)), (1, .ptr (bl.length + 3) 0 0 0), (2, .ptr (bl.length + 4) 0 0 0), (3, .ptr (bl.length + 5) 0 0 0), (8, .lst 4 (emsS L) f), (9, .int .i64 L.length), (10, .int .i64 q')],
    ⟨bl ++ [X0, X1 (othF u a i k L v q'), X2 (othF u a i k L v q'), .box (snC s L f b), .box [.int .i64 i], .box [.int .i64 k], .loop q .ready .normal], [], ro⟩)) (fun q' => P q' (othF u a i k L v q')) L.length (by simp only [go_sem, Int.cast_ofNat_Int, Int.reduceToNat, Bool.true_xor, Bool.false_xor, Bool.xor_true, Bool.xor_false, Nat.reduceAdd, Nat.reduceBEq, Nat.reduceLeDiff, Nat.reduceLT, Nat.reduceMul, Nat.reduceSub, Int.reduceEq, Int.reduceLT, Int.reduceLE, Int.reduceNeg, fr_get0, fr_getk, fr_set0, fr_setk, fr_take0, fr_takek, fr_drop0, fr_dropk, fr_le, fr_le0, fr_lt, fr_lt0, fr_lt1, fr_min, fr_mink, fr_beq, fr_beq0, fr_beq1, fr_maxle, fr_refl, fr_z, fr_s, List.append_assoc, List.length_append, Nat.add_assoc, hm, hm2, Nat.reduceAdd]; rfl) hP0 ?_
  intro q' hq hPq
  rcases Nat.lt_or_ge q' L.length with hlt | hge
  · obtain ⟨x, hx⟩ := getS hlt
    have hw := w64_suc hlt hL
    have h14 := fun H => s19 n H a x
    have hyy := fun X => hy _ q' x X hPq hlt hx
    have hPn := hPs _ _ hPq
    have no : othB a i k q' x = false → othF u a i k L v (q' + 1) = othF u a i k L v q' := fun h => by simp only [othF, hx, h, cond_false]
    cases k1 : decide ((q' : Int) = (i : Int)) with
    | true =>
      have e1 := no (by simp only [othB, k1]; rfl)
      simp only [go_sem, Int.cast_ofNat_Int, Int.reduceToNat, Bool.true_xor, Bool.false_xor, Bool.xor_true, Bool.xor_false, Nat.reduceAdd, Nat.reduceBEq, Nat.reduceLeDiff, Nat.reduceLT, Nat.reduceMul, Nat.reduceSub, Int.reduceEq, Int.reduceLT, Int.reduceLE, Int.reduceNeg, fr_get0, fr_getk, fr_set0, fr_setk, fr_take0, fr_takek, fr_drop0, fr_dropk, fr_le, fr_le0, fr_lt, fr_lt0, fr_lt1, fr_min, fr_mink, fr_beq, fr_beq0, fr_beq1, fr_maxle, fr_refl, fr_z, fr_s, List.append_assoc, List.length_append, Nat.add_assoc, hm, hm2, hlt, hi, ha, hx, k1, hw, e1]
      exact ⟨trivial, by first | trivial | rfl, hPn⟩
    | false =>
      cases k2 : decide (x.c = a.c) with
      | false =>
        have e1 := no (by simp only [othB, k1, k2]; rfl)
        simp only [go_sem, Int.cast_ofNat_Int, Int.reduceToNat, Bool.true_xor, Bool.false_xor, Bool.xor_true, Bool.xor_false, Nat.reduceAdd, Nat.reduceBEq, Nat.reduceLeDiff, Nat.reduceLT, Nat.reduceMul, Nat.reduceSub, Int.reduceEq, Int.reduceLT, Int.reduceLE, Int.reduceNeg, fr_get0, fr_getk, fr_set0, fr_setk, fr_take0, fr_takek, fr_drop0, fr_dropk, fr_le, fr_le0, fr_lt, fr_lt0, fr_lt1, fr_min, fr_mink, fr_beq, fr_beq0, fr_beq1, fr_maxle, fr_refl, fr_z, fr_s, List.append_assoc, List.length_append, Nat.add_assoc, hm, hm2, hlt, hi, ha, hx, k1, k2, hw, e1]
        exact ⟨trivial, by first | trivial | rfl, hPn⟩
      | true =>
        cases k3 : decide (x.n = k) with
        | true =>
          have e1 := no (by simp only [othB, k1, k2, k3]; rfl)
          simp only [go_sem, Int.cast_ofNat_Int, Int.reduceToNat, Bool.true_xor, Bool.false_xor, Bool.xor_true, Bool.xor_false, Nat.reduceAdd, Nat.reduceBEq, Nat.reduceLeDiff, Nat.reduceLT, Nat.reduceMul, Nat.reduceSub, Int.reduceEq, Int.reduceLT, Int.reduceLE, Int.reduceNeg, fr_get0, fr_getk, fr_set0, fr_setk, fr_take0, fr_takek, fr_drop0, fr_dropk, fr_le, fr_le0, fr_lt, fr_lt0, fr_lt1, fr_min, fr_mink, fr_beq, fr_beq0, fr_beq1, fr_maxle, fr_refl, fr_z, fr_s, List.append_assoc, List.length_append, Nat.add_assoc, hm, hm2, hlt, hi, ha, hx, k1, k2, k3, hw, e1]
          exact ⟨trivial, by first | trivial | rfl, hPn⟩
        | false =>
          cases k4 : ovB a x with
          | false =>
            have e1 := no (by simp only [othB, k1, k2, k3, k4]; rfl)
            simp only [go_sem, Int.cast_ofNat_Int, Int.reduceToNat, Bool.true_xor, Bool.false_xor, Bool.xor_true, Bool.xor_false, Nat.reduceAdd, Nat.reduceBEq, Nat.reduceLeDiff, Nat.reduceLT, Nat.reduceMul, Nat.reduceSub, Int.reduceEq, Int.reduceLT, Int.reduceLE, Int.reduceNeg, fr_get0, fr_getk, fr_set0, fr_setk, fr_take0, fr_takek, fr_drop0, fr_dropk, fr_le, fr_le0, fr_lt, fr_lt0, fr_lt1, fr_min, fr_mink, fr_beq, fr_beq0, fr_beq1, fr_maxle, fr_refl, fr_z, fr_s, List.append_assoc, List.length_append, Nat.add_assoc, hm, hm2, hlt, hi, ha, hx, k1, k2, k3, h14, k4, hw, e1]
            exact ⟨trivial, by first | trivial | rfl, hPn⟩
          | true =>
            have e1 : othF u a i k L v (q' + 1) = u (othF u a i k L v q') q' x := by
              have : othB a i k q' x = true := by simp only [othB, k1, k2, k3, k4]; rfl
              simp only [othF, hx, this, cond_true]
            have hPn := hPu _ _ x hPq
            simp only [go_sem, Int.cast_ofNat_Int, Int.reduceToNat, Bool.true_xor, Bool.false_xor, Bool.xor_true, Bool.xor_false, Nat.reduceAdd, Nat.reduceBEq, Nat.reduceLeDiff, Nat.reduceLT, Nat.reduceMul, Nat.reduceSub, Int.reduceEq, Int.reduceLT, Int.reduceLE, Int.reduceNeg, fr_get0, fr_getk, fr_set0, fr_setk, fr_take0, fr_takek, fr_drop0, fr_dropk, fr_le, fr_le0, fr_lt, fr_lt0, fr_lt1, fr_min, fr_mink, fr_beq, fr_beq0, fr_beq1, fr_maxle, fr_refl, fr_z, fr_s, List.append_assoc, List.length_append, Nat.add_assoc, hm, hm2, hlt, hi, ha, hx, k1, k2, k3, h14, k4, hyy, hw, e1]
            exact ⟨trivial, by first | trivial | rfl, hPn⟩
  · obtain rfl : q' = L.length := by omega
    simp only [go_sem, Int.cast_ofNat_Int, Int.reduceToNat, Bool.true_xor, Bool.false_xor, Bool.xor_true, Bool.xor_false, Nat.reduceAdd, Nat.reduceBEq, Nat.reduceLeDiff, Nat.reduceLT, Nat.reduceMul, Nat.reduceSub, Int.reduceEq, Int.reduceLT, Int.reduceLE, Int.reduceNeg, fr_get0, fr_getk, fr_set0, fr_setk, fr_take0, fr_takek, fr_drop0, fr_dropk, fr_le, fr_le0, fr_lt, fr_lt0, fr_lt1, fr_min, fr_mink, fr_beq, fr_beq0, fr_beq1, fr_maxle, fr_refl, fr_z, fr_s, List.append_assoc, List.length_append, Nat.add_assoc, hm, hm2, show decide ((L.length : Int) < (L.length : Int)) = false from decide_eq_false (by omega)]
def inter (s : Sn) (L : List Em) (i : Nat) (a : Em) (k : Int) : Int := othF (fun v _ x => w64 (v + sig s x k)) a i k L (ext s a k) L.length
theorem s37 (n : Nat) (H : Heap) (s : Sn) (L : List Em) (f : Bool) (b i : Nat) (a : Em) (k : Int) (hL : L.length ≤ maxLen) (ha : L[i]? = some a) (hb : b < H.bl.length) :
    call1 T (n + 16) (.fn 37) [.agg (snC s L f b), .int .i64 i, .int .i64 k] H = some (.int .i64 (inter s L i a k), H) := by
  refine call_rox e37 rfl rfl (fun R kk bl ro r hbl hk => ?_)
  obtain rfl : bl = H.bl := by
    rcases hbl with ⟨_, h2⟩ | h
    · simp [SV.refs.refsL, SV.refs] at h2
    · exact h
  generalize H.bl = bl at *
  clear hbl
  have hro : min ro bl.length ≤ bl.length := Nat.min_le_right _ _
  generalize min ro bl.length = ro' at *
  have hm : ∀ k, min ro' (bl.length + k) = ro' := fun k => Nat.min_eq_left (by omega)
  have hm2 : ∀ k, decide (ro' ≤ bl.length + k) = true := fun k => decide_eq_true (by omega)
  have hm3 : decide (ro' ≤ bl.length) = true := decide_eq_true hro
  have h43 := fun l es ro => s29 (n + 2) ⟨bl ++ l, es, ro⟩ s L f b i a k ha (by simp; omega)
  have h44 := fun l es ro => s30k (n + 14) (bl ++ l) es ro s L f b i k
  simp only [c37, go_sem, Int.cast_ofNat_Int, Int.reduceToNat, Bool.true_xor, Bool.false_xor, Bool.xor_true, Bool.xor_false, Nat.reduceAdd, Nat.reduceBEq, Nat.reduceLeDiff, Nat.reduceLT, Nat.reduceMul, Nat.reduceSub, Int.reduceEq, Int.reduceLT, Int.reduceLE, Int.reduceNeg, fr_get0, fr_getk, fr_set0, fr_setk, fr_take0, fr_takek, fr_drop0, fr_dropk, fr_le, fr_le0, fr_lt, fr_lt0, fr_lt1, fr_min, fr_mink, fr_beq, fr_beq0, fr_beq1, fr_maxle, fr_refl, fr_z, fr_s, List.append_assoc, List.length_append, Nat.add_assoc, hm, hm2, h43, h44]
  refine G.onSome_of _ (s48 (n + 13) _ _ bl ro' _ (fun _ => .box [.int .i64 k]) (fun v => .box [.int .i64 v]) (fun v _ x => w64 (v + sig s x k)) s L f b i a k hL ha hb hro (fun _ _ => True) (fun _ _ h => h) (fun _ _ _ h => h) ?_ (ext s a k) trivial) ?_
  · intro v j x X _ _ hx
    have h42 := fun l es ro => s28 n ⟨bl ++ l, es, ro⟩ s L f b x k (by simp; omega)
    refine yld_in (by simp only [hget]; exact fr_getk bl _ 6) rfl ?_
    simp only [go_sem, Int.cast_ofNat_Int, Int.reduceToNat, Bool.true_xor, Bool.false_xor, Bool.xor_true, Bool.xor_false, Nat.reduceAdd, Nat.reduceBEq, Nat.reduceLeDiff, Nat.reduceLT, Nat.reduceMul, Nat.reduceSub, Int.reduceEq, Int.reduceLT, Int.reduceLE, Int.reduceNeg, fr_get0, fr_getk, fr_set0, fr_setk, fr_take0, fr_takek, fr_drop0, fr_dropk, fr_le, fr_le0, fr_lt, fr_lt0, fr_lt1, fr_min, fr_mink, fr_beq, fr_beq0, fr_beq1, fr_maxle, fr_refl, fr_z, fr_s, List.append_assoc, List.length_append, Nat.add_assoc, hm, hm2, hm3, h42]
  · simp only [go_sem, Int.cast_ofNat_Int, Int.reduceToNat, Bool.true_xor, Bool.false_xor, Bool.xor_true, Bool.xor_false, Nat.reduceAdd, Nat.reduceBEq, Nat.reduceLeDiff, Nat.reduceLT, Nat.reduceMul, Nat.reduceSub, Int.reduceEq, Int.reduceLT, Int.reduceLE, Int.reduceNeg, fr_get0, fr_getk, fr_set0, fr_setk, fr_take0, fr_takek, fr_drop0, fr_dropk, fr_le, fr_le0, fr_lt, fr_lt0, fr_lt1, fr_min, fr_mink, fr_beq, fr_beq0, fr_beq1, fr_maxle, fr_refl, fr_z, fr_s, List.append_assoc, List.length_append, Nat.add_assoc, hm, hm2, hm3]
    exact hk _
def recB (s : Sn) (L : List Em) (i : Nat) (a : Em) (k : Int) : Bool := freeB L a k && hearB s (sig s a k) (inter s L i a k)
theorem s22 (n : Nat) (H : Heap) (s : Sn) (L : List Em) (f : Bool) (b i : Nat) (a : Em) (k : Int) (hL : L.length ≤ maxLen) (ha : L[i]? = some a) (hb : H.bl[b]? = some (.box (stC s))) :
    call1 T (n + 17) (.fn 22) [.agg (snC s L f b), .int .i64 i, .int .i64 k] H = some (.bool (recB s L i a k), H) := by
  have hbl' := (List.getElem?_eq_some_iff.1 hb).1
  refine call_rox e22 rfl rfl (fun R kk bl ro r hbl hk => ?_)
  obtain rfl : bl = H.bl := by
    rcases hbl with ⟨_, h2⟩ | h
    · simp [SV.refs.refsL, SV.refs] at h2
    · exact h
  generalize H.bl = bl at *
  clear hbl
  have hro : min ro bl.length ≤ bl.length := Nat.min_le_right _ _
  generalize min ro bl.length = ro' at *
  have hi : i < L.length := (List.getElem?_eq_some_iff.1 ha).1
  have h41 := fun l es ro => s27 (n + 14) ⟨bl ++ l, es, ro⟩ s L f b i a k hL ha (by simp; omega)
  have h42 := fun l es ro => s28 (n + 3) ⟨bl ++ l, es, ro⟩ s L f b a k (by simp; omega)
  have h48 := fun l es ro => s37 n ⟨bl ++ l, es, ro⟩ s L f b i a k hL ha (by simp; omega)
  have h69 := fun p q l es ro => s40 (n + 13) ⟨bl ++ l, es, ro⟩ s b p q (fr_b hb)
  cases k1 : freeB L a k with
  | false =>
    rw [recB, k1, Bool.false_and] at hk
    simp only [c22, go_sem, Int.cast_ofNat_Int, Int.reduceToNat, Bool.true_xor, Bool.false_xor, Bool.xor_true, Bool.xor_false, Nat.reduceAdd, Nat.reduceBEq, Nat.reduceLeDiff, Nat.reduceLT, Nat.reduceMul, Nat.reduceSub, Int.reduceEq, Int.reduceLT, Int.reduceLE, Int.reduceNeg, fr_get0, fr_getk, fr_set0, fr_setk, fr_take0, fr_takek, fr_drop0, fr_dropk, fr_le, fr_le0, fr_lt, fr_lt0, fr_lt1, fr_min, fr_mink, fr_beq, fr_beq0, fr_beq1, fr_maxle, fr_refl, fr_z, fr_s, List.append_assoc, List.length_append, Nat.add_assoc, h41, k1]
    exact hk _
  | true =>
    rw [recB, k1, Bool.true_and] at hk
    simp only [c22, go_sem, Int.cast_ofNat_Int, Int.reduceToNat, Bool.true_xor, Bool.false_xor, Bool.xor_true, Bool.xor_false, Nat.reduceAdd, Nat.reduceBEq, Nat.reduceLeDiff, Nat.reduceLT, Nat.reduceMul, Nat.reduceSub, Int.reduceEq, Int.reduceLT, Int.reduceLE, Int.reduceNeg, fr_get0, fr_getk, fr_set0, fr_setk, fr_take0, fr_takek, fr_drop0, fr_dropk, fr_le, fr_le0, fr_lt, fr_lt0, fr_lt1, fr_min, fr_mink, fr_beq, fr_beq0, fr_beq1, fr_maxle, fr_refl, fr_z, fr_s, List.append_assoc, List.length_append, Nat.add_assoc, h41, k1, hi, ha, h42, h48, h69]
    exact hk _
theorem s21k (n : Nat) (bl : List SBlk) (es : List (Nat × Nat)) (ro : Nat) (s : Sn) (L : List Em) (f : Bool) (hL : L.length ≤ maxLen) (hro : ro ≤ bl.length) : call1 T (n + 9) (.kfn 21) [.agg (stC s), .agg (spC s), .lst 4 (emsS L) f] ⟨bl, es, ro⟩ =
    some (.tup [.agg (snC s L f bl.length), .int .i64 (acE (okSn s) s.N.length L)], ⟨bl ++ [.box (stC s), .box (spC s), .box (snC s L f bl.length)], es, ro⟩) := by
  refine kcall_in e21 ?_
  have hm0 : min ro bl.length = ro := Nat.min_eq_left hro
  have hm : ∀ k, min ro (bl.length + k) = ro := fun k => Nat.min_eq_left (by omega)
  have hm2 : ∀ k, decide (ro ≤ bl.length + k) = true := fun k => decide_eq_true (by omega)
  have h11 := fun H => s42 n H s.N s.P s.W s.g1 s.g2 s.g3 s.ex s.no s.th 7 s.S s.f1 6 s.F s.f2 L f s.hN s.hP s.hW (.inl rfl) (.inl rfl) s.hS s.hF hL
  simp only [c21, go_sem, Int.cast_ofNat_Int, Int.reduceToNat, Bool.true_xor, Bool.false_xor, Bool.xor_true, Bool.xor_false, Nat.reduceAdd, Nat.reduceBEq, Nat.reduceLeDiff, Nat.reduceLT, Nat.reduceMul, Nat.reduceSub, Int.reduceEq, Int.reduceLT, Int.reduceLE, Int.reduceNeg, fr_get0, fr_getk, fr_set0, fr_setk, fr_take0, fr_takek, fr_drop0, fr_dropk, fr_le, fr_le0, fr_lt, fr_lt0, fr_lt1, fr_min, fr_mink, fr_beq, fr_beq0, fr_beq1, fr_maxle, fr_refl, fr_z, fr_s, List.append_assoc, List.length_append, Nat.add_assoc, hm0, hm, hm2, h11]
  rfl
def ckE (s : Sn) (L : List Em) (i k : Int) : Int := bif decide (acE (okSn s) s.N.length L = 0) then (bif decide (i < 0) || decide ((L.length : Int) ≤ i) || decide (k < 0) || decide ((s.N.length : Int) ≤ k) then 7 else 0) else acE (okSn s) s.N.length L
theorem s26k (n : Nat) (bl : List SBlk) (es : List (Nat × Nat)) (ro : Nat) (s : Sn) (L : List Em) (f : Bool) (i k : Int) (hL : L.length ≤ maxLen) (hro : ro ≤ bl.length) : call1 T (n + 10) (.kfn 26) [.agg (stC s), .agg (spC s), .lst 4 (emsS L) f, .int .i64 i, .int .i64 k] ⟨bl, es, ro⟩ =
    some (.tup [.agg (snC s L f (bl.length + 3)), .int .i64 (ckE s L i k)], ⟨bl ++ [.box (stC s), .box (spC s), .box (snC s L f (bl.length + 3)), .box (stC s), .box (spC s), .box (snC s L f (bl.length + 3)), .box (snC s L f (bl.length + 3))], es ++ [(bl.length + 2, bl.length + 4)], ro⟩) := by
  refine kcall_in e26 ?_
  have hm0 : min ro bl.length = ro := Nat.min_eq_left hro
  have hm : ∀ k, min ro (bl.length + k) = ro := fun k => Nat.min_eq_left (by omega)
  have hm2 : ∀ k, decide (ro ≤ bl.length + k) = true := fun k => decide_eq_true (by omega)
  have h38 := fun l es => s21k n (bl ++ l) es ro s L f hL (by simp; omega)
  unfold ckE
  cases k0 : decide (acE (okSn s) s.N.length L = 0) with
  | false =>
    simp only [c26, go_sem, Int.cast_ofNat_Int, Int.reduceToNat, Bool.true_xor, Bool.false_xor, Bool.xor_true, Bool.xor_false, Nat.reduceAdd, Nat.reduceBEq, Nat.reduceLeDiff, Nat.reduceLT, Nat.reduceMul, Nat.reduceSub, Int.reduceEq, Int.reduceLT, Int.reduceLE, Int.reduceNeg, fr_get0, fr_getk, fr_set0, fr_setk, fr_take0, fr_takek, fr_drop0, fr_dropk, fr_le, fr_le0, fr_lt, fr_lt0, fr_lt1, fr_min, fr_mink, fr_beq, fr_beq0, fr_beq1, fr_maxle, fr_refl, fr_z, fr_s, List.append_assoc, List.length_append, Nat.add_assoc, hm0, hm, hm2, h38, k0, Nat.zero_max, Nat.max_zero]
  | true =>
    have k0' := of_decide_eq_true k0
    cases k1 : decide (i < 0) with
    | true => simp only [c26, go_sem, Int.cast_ofNat_Int, Int.reduceToNat, Bool.true_xor, Bool.false_xor, Bool.xor_true, Bool.xor_false, Nat.reduceAdd, Nat.reduceBEq, Nat.reduceLeDiff, Nat.reduceLT, Nat.reduceMul, Nat.reduceSub, Int.reduceEq, Int.reduceLT, Int.reduceLE, Int.reduceNeg, fr_get0, fr_getk, fr_set0, fr_setk, fr_take0, fr_takek, fr_drop0, fr_dropk, fr_le, fr_le0, fr_lt, fr_lt0, fr_lt1, fr_min, fr_mink, fr_beq, fr_beq0, fr_beq1, fr_maxle, fr_refl, fr_z, fr_s, List.append_assoc, List.length_append, Nat.add_assoc, hm0, hm, hm2, h38, k0, k0', k1, Nat.zero_max, Nat.max_zero]
    | false =>
      cases k2 : decide ((L.length : Int) ≤ i) with
      | true => simp only [c26, go_sem, Int.cast_ofNat_Int, Int.reduceToNat, Bool.true_xor, Bool.false_xor, Bool.xor_true, Bool.xor_false, Nat.reduceAdd, Nat.reduceBEq, Nat.reduceLeDiff, Nat.reduceLT, Nat.reduceMul, Nat.reduceSub, Int.reduceEq, Int.reduceLT, Int.reduceLE, Int.reduceNeg, fr_get0, fr_getk, fr_set0, fr_setk, fr_take0, fr_takek, fr_drop0, fr_dropk, fr_le, fr_le0, fr_lt, fr_lt0, fr_lt1, fr_min, fr_mink, fr_beq, fr_beq0, fr_beq1, fr_maxle, fr_refl, fr_z, fr_s, List.append_assoc, List.length_append, Nat.add_assoc, hm0, hm, hm2, h38, k0, k0', k1, k2, Nat.zero_max, Nat.max_zero]
      | false =>
        cases k3 : decide (k < 0) with
        | true => simp only [c26, go_sem, Int.cast_ofNat_Int, Int.reduceToNat, Bool.true_xor, Bool.false_xor, Bool.xor_true, Bool.xor_false, Nat.reduceAdd, Nat.reduceBEq, Nat.reduceLeDiff, Nat.reduceLT, Nat.reduceMul, Nat.reduceSub, Int.reduceEq, Int.reduceLT, Int.reduceLE, Int.reduceNeg, fr_get0, fr_getk, fr_set0, fr_setk, fr_take0, fr_takek, fr_drop0, fr_dropk, fr_le, fr_le0, fr_lt, fr_lt0, fr_lt1, fr_min, fr_mink, fr_beq, fr_beq0, fr_beq1, fr_maxle, fr_refl, fr_z, fr_s, List.append_assoc, List.length_append, Nat.add_assoc, hm0, hm, hm2, h38, k0, k0', k1, k2, k3, Nat.zero_max, Nat.max_zero]
        | false =>
          cases k4 : decide ((s.N.length : Int) ≤ k) with
          | true => simp only [c26, go_sem, Int.cast_ofNat_Int, Int.reduceToNat, Bool.true_xor, Bool.false_xor, Bool.xor_true, Bool.xor_false, Nat.reduceAdd, Nat.reduceBEq, Nat.reduceLeDiff, Nat.reduceLT, Nat.reduceMul, Nat.reduceSub, Int.reduceEq, Int.reduceLT, Int.reduceLE, Int.reduceNeg, fr_get0, fr_getk, fr_set0, fr_setk, fr_take0, fr_takek, fr_drop0, fr_dropk, fr_le, fr_le0, fr_lt, fr_lt0, fr_lt1, fr_min, fr_mink, fr_beq, fr_beq0, fr_beq1, fr_maxle, fr_refl, fr_z, fr_s, List.append_assoc, List.length_append, Nat.add_assoc, hm0, hm, hm2, h38, k0, k0', k1, k2, k3, G.ptsS_len', k4, Nat.zero_max, Nat.max_zero]
          | false => simp only [c26, go_sem, Int.cast_ofNat_Int, Int.reduceToNat, Bool.true_xor, Bool.false_xor, Bool.xor_true, Bool.xor_false, Nat.reduceAdd, Nat.reduceBEq, Nat.reduceLeDiff, Nat.reduceLT, Nat.reduceMul, Nat.reduceSub, Int.reduceEq, Int.reduceLT, Int.reduceLE, Int.reduceNeg, fr_get0, fr_getk, fr_set0, fr_setk, fr_take0, fr_takek, fr_drop0, fr_dropk, fr_le, fr_le0, fr_lt, fr_lt0, fr_lt1, fr_min, fr_mink, fr_beq, fr_beq0, fr_beq1, fr_maxle, fr_refl, fr_z, fr_s, List.append_assoc, List.length_append, Nat.add_assoc, hm0, hm, hm2, h38, k0, k0', k1, k2, k3, G.ptsS_len', k4, Nat.zero_max, Nat.max_zero]
theorem ck_yes {s : Sn} {L : List Em} {i k : Int} (h : ckE s L i k = 0) : acE (okSn s) s.N.length L = 0 ∧ (0 ≤ i ∧ i < L.length) ∧ 0 ≤ k ∧ k < s.N.length := by
  unfold ckE at h
  cases h0 : decide (acE (okSn s) s.N.length L = 0) with
  | false => rw [h0, cond_false] at h; exact absurd h (of_decide_eq_false h0)
  | true =>
    rw [h0, cond_true] at h
    cases h1 : decide (i < 0) || decide ((L.length : Int) ≤ i) || decide (k < 0) || decide ((s.N.length : Int) ≤ k) with
    | true => rw [h1] at h; cases h
    | false =>
      simp only [Bool.or_eq_false_iff, decide_eq_false_iff_not] at h1
      exact ⟨of_decide_eq_true h0, by omega, by omega⟩
def rcV (s : Sn) (L : List Em) (i k : Int) : SV := bif decide (ckE s L i k = 0) then .tup [.bool (match L[i.toNat]? with | some a => recB s L i.toNat a k | none => false), .int .i64 0] else .tup [.bool false, .int .i64 (ckE s L i k)]
theorem s15 (n : Nat) (H : Heap) (s : Sn) (L : List Em) (f : Bool) (i k : Int) (hL : L.length ≤ maxLen) : call1 T (n + 18) (.fn 15) [.agg (stC s), .agg (spC s), .lst 4 (emsS L) f, .int .i64 i, .int .i64 k] H = some (rcV s L i k, H) := by
  refine call_pure e15 (by rfl) ?_
  have h40 := fun x y es => s26k (n + 7) [x, y] es 0 s L f i k hL (by simp)
  unfold rcV
  cases h0 : decide (ckE s L i k = 0) with
  | false => simp only [c15, heap0, go_sem, Int.cast_ofNat_Int, Int.reduceToNat, Bool.true_xor, Bool.false_xor, Bool.xor_true, Bool.xor_false, Nat.reduceAdd, Nat.reduceBEq, Nat.reduceLeDiff, Nat.reduceLT, Nat.reduceMul, Nat.reduceSub, Int.reduceEq, Int.reduceLT, Int.reduceLE, Int.reduceNeg, h40, h0]
  | true =>
    have h0' := of_decide_eq_true h0
    obtain ⟨_, ⟨hi0, hi1⟩, hk0, hk1⟩ := ck_yes h0'
    obtain ⟨q, rfl⟩ : ∃ q : Nat, i = q := ⟨i.toNat, by omega⟩
    obtain ⟨a, ha⟩ := getS (l := L) (i := q) (by omega)
    have h39 := fun x0 x1 x2 x3 x4 x6 x7 x8 x9 es ro => s22 n ⟨[x0, x1, x2, x3, x4, .box (stC s), x6, x7, x8, x9], es, ro⟩ s L f 5 q a k hL ha rfl
    simp only [c15, heap0, go_sem, Int.cast_ofNat_Int, Int.reduceToNat, Bool.true_xor, Bool.false_xor, Bool.xor_true, Bool.xor_false, Nat.reduceAdd, Nat.reduceBEq, Nat.reduceLeDiff, Nat.reduceLT, Nat.reduceMul, Nat.reduceSub, Int.reduceEq, Int.reduceLT, Int.reduceLE, Int.reduceNeg, h40, h0, h0', h39, ha]
end Go.Sh
namespace Go.Sh
set_option linter.unusedSectionVars false
set_option linter.unnecessarySimpa false
set_option linter.unusedVariables false
set_option linter.unusedSimpArgs false
set_option maxRecDepth 100000
set_option maxHeartbeats 4000000
theorem sn_ok {s : Sn} {L : List Em} (h : acE (okSn s) s.N.length L = 0) : okSn s = true ∧ L.length ≤ 48 ∧ chE s.N.length L = 0 := by
  unfold acE at h
  cases h1 : okSn s with
  | false => rw [h1] at h; cases h
  | true =>
    rw [h1, cond_true] at h
    cases h2 : decide (48 < L.length) with
    | true => rw [h2] at h; cases h
    | false => rw [h2, cond_false] at h; exact ⟨rfl, by have := of_decide_eq_false h2; omega, h⟩
theorem sn_N {s : Sn} (h : okSn s = true) : s.N.length ≤ 32 := by
  simp only [okSn, G.okI, G.okB, Bool.and_eq_true, decide_eq_true_eq] at h
  omega
def rcs (s : Sn) (L : List Em) (i : Nat) (a : Em) : List Nat := upto (fun k => recB s L i a k) s.N.length
def rsV (s : Sn) (L : List Em) (i : Int) : SV := bif decide (ckE s L i 0 = 0) then .tup [.lst 1 (bS (match L[i.toNat]? with | some a => rcs s L i.toNat a | none => [])) false, .int .i64 0] else .tup [.lst 0 [] true, .int .i64 (ckE s L i 0)]
theorem s17 (n : Nat) (H : Heap) (s : Sn) (L : List Em) (f : Bool) (i : Int) (hL : L.length ≤ maxLen) : call1 T (n + 18) (.fn 17) [.agg (stC s), .agg (spC s), .lst 4 (emsS L) f, .int .i64 i] H = some (rsV s L i, H) := by
  refine call_pure e17 (by rfl) ?_
  have h40 := fun x y es => s26k (n + 7) [x, y] es 0 s L f i 0 hL (by simp)
  unfold rsV
  cases h0 : decide (ckE s L i 0 = 0) with
  | false => simp only [c17, heap0, go_sem, Int.cast_ofNat_Int, Int.reduceToNat, Bool.true_xor, Bool.false_xor, Bool.xor_true, Bool.xor_false, Nat.reduceAdd, Nat.reduceBEq, Nat.reduceLeDiff, Nat.reduceLT, Nat.reduceMul, Nat.reduceSub, Int.reduceEq, Int.reduceLT, Int.reduceLE, Int.reduceNeg, h40, h0]
  | true =>
    have h0' := of_decide_eq_true h0
    obtain ⟨hac, ⟨hi0, hi1⟩, hk0, hk1⟩ := ck_yes h0'
    obtain ⟨hok, _, _⟩ := sn_ok hac
    have hN32 := sn_N hok
    obtain ⟨q, rfl⟩ : ∃ q : Nat, i = q := ⟨i.toNat, by omega⟩
    obtain ⟨a, ha⟩ := getS (l := L) (i := q) (by omega)
    have h39 := fun k x0 x1 x2 x3 x4 x6 x7 x8 x9 x10 es ro => s22 n ⟨[x0, x1, x2, x3, x4, .box (stC s), x6, x7, x8, x9, x10], es, ro⟩ s L f 5 q a k hL ha rfl
    simp only [c17, heap0, go_sem, Int.cast_ofNat_Int, Int.reduceToNat, Bool.true_xor, Bool.false_xor, Bool.xor_true, Bool.xor_false, Nat.reduceAdd, Nat.reduceBEq, Nat.reduceLeDiff, Nat.reduceLT, Nat.reduceMul, Nat.reduceSub, Int.reduceEq, Int.reduceLT, Int.reduceLE, Int.reduceNeg, h40, h0, h0', ha, Int.toNat_natCast]
    refine loop_rule (fun k => ([(3, .int .i64 q), (10, .ptr 9 0 0 0), (12, .slc 10 (upto (fun k => recB s L q a k) k).length 0 (upto (fun k => recB s L q a k) k).length), (27, .int .i64 s.N.length), (28, .int .i64 k)],
      ⟨[.box (stC s), .box (spC s), .box (stC s), .box (spC s), .box (snC s L f 5), .box (stC s), .box (spC s), .box (snC s L f 5), .box (snC s L f 5), .box (snC s L f 5), .arr (upto (fun k => recB s L q a k) k).length 1 (bS (upto (fun k => recB s L q a k) k)) false], [], 0⟩)) (fun _ => True) s.N.length ?_ trivial ?_
    · simp only [go_sem, Int.cast_ofNat_Int, Int.reduceToNat, Bool.true_xor, Bool.false_xor, Bool.xor_true, Bool.xor_false, Nat.reduceAdd, Nat.reduceBEq, Nat.reduceLeDiff, Nat.reduceLT, Nat.reduceMul, Nat.reduceSub, Int.reduceEq, Int.reduceLT, Int.reduceLE, Int.reduceNeg, G.ptsS_len']
      rfl
    · intro k hk _
      rcases Nat.lt_or_ge k s.N.length with hlt | hge
      · have hw := w64_suc hlt s.hN
        have rb := room_le (n := (upto (fun k => recB s L q a k) k).length) (Nat.le_trans (upto_len _ _) (by omega)) 8 (by omega)
        have gb := fun H => apB_grow 1 H 10 (upto (fun k => recB s L q a k) k).length (upto (fun k => recB s L q a k) k).length [[.int .i64 (k : Int)]] (bS (upto (fun k => recB s L q a k) k)) (bS_len _)
        have h39 := h39 k
        cases hr : recB s L q a k with
        | false =>
          have e1 := upto_no (p := fun k : Nat => recB s L q a k) (i := k) hr
          rw [hr] at h39
          simp only [go_sem, Int.cast_ofNat_Int, Int.reduceToNat, Bool.true_xor, Bool.false_xor, Bool.xor_true, Bool.xor_false, Nat.reduceAdd, Nat.reduceBEq, Nat.reduceLeDiff, Nat.reduceLT, Nat.reduceMul, Nat.reduceSub, Int.reduceEq, Int.reduceLT, Int.reduceLE, Int.reduceNeg, hlt, h39, hw, e1]
          exact ⟨by first | trivial | omega, by first | trivial | rfl, trivial⟩
        | true =>
          have e1 := upto_yes (p := fun k : Nat => recB s L q a k) (i := k) hr
          rw [hr] at h39
          simp only [go_sem, Int.cast_ofNat_Int, Int.reduceToNat, Bool.true_xor, Bool.false_xor, Bool.xor_true, Bool.xor_false, Nat.reduceAdd, Nat.reduceBEq, Nat.reduceLeDiff, Nat.reduceLT, Nat.reduceMul, Nat.reduceSub, Int.reduceEq, Int.reduceLT, Int.reduceLE, Int.reduceNeg, hlt, h39, rb, gb, bS_snoc, hw, e1, List.length_append]
          exact ⟨by first | trivial | omega, by first | trivial | rfl, trivial⟩
      · obtain rfl : k = s.N.length := by omega
        simp only [go_sem, Int.cast_ofNat_Int, Int.reduceToNat, Bool.true_xor, Bool.false_xor, Bool.xor_true, Bool.xor_false, Nat.reduceAdd, Nat.reduceBEq, Nat.reduceLeDiff, Nat.reduceLT, Nat.reduceMul, Nat.reduceSub, Int.reduceEq, Int.reduceLT, Int.reduceLE, Int.reduceNeg, show decide ((s.N.length : Int) < (s.N.length : Int)) = false from decide_eq_false (by omega)]
        rfl
end Go.Sh
namespace Go.Sh
set_option linter.unusedSectionVars false
set_option linter.unnecessarySimpa false
set_option linter.unusedVariables false
set_option linter.unusedSimpArgs false
set_option maxRecDepth 100000
set_option maxHeartbeats 4000000
/-- Whether an emission can be the one that is heard, the best one so far given. -/
def heC (L : List Em) (y : Em) (o : Option Nat) (x : Em) : Bool := decide (x.c = y.c) && !decide (x.x < y.x) && !decide (y.y < x.x) && !(match o with | some b => (match L[b]? with | some z => decide (z.x ≤ x.x) | none => false) | none => false)
def heF (s : Sn) (L : List Em) (y : Em) : Nat → Option Nat
  | 0 => none
  | q + 1 => match L[q]? with
    | some x => bif heC L y (heF s L y q) x && recB s L q x y.n then some q else heF s L y q
    | none => heF s L y q
def obI : Option Nat → Int
  | some b => b
  | none => 0
theorem heF_lt (s : Sn) (L : List Em) (y : Em) : ∀ q b, heF s L y q = some b → b < q ∧ b < L.length
  | 0, b, h => by cases h
  | q + 1, b, h => by
    have ih := heF_lt s L y q
    simp only [heF] at h
    cases hx : L[q]? with
    | none => rw [hx] at h; have := ih b h; omega
    | some x =>
      rw [hx] at h
      cases hc : heC L y (heF s L y q) x && recB s L q x y.n with
      | true =>
        simp only [hc, cond_true, Option.some.injEq] at h
        have := (List.getElem?_eq_some_iff.1 hx).1
        omega
      | false => simp only [hc, cond_false] at h; have := ih b h; omega
def liB (y : Em) : Bool := decide (y.c < 0) || decide (16 ≤ y.c) || decide (y.x < 0) || decide (y.y < y.x) || decide (1099511627776 < y.y)
def hrV (s : Sn) (L : List Em) (y : Em) : SV := bif decide (acE (okSn s) s.N.length L = 0) then (bif decide (y.n < 0) || decide ((s.N.length : Int) ≤ y.n) then .tup [.int .i64 0, .bool false, .int .i64 7] else
  bif liB y then .tup [.int .i64 0, .bool false, .int .i64 2] else .tup [.int .i64 (obI (heF s L y L.length)), .bool (heF s L y L.length).isSome, .int .i64 0]) else .tup [.int .i64 0, .bool false, .int .i64 (acE (okSn s) s.N.length L)]
@[go_sem] theorem res_three (e H r s t) : results1 e H [r, s, t] = (resOf e H r).bind fun a => (resOf e H s).bind fun b => (resOf e H t).map fun c => .tup [a, b, c] := by
  unfold results1
  cases h : resOf e H r <;> cases h' : resOf e H s <;> cases h'' : resOf e H t <;> simp [allS, h, h', h'']
theorem s7 (n : Nat) (H : Heap) (s : Sn) (L : List Em) (f : Bool) (y : Em) (hL : L.length ≤ maxLen) : call1 T (n + 18) (.fn 7) [.agg (stC s), .agg (spC s), .lst 4 (emsS L) f, .agg (emC y)] H = some (hrV s L y, H) := by
  refine call_pure e7 (by rfl) ?_
  have h38 := fun x y z es => s21k (n + 8) [x, y, z] es 0 s L f hL (by simp)
  unfold hrV
  cases h0 : decide (acE (okSn s) s.N.length L = 0) with
  | false => simp only [c7, heap0, go_sem, Int.cast_ofNat_Int, Int.reduceToNat, Bool.true_xor, Bool.false_xor, Bool.xor_true, Bool.xor_false, Nat.reduceAdd, Nat.reduceBEq, Nat.reduceLeDiff, Nat.reduceLT, Nat.reduceMul, Nat.reduceSub, Int.reduceEq, Int.reduceLT, Int.reduceLE, Int.reduceNeg, h38, h0]
  | true =>
    have h0' := of_decide_eq_true h0
    cases k1 : decide (y.n < 0) with
    | true => simp only [c7, heap0, go_sem, Int.cast_ofNat_Int, Int.reduceToNat, Bool.true_xor, Bool.false_xor, Bool.xor_true, Bool.xor_false, Nat.reduceAdd, Nat.reduceBEq, Nat.reduceLeDiff, Nat.reduceLT, Nat.reduceMul, Nat.reduceSub, Int.reduceEq, Int.reduceLT, Int.reduceLE, Int.reduceNeg, h38, h0, k1]
    | false =>
    cases k2 : decide ((s.N.length : Int) ≤ y.n) with
    | true => simp only [c7, heap0, go_sem, Int.cast_ofNat_Int, Int.reduceToNat, Bool.true_xor, Bool.false_xor, Bool.xor_true, Bool.xor_false, Nat.reduceAdd, Nat.reduceBEq, Nat.reduceLeDiff, Nat.reduceLT, Nat.reduceMul, Nat.reduceSub, Int.reduceEq, Int.reduceLT, Int.reduceLE, Int.reduceNeg, h38, h0, k1, G.ptsS_len', k2]
    | false =>
    unfold liB
    cases k3 : decide (y.c < 0) with
    | true => simp only [c7, heap0, go_sem, Int.cast_ofNat_Int, Int.reduceToNat, Bool.true_xor, Bool.false_xor, Bool.xor_true, Bool.xor_false, Nat.reduceAdd, Nat.reduceBEq, Nat.reduceLeDiff, Nat.reduceLT, Nat.reduceMul, Nat.reduceSub, Int.reduceEq, Int.reduceLT, Int.reduceLE, Int.reduceNeg, h38, h0, k1, G.ptsS_len', k2, k3]
    | false =>
    cases k4 : decide (16 ≤ y.c) with
    | true => simp only [c7, heap0, go_sem, Int.cast_ofNat_Int, Int.reduceToNat, Bool.true_xor, Bool.false_xor, Bool.xor_true, Bool.xor_false, Nat.reduceAdd, Nat.reduceBEq, Nat.reduceLeDiff, Nat.reduceLT, Nat.reduceMul, Nat.reduceSub, Int.reduceEq, Int.reduceLT, Int.reduceLE, Int.reduceNeg, h38, h0, k1, G.ptsS_len', k2, k3, k4]
    | false =>
    cases k5 : decide (y.x < 0) with
    | true => simp only [c7, heap0, go_sem, Int.cast_ofNat_Int, Int.reduceToNat, Bool.true_xor, Bool.false_xor, Bool.xor_true, Bool.xor_false, Nat.reduceAdd, Nat.reduceBEq, Nat.reduceLeDiff, Nat.reduceLT, Nat.reduceMul, Nat.reduceSub, Int.reduceEq, Int.reduceLT, Int.reduceLE, Int.reduceNeg, h38, h0, k1, G.ptsS_len', k2, k3, k4, k5]
    | false =>
    cases k6 : decide (y.y < y.x) with
    | true => simp only [c7, heap0, go_sem, Int.cast_ofNat_Int, Int.reduceToNat, Bool.true_xor, Bool.false_xor, Bool.xor_true, Bool.xor_false, Nat.reduceAdd, Nat.reduceBEq, Nat.reduceLeDiff, Nat.reduceLT, Nat.reduceMul, Nat.reduceSub, Int.reduceEq, Int.reduceLT, Int.reduceLE, Int.reduceNeg, h38, h0, k1, G.ptsS_len', k2, k3, k4, k5, k6]
    | false =>
    cases k7 : decide (1099511627776 < y.y) with
    | true => simp only [c7, heap0, go_sem, Int.cast_ofNat_Int, Int.reduceToNat, Bool.true_xor, Bool.false_xor, Bool.xor_true, Bool.xor_false, Nat.reduceAdd, Nat.reduceBEq, Nat.reduceLeDiff, Nat.reduceLT, Nat.reduceMul, Nat.reduceSub, Int.reduceEq, Int.reduceLT, Int.reduceLE, Int.reduceNeg, h38, h0, k1, G.ptsS_len', k2, k3, k4, k5, k6, k7]
    | false =>
      simp only [c7, heap0, go_sem, Int.cast_ofNat_Int, Int.reduceToNat, Bool.true_xor, Bool.false_xor, Bool.xor_true, Bool.xor_false, Nat.reduceAdd, Nat.reduceBEq, Nat.reduceLeDiff, Nat.reduceLT, Nat.reduceMul, Nat.reduceSub, Int.reduceEq, Int.reduceLT, Int.reduceLE, Int.reduceNeg, h38, h0, h0', k1, G.ptsS_len', k2, k3, k4, k5, k6, k7]
      refine loop_rule (fun q => ([(2, .lst 4 (emsS L) f), (7, .ptr 2 0 0 0), (11, .ptr 6 0 0 0), (13, .int .i64 (obI (heF s L y q))), (14, .bool (heF s L y q).isSome), (66, .lst 4 (emsS L) f), (67, .int .i64 L.length), (68, .int .i64 q)],
        ⟨[.box (stC s), .box (spC s), .box (emC y), .box (stC s), .box (spC s), .box (snC s L f 3), .box (snC s L f 3)], [], 0⟩)) (fun _ => True) L.length (by simp only [go_sem, Int.cast_ofNat_Int, Int.reduceToNat, Bool.true_xor, Bool.false_xor, Bool.xor_true, Bool.xor_false, Nat.reduceAdd, Nat.reduceBEq, Nat.reduceLeDiff, Nat.reduceLT, Nat.reduceMul, Nat.reduceSub, Int.reduceEq, Int.reduceLT, Int.reduceLE, Int.reduceNeg]; rfl) trivial ?_
      intro q hq _
      rcases Nat.lt_or_ge q L.length with hlt | hge
      · obtain ⟨x, hx⟩ := getS hlt
        have hw := w64_suc hlt hL
        have h39 := fun x0 x1 x2 x4 x5 x6 x7 es ro => s22 n ⟨[x0, x1, x2, .box (stC s), x4, x5, x6, x7], es, ro⟩ s L f 3 q x y.n hL hx rfl
        have no : (heC L y (heF s L y q) x && recB s L q x y.n) = false → heF s L y (q + 1) = heF s L y q := fun h => by simp only [heF, hx, h, cond_false]
        cases j1 : decide (x.c = y.c) with
        | false =>
          have e1 := no (by simp only [heC, j1]; rfl)
          simp only [go_sem, Int.cast_ofNat_Int, Int.reduceToNat, Bool.true_xor, Bool.false_xor, Bool.xor_true, Bool.xor_false, Nat.reduceAdd, Nat.reduceBEq, Nat.reduceLeDiff, Nat.reduceLT, Nat.reduceMul, Nat.reduceSub, Int.reduceEq, Int.reduceLT, Int.reduceLE, Int.reduceNeg, hlt, hx, j1, hw, e1]
          exact ⟨trivial, by first | trivial | rfl, trivial⟩
        | true =>
        cases j2 : decide (x.x < y.x) with
        | true =>
          have e1 := no (by simp only [heC, j1, j2]; rfl)
          simp only [go_sem, Int.cast_ofNat_Int, Int.reduceToNat, Bool.true_xor, Bool.false_xor, Bool.xor_true, Bool.xor_false, Nat.reduceAdd, Nat.reduceBEq, Nat.reduceLeDiff, Nat.reduceLT, Nat.reduceMul, Nat.reduceSub, Int.reduceEq, Int.reduceLT, Int.reduceLE, Int.reduceNeg, hlt, hx, j1, j2, hw, e1]
          exact ⟨trivial, by first | trivial | rfl, trivial⟩
        | false =>
        cases j3 : decide (y.y < x.x) with
        | true =>
          have e1 := no (by simp only [heC, j1, j2, j3]; rfl)
          simp only [go_sem, Int.cast_ofNat_Int, Int.reduceToNat, Bool.true_xor, Bool.false_xor, Bool.xor_true, Bool.xor_false, Nat.reduceAdd, Nat.reduceBEq, Nat.reduceLeDiff, Nat.reduceLT, Nat.reduceMul, Nat.reduceSub, Int.reduceEq, Int.reduceLT, Int.reduceLE, Int.reduceNeg, hlt, hx, j1, j2, j3, hw, e1]
          exact ⟨trivial, by first | trivial | rfl, trivial⟩
        | false =>
        have hcase : heC L y (heF s L y q) x = !(match heF s L y q with | some b => (match L[b]? with | some z => decide (z.x ≤ x.x) | none => false) | none => false) := by simp only [heC, j1, j2, j3]; rfl
        cases ho : heF s L y q with
        | none =>
          rw [ho] at hcase no
          cases hr : recB s L q x y.n with
          | false =>
            have e1 := no (by rw [hr, Bool.and_false])
            rw [hr] at h39
            simp only [go_sem, Int.cast_ofNat_Int, Int.reduceToNat, Bool.true_xor, Bool.false_xor, Bool.xor_true, Bool.xor_false, Nat.reduceAdd, Nat.reduceBEq, Nat.reduceLeDiff, Nat.reduceLT, Nat.reduceMul, Nat.reduceSub, Int.reduceEq, Int.reduceLT, Int.reduceLE, Int.reduceNeg, hlt, hx, j1, j2, j3, ho, obI, Option.isSome_none, h39, hw, e1]
            exact ⟨trivial, by first | trivial | rfl, trivial⟩
          | true =>
            have e1 : heF s L y (q + 1) = some q := by simp only [heF, hx, ho, hcase, hr, Bool.not_false, Bool.and_self, cond_true]
            rw [hr] at h39
            simp only [go_sem, Int.cast_ofNat_Int, Int.reduceToNat, Bool.true_xor, Bool.false_xor, Bool.xor_true, Bool.xor_false, Nat.reduceAdd, Nat.reduceBEq, Nat.reduceLeDiff, Nat.reduceLT, Nat.reduceMul, Nat.reduceSub, Int.reduceEq, Int.reduceLT, Int.reduceLE, Int.reduceNeg, hlt, hx, j1, j2, j3, ho, obI, Option.isSome_none, h39, hw, e1, Option.isSome_some]
            exact ⟨trivial, by first | trivial | rfl, trivial⟩
        | some b =>
          have hbl := (heF_lt s L y q b ho).2
          obtain ⟨z, hz⟩ := getS hbl
          rw [ho] at hcase no
          simp only [hz] at hcase
          cases j4 : decide (z.x ≤ x.x) with
          | true =>
            have e1 := no (by rw [hcase, j4]; rfl)
            simp only [go_sem, Int.cast_ofNat_Int, Int.reduceToNat, Bool.true_xor, Bool.false_xor, Bool.xor_true, Bool.xor_false, Nat.reduceAdd, Nat.reduceBEq, Nat.reduceLeDiff, Nat.reduceLT, Nat.reduceMul, Nat.reduceSub, Int.reduceEq, Int.reduceLT, Int.reduceLE, Int.reduceNeg, hlt, hx, j1, j2, j3, ho, obI, Option.isSome_some, hbl, hz, j4, hw, e1]
            exact ⟨trivial, by first | trivial | rfl, trivial⟩
          | false =>
            cases hr : recB s L q x y.n with
            | false =>
              have e1 := no (by rw [hr, Bool.and_false])
              rw [hr] at h39
              simp only [go_sem, Int.cast_ofNat_Int, Int.reduceToNat, Bool.true_xor, Bool.false_xor, Bool.xor_true, Bool.xor_false, Nat.reduceAdd, Nat.reduceBEq, Nat.reduceLeDiff, Nat.reduceLT, Nat.reduceMul, Nat.reduceSub, Int.reduceEq, Int.reduceLT, Int.reduceLE, Int.reduceNeg, hlt, hx, j1, j2, j3, ho, obI, Option.isSome_some, hbl, hz, j4, h39, hw, e1]
              exact ⟨trivial, by first | trivial | rfl, trivial⟩
            | true =>
              have e1 : heF s L y (q + 1) = some q := by simp only [heF, hx, ho, hcase, hr, j4, Bool.not_false, Bool.and_self, cond_true]
              rw [hr] at h39
              simp only [go_sem, Int.cast_ofNat_Int, Int.reduceToNat, Bool.true_xor, Bool.false_xor, Bool.xor_true, Bool.xor_false, Nat.reduceAdd, Nat.reduceBEq, Nat.reduceLeDiff, Nat.reduceLT, Nat.reduceMul, Nat.reduceSub, Int.reduceEq, Int.reduceLT, Int.reduceLE, Int.reduceNeg, hlt, hx, j1, j2, j3, ho, obI, Option.isSome_some, hbl, hz, j4, h39, hw, e1]
              exact ⟨trivial, by first | trivial | rfl, trivial⟩
      · obtain rfl : q = L.length := by omega
        simp only [go_sem, Int.cast_ofNat_Int, Int.reduceToNat, Bool.true_xor, Bool.false_xor, Bool.xor_true, Bool.xor_false, Nat.reduceAdd, Nat.reduceBEq, Nat.reduceLeDiff, Nat.reduceLT, Nat.reduceMul, Nat.reduceSub, Int.reduceEq, Int.reduceLT, Int.reduceLE, Int.reduceNeg, show decide ((L.length : Int) < (L.length : Int)) = false from decide_eq_false (by omega)]
end Go.Sh
namespace Go.Sh
set_option linter.unusedSectionVars false
set_option linter.unnecessarySimpa false
set_option linter.unusedVariables false
set_option linter.unusedSimpArgs false
set_option maxRecDepth 100000
set_option maxHeartbeats 4000000
def othP (a : Em) (i : Nat) (k : Int) (L : List Em) (q : Nat) : Bool := match L[q]? with
  | some x => othB a i k q x
  | none => false
theorem othF_list (a : Em) (i : Nat) (k : Int) (L : List Em) : ∀ q, othF (fun (v : List Nat) j _ => v ++ [j]) a i k L [] q = upto (othP a i k L) q
  | 0 => rfl
  | q + 1 => by
    have ih := othF_list a i k L q
    simp only [othF]
    cases hx : L[q]? with
    | none => rw [upto_no (by simp only [othP, hx])]; exact ih
    | some x =>
      cases hb : othB a i k q x with
      | true => rw [upto_yes (by simp only [othP, hx, hb])]; simp only [hb, cond_true, ih]
      | false => rw [upto_no (by simp only [othP, hx, hb])]; simp only [hb, cond_false, ih]
def dbB (s : Sn) (L : List Em) (i : Nat) (a : Em) (k : Int) : Bool := freeB L a k && hearB s (sig s a k) (ext s a k) && !recB s L i a k
def dbV (s : Sn) (L : List Em) (i k : Int) : SV := bif decide (ckE s L i k = 0) then
    (match L[i.toNat]? with | some a => bif dbB s L i.toNat a k then .tup [.lst 1 (bS (upto (othP a i.toNat k L) L.length)) false, .int .i64 0] else .tup [.lst 0 [] true, .int .i64 0] | none => .tup [.lst 0 [] true, .int .i64 0])
  else .tup [.lst 0 [] true, .int .i64 (ckE s L i k)]
theorem s10 (n : Nat) (H : Heap) (s : Sn) (L : List Em) (f : Bool) (i k : Int) (hL : L.length ≤ maxLen) : call1 T (n + 19) (.fn 10) [.agg (stC s), .agg (spC s), .lst 4 (emsS L) f, .int .i64 i, .int .i64 k] H = some (dbV s L i k, H) := by
  refine call_pure e10 (by rfl) ?_
  have h40 := fun x y es => s26k (n + 8) [x, y] es 0 s L f i k hL (by simp)
  unfold dbV
  cases h0 : decide (ckE s L i k = 0) with
  | false => simp only [c10, heap0, go_sem, Int.cast_ofNat_Int, Int.reduceToNat, Bool.true_xor, Bool.false_xor, Bool.xor_true, Bool.xor_false, Nat.reduceAdd, Nat.reduceBEq, Nat.reduceLeDiff, Nat.reduceLT, Nat.reduceMul, Nat.reduceSub, Int.reduceEq, Int.reduceLT, Int.reduceLE, Int.reduceNeg, h40, h0]
  | true =>
    have h0' := of_decide_eq_true h0
    obtain ⟨hac, ⟨hi0, hi1⟩, hk0, hk1⟩ := ck_yes h0'
    obtain ⟨hok, hL48, _⟩ := sn_ok hac
    obtain ⟨q, rfl⟩ : ∃ q : Nat, i = q := ⟨i.toNat, by omega⟩
    obtain ⟨a, ha⟩ := getS (l := L) (i := q) (by omega)
    have hq : q < L.length := by omega
    have h39 := fun x0 x1 x2 x3 x4 x6 x7 x8 x9 es ro => s22 (n + 1) ⟨[x0, x1, x2, x3, x4, .box (stC s), x6, x7, x8, x9], es, ro⟩ s L f 5 q a k hL ha rfl
    have h41 := fun x0 x1 x2 x3 x4 x5 x6 x7 x8 x9 es ro => s27 (n + 16) ⟨[x0, x1, x2, x3, x4, x5, x6, x7, x8, x9], es, ro⟩ s L f 5 q a k hL ha (by simp)
    have h42 := fun x0 x1 x2 x3 x4 x5 x6 x7 x8 x9 es ro => s28 (n + 5) ⟨[x0, x1, x2, x3, x4, x5, x6, x7, x8, x9], es, ro⟩ s L f 5 a k (by simp)
    have h43 := fun x0 x1 x2 x3 x4 x5 x6 x7 x8 x9 es ro => s29 (n + 5) ⟨[x0, x1, x2, x3, x4, x5, x6, x7, x8, x9], es, ro⟩ s L f 5 q a k ha (by simp)
    have h69 := fun p r x0 x1 x2 x3 x4 x6 x7 x8 x9 es ro => s40 (n + 15) ⟨[x0, x1, x2, x3, x4, .box (stC s), x6, x7, x8, x9], es, ro⟩ s 5 p r rfl
    simp only [c10, heap0, go_sem, Int.cast_ofNat_Int, Int.reduceToNat, Bool.true_xor, Bool.false_xor, Bool.xor_true, Bool.xor_false, Nat.reduceAdd, Nat.reduceBEq, Nat.reduceLeDiff, Nat.reduceLT, Nat.reduceMul, Nat.reduceSub, Int.reduceEq, Int.reduceLT, Int.reduceLE, Int.reduceNeg, h40, h0, h0', ha, Int.toNat_natCast, h41, dbB]
    cases b1 : freeB L a k with
    | false => simp only [go_sem, Int.cast_ofNat_Int, Int.reduceToNat, Bool.true_xor, Bool.false_xor, Bool.xor_true, Bool.xor_false, Nat.reduceAdd, Nat.reduceBEq, Nat.reduceLeDiff, Nat.reduceLT, Nat.reduceMul, Nat.reduceSub, Int.reduceEq, Int.reduceLT, Int.reduceLE, Int.reduceNeg]
    | true =>
      simp only [go_sem, Int.cast_ofNat_Int, Int.reduceToNat, Bool.true_xor, Bool.false_xor, Bool.xor_true, Bool.xor_false, Nat.reduceAdd, Nat.reduceBEq, Nat.reduceLeDiff, Nat.reduceLT, Nat.reduceMul, Nat.reduceSub, Int.reduceEq, Int.reduceLT, Int.reduceLE, Int.reduceNeg, hq, ha, h42, h43, h69]
      cases b2 : hearB s (sig s a k) (ext s a k) with
      | false => simp only [go_sem, Int.cast_ofNat_Int, Int.reduceToNat, Bool.true_xor, Bool.false_xor, Bool.xor_true, Bool.xor_false, Nat.reduceAdd, Nat.reduceBEq, Nat.reduceLeDiff, Nat.reduceLT, Nat.reduceMul, Nat.reduceSub, Int.reduceEq, Int.reduceLT, Int.reduceLE, Int.reduceNeg]
      | true =>
        simp only [go_sem, Int.cast_ofNat_Int, Int.reduceToNat, Bool.true_xor, Bool.false_xor, Bool.xor_true, Bool.xor_false, Nat.reduceAdd, Nat.reduceBEq, Nat.reduceLeDiff, Nat.reduceLT, Nat.reduceMul, Nat.reduceSub, Int.reduceEq, Int.reduceLT, Int.reduceLE, Int.reduceNeg, h39]
        cases b3 : recB s L q a k with
        | true => simp only [go_sem, Int.cast_ofNat_Int, Int.reduceToNat, Bool.true_xor, Bool.false_xor, Bool.xor_true, Bool.xor_false, Nat.reduceAdd, Nat.reduceBEq, Nat.reduceLeDiff, Nat.reduceLT, Nat.reduceMul, Nat.reduceSub, Int.reduceEq, Int.reduceLT, Int.reduceLE, Int.reduceNeg]
        | false =>
          have h44 := fun x0 x1 x2 x3 x4 x5 x6 x7 x8 x9 x10 x11 es => s30k (n + 17) [x0, x1, x2, x3, x4, x5, x6, x7, x8, x9, x10, x11] es 0 s L f 5 q k
          simp only [go_sem, Int.cast_ofNat_Int, Int.reduceToNat, Bool.true_xor, Bool.false_xor, Bool.xor_true, Bool.xor_false, Nat.reduceAdd, Nat.reduceBEq, Nat.reduceLeDiff, Nat.reduceLT, Nat.reduceMul, Nat.reduceSub, Int.reduceEq, Int.reduceLT, Int.reduceLE, Int.reduceNeg, h44]
          refine G.onSome_of _ (s48 (n + 16) _ _ [.box (stC s), .box (spC s), .box (stC s), .box (spC s), .box (snC s L f 5), .box (stC s), .box (spC s), .box (snC s L f 5), .box (snC s L f 5)] 0 _ (fun (v : List Nat) => .arr v.length 1 (bS v) false) (fun v => .box [.slc 10 v.length 0 v.length]) (fun v j _ => v ++ [j]) s L f 5 q a k hL ha (by simp) (by simp)
            (fun (j : Nat) (v : List Nat) => v.length ≤ j) (fun v j h => by omega) (fun v j x h => by simp; omega) ?_ [] (by simp)) ?_
          · intro v j x X hP hj hx
            have rb := room_le (n := v.length) (by omega) 8 (by omega)
            have gb := fun H => apB_grow 1 H 10 v.length v.length [[.int .i64 (j : Int)]] (bS v) (bS_len _)
            refine yld_in rfl rfl ?_
            simp only [go_sem, Int.cast_ofNat_Int, Int.reduceToNat, Bool.true_xor, Bool.false_xor, Bool.xor_true, Bool.xor_false, Nat.reduceAdd, Nat.reduceBEq, Nat.reduceLeDiff, Nat.reduceLT, Nat.reduceMul, Nat.reduceSub, Int.reduceEq, Int.reduceLT, Int.reduceLE, Int.reduceNeg, rb, gb, bS_snoc, List.length_append]
          · have ho := othF_list a q k L L.length
            simp only [go_sem, Int.cast_ofNat_Int, Int.reduceToNat, Bool.true_xor, Bool.false_xor, Bool.xor_true, Bool.xor_false, Nat.reduceAdd, Nat.reduceBEq, Nat.reduceLeDiff, Nat.reduceLT, Nat.reduceMul, Nat.reduceSub, Int.reduceEq, Int.reduceLT, Int.reduceLE, Int.reduceNeg, ho]
end Go.Sh
namespace Go.Sh
set_option linter.unusedSectionVars false
set_option linter.unnecessarySimpa false
set_option linter.unusedVariables false
set_option linter.unusedSimpArgs false
set_option maxRecDepth 100000
set_option maxHeartbeats 4000000
/-! ### Bounds; interference as a sum -/
theorem sg_eq {B f : Int} (hB : G.powI B = true) (h0 : 0 ≤ f) (h1 : f ≤ 1000) : U.sgV B f = B * f / 1000 := by
  rw [G.pow_iff] at hB
  have hm : B * f ≤ B * 1000 := Int.mul_le_mul_of_nonneg_left h1 hB.1
  have hn : 0 ≤ B * f := Int.mul_nonneg hB.1 h0
  have e1 : w64 (B * f) = B * f := w64_id (by omega) (by omega)
  have e2 : (B * f).tdiv 1000 = B * f / 1000 := Int.tdiv_eq_ediv_of_nonneg hn
  unfold U.sgV
  rw [e1, e2]
  exact w64_id (by omega) (by omega)
theorem sg_rng {B f : Int} (hB : G.powI B = true) (h0 : 0 ≤ f) (h1 : f ≤ 1000) : 0 ≤ U.sgV B f ∧ U.sgV B f ≤ 68719476736 := by
  rw [sg_eq hB h0 h1]
  rw [G.pow_iff] at hB
  have hm : B * f ≤ B * 1000 := Int.mul_le_mul_of_nonneg_left h1 hB.1
  have hn : 0 ≤ B * f := Int.mul_nonneg hB.1 h0
  omega
theorem sig_rng {s : Sn} (h : okSn s = true) (a : Em) (k : Int) : 0 ≤ sig s a k ∧ sig s a k ≤ 68719476736 := by
  simp only [okSn, Bool.and_eq_true] at h
  unfold sig U.V3
  cases hc : okSn s && G.inI s.N a.n k && (U.chanB a.c && U.tmB a.x) with
  | false => simp only [cond_false]; omega
  | true =>
    simp only [Bool.and_eq_true] at hc
    simp only [cond_true]
    have hp := (G.btw_eq (W := s.W) (ex := s.ex) h.1 hc.1.2).2
    have hl := U.le_rng (U.apF a.n k a.c a.x) (U.ckB_f0 h.2)
    exact sg_rng hp hl.1 hl.2
theorem exR_rng {N : List (Int × Int)} {P : List Int} {W : List G.Wl} {ex no th : Int} (hok : G.okI N P W ex no th = true) (k : Nat) (s : U.Src) : 0 ≤ U.exR N P W ex no th k s ∧ U.exR N P W ex no th k s ≤ 68719476736 := by
  unfold U.exR
  cases ha : G.argI s.a s.b s.p (G.nd N k).1 (G.nd N k).2 with
  | false => simp only [G.AtV, hok, Bool.and_false, cond_false]; omega
  | true =>
    have := G.pow_iff.1 (G.at_eq hok ha).2
    simp only [G.AtV, hok, Bool.and_self, cond_true]; exact this
theorem fold_rng {f : U.Src → Int} (h : ∀ s, 0 ≤ f s ∧ f s ≤ 68719476736) (c x y : Int) : ∀ (S : List U.Src) (v : Int), 0 ≤ v → v + S.length * 68719476736 ≤ 4611686018427387904 →
    0 ≤ S.foldl (U.hitF (fun v s => w64 (v + f s)) c x y) v ∧ S.foldl (U.hitF (fun v s => w64 (v + f s)) c x y) v ≤ v + S.length * 68719476736
  | [], v, h0, _ => by simp only [List.foldl_nil, List.length_nil]; omega
  | s :: S, v, h0, hb => by
    have hs := h s
    simp only [List.length_cons] at hb ⊢
    simp only [List.foldl_cons, U.hitF]
    split
    · have e : w64 (v + f s) = v + f s := w64_id (by omega) (by omega)
      rw [e]
      have := fold_rng h c x y S (v + f s) (by omega) (by omega)
      omega
    · have := fold_rng h c x y S v h0 (by omega)
      omega
theorem ext_rng {s : Sn} (h : okSn s = true) (a : Em) (k : Int) : 0 ≤ ext s a k ∧ ext s a k ≤ 1099511627776 := by
  simp only [okSn, Bool.and_eq_true] at h
  unfold ext U.V3
  cases hc : okSn s && U.inB s.N.length k && (U.chanB a.c && U.ivB a.x a.y) with
  | false => simp only [cond_false]; omega
  | true =>
    simp only [cond_true]
    have hS : s.S.length ≤ 16 := by
      have := h.2
      simp only [U.ckB, Bool.and_eq_true, decide_eq_true_eq] at this
      omega
    have := fold_rng (f := U.exR s.N s.P s.W s.ex s.no s.th k.toNat) (fun t => exR_rng h.1 _ t) a.c a.x a.y s.S 0 (by omega) (by omega)
    unfold U.extV
    omega
def osum (g : Em → Int) (a : Em) (i : Nat) (k : Int) (L : List Em) : Nat → Int
  | 0 => 0
  | q + 1 => match L[q]? with
    | some x => osum g a i k L q + bif othB a i k q x then g x else 0
    | none => osum g a i k L q
theorem osum_rng {g : Em → Int} (h : ∀ x, 0 ≤ g x ∧ g x ≤ 68719476736) (a : Em) (i : Nat) (k : Int) (L : List Em) : ∀ q, 0 ≤ osum g a i k L q ∧ osum g a i k L q ≤ q * 68719476736
  | 0 => by simp [osum]
  | q + 1 => by
    have ih := osum_rng h a i k L q
    simp only [osum]
    cases L[q]? with
    | none => simp only; omega
    | some x =>
      have := h x
      simp only
      cases othB a i k q x <;> simp only [cond_true, cond_false] <;> omega
theorem othF_sum {g : Em → Int} (h : ∀ x, 0 ≤ g x ∧ g x ≤ 68719476736) (a : Em) (i : Nat) (k : Int) (L : List Em) (e : Int) (h0 : 0 ≤ e) (h1 : e ≤ 1099511627776) : ∀ q, q ≤ 1000 → othF (fun v _ x => w64 (v + g x)) a i k L e q = e + osum g a i k L q
  | 0, _ => by simp [othF, osum]
  | q + 1, hq => by
    have ih := othF_sum h a i k L e h0 h1 q (by omega)
    have hr := osum_rng h a i k L q
    simp only [othF, osum]
    cases L[q]? with
    | none => exact ih
    | some x =>
      have := h x
      simp only
      cases othB a i k q x with
      | false => simp only [cond_false]; rw [ih]; omega
      | true =>
        simp only [cond_true]
        rw [ih, w64_id (by omega) (by omega)]
        omega
theorem inter_sum {s : Sn} (h : okSn s = true) {L : List Em} (hL : L.length ≤ 1000) (i : Nat) (a : Em) (k : Int) : inter s L i a k = ext s a k + osum (fun x => sig s x k) a i k L L.length :=
  othF_sum (fun x => sig_rng h x k) a i k L _ (ext_rng h a k).1 (ext_rng h a k).2 _ hL
theorem osum_ge {g : Em → Int} (h : ∀ x, 0 ≤ g x ∧ g x ≤ 68719476736) {a : Em} {i : Nat} {k : Int} {L : List Em} {j : Nat} {x : Em} (hx : L[j]? = some x) (ho : othB a i k j x = true) : ∀ q, j < q → g x ≤ osum g a i k L q
  | 0, hq => by omega
  | q + 1, hq => by
    have hr := osum_rng h a i k L q
    simp only [osum]
    rcases Nat.lt_or_ge j q with h3 | h3
    · have ih := osum_ge h hx ho q h3
      cases L[q]? with
      | none => exact ih
      | some y =>
        have := h y
        simp only
        cases othB a i k q y <;> simp only [cond_true, cond_false] <;> omega
    · obtain rfl : j = q := by omega
      simp only [hx, ho, cond_true]
      omega
/-- What is heard is greater than the interference. -/
theorem hear_lt {s : Sn} (h : okSn s = true) {p q : Int} (hp : 0 ≤ p ∧ p ≤ 68719476736) (hq : 0 ≤ q) (hh : hearB s p q = true) : q < p := by
  have hr : 1000 ≤ s.th ∧ s.th ≤ 100000 ∧ 1 ≤ s.no ∧ s.no ≤ 68719476736 := by
    simp only [okSn, G.okI, G.okB, G.rightI, Bool.and_eq_true, decide_eq_true_eq] at h
    omega
  have hq' := of_decide_eq_true hh
  unfold mgI at hq'
  have hc : (G.powI p && (decide (1000 ≤ s.th) && decide (s.th ≤ 100000) && decide (1 ≤ s.no) && decide (s.no ≤ 68719476736))) = true := by
    rw [Bool.and_eq_true, G.pow_iff]
    simp only [Bool.and_eq_true, decide_eq_true_eq]
    omega
  rw [hc, cond_true] at hq'
  have e1 : w64 (1000 * p) = 1000 * p := w64_id (by omega) (by omega)
  have e2 : (1000 * p).tdiv s.th = 1000 * p / s.th := Int.tdiv_eq_ediv_of_nonneg (by omega)
  have e3 : 1000 * p / s.th ≤ p := by
    refine Int.ediv_le_of_le_mul (by omega) ?_
    have : p * 1000 ≤ p * s.th := Int.mul_le_mul_of_nonneg_left hr.1 hp.1
    omega
  have e4 : 0 ≤ 1000 * p / s.th := Int.ediv_nonneg (by omega) (by omega)
  rw [e1, e2, w64_id (n := 1000 * p / s.th) (by omega) (by omega), w64_id (by omega) (by omega)] at hq'
  omega
end Go.Sh
namespace Go.Sh
set_option linter.unusedSectionVars false
set_option linter.unnecessarySimpa false
set_option linter.unusedVariables false
set_option linter.unusedSimpArgs false
set_option maxRecDepth 100000
set_option maxHeartbeats 4000000
/-! ### The reference's functions -/
theorem hear_dec {s : Sn} (h : okSn s = true) {p q : Int} (hp : 0 ≤ p ∧ p ≤ 68719476736) (hq : 0 ≤ q ∧ q ≤ 4398046511104) : decide (w64 (s.th * w64 (s.no + q)) ≤ w64 (1000 * p)) = hearB s p q := by
  have hr : 1000 ≤ s.th ∧ s.th ≤ 100000 ∧ 1 ≤ s.no ∧ s.no ≤ 68719476736 := by
    simp only [okSn, G.okI, G.okB, G.rightI, Bool.and_eq_true, decide_eq_true_eq] at h
    omega
  have hc : (G.powI p && (decide (1000 ≤ s.th) && decide (s.th ≤ 100000) && decide (1 ≤ s.no) && decide (s.no ≤ 68719476736))) = true := by
    rw [Bool.and_eq_true, G.pow_iff]
    simp only [Bool.and_eq_true, decide_eq_true_eq]
    omega
  unfold hearB mgI
  rw [hc, cond_true]
  have e1 : w64 (1000 * p) = 1000 * p := w64_id (by omega) (by omega)
  have e2 : (1000 * p).tdiv s.th = 1000 * p / s.th := Int.tdiv_eq_ediv_of_nonneg (by omega)
  have e3 : 1000 * p / s.th ≤ p := by
    refine Int.ediv_le_of_le_mul (by omega) ?_
    have : p * 1000 ≤ p * s.th := Int.mul_le_mul_of_nonneg_left hr.1 hp.1
    omega
  have e4 : 0 ≤ 1000 * p / s.th := Int.ediv_nonneg (by omega) (by omega)
  have e5 : w64 (s.no + q) = s.no + q := w64_id (by omega) (by omega)
  have hm : s.th * (s.no + q) ≤ 100000 * (s.no + q) := Int.mul_le_mul_of_nonneg_right hr.2.1 (by omega)
  have hn : 0 ≤ s.th * (s.no + q) := Int.mul_nonneg (by omega) (by omega)
  have e6 : w64 (s.th * (s.no + q)) = s.th * (s.no + q) := w64_id (by omega) (by omega)
  have e7 : w64 (1000 * p / s.th) = 1000 * p / s.th := w64_id (by omega) (by omega)
  have e8 : w64 (1000 * p / s.th - s.no) = 1000 * p / s.th - s.no := w64_id (by omega) (by omega)
  rw [e5, e6, e1, e2, e7, e8, Bool.eq_iff_iff, decide_eq_true_eq, decide_eq_true_eq]
  have e9 : s.no + q ≤ 1000 * p / s.th ↔ (s.no + q) * s.th ≤ 1000 * p := Int.le_ediv_iff_mul_le (by omega)
  rw [Int.mul_comm s.th, ← e9]
  omega
theorem inter_rng {s : Sn} (h : okSn s = true) {L : List Em} (hL : L.length ≤ 48) (i : Nat) (a : Em) (k : Int) : 0 ≤ inter s L i a k ∧ inter s L i a k ≤ 4398046511104 := by
  rw [inter_sum h (by omega)]
  have h1 := ext_rng h a k
  have h2 := osum_rng (g := fun x => sig s x k) (fun x => sig_rng h x k) a i k L L.length
  omega
theorem s35 (n : Nat) (H : Heap) (p th no q : Int) : call1 T (n + 1) (.fn 35) [.int .i64 p, .int .i64 th, .int .i64 no, .int .i64 q] H = some (.bool (decide (w64 (th * w64 (no + q)) ≤ w64 (1000 * p))), H) := by
  refine call_pure e35 (by rfl) ?_
  simp only [c35, heap0, go_sem, Int.cast_ofNat_Int, Int.reduceToNat, Bool.true_xor, Bool.false_xor, Bool.xor_true, Bool.xor_false, Nat.reduceAdd, Nat.reduceBEq, Nat.reduceLeDiff, Nat.reduceLT, Nat.reduceMul, Nat.reduceSub, Int.reduceEq, Int.reduceLT, Int.reduceLE, Int.reduceNeg]
theorem s36 (n : Nat) (H : Heap) (L : List Em) (f : Bool) (i j : Nat) (a x : Em) (k : Int) (ha : L[i]? = some a) (hx : L[j]? = some x) : call1 T (n + 2) (.fn 36) [.lst 4 (emsS L) f, .int .i64 i, .int .i64 j, .int .i64 k] H = some (.bool (othB a i k j x), H) := by
  refine call_pure e36 (by rfl) ?_
  have hi : i < L.length := (List.getElem?_eq_some_iff.1 ha).1
  have hj : j < L.length := (List.getElem?_eq_some_iff.1 hx).1
  have h45 := fun H => s45 n H x a
  rw [ov_comm x a] at h45
  unfold othB
  cases k1 : decide ((j : Int) = (i : Int)) with
  | true => simp only [c36, heap0, go_sem, Int.cast_ofNat_Int, Int.reduceToNat, Bool.true_xor, Bool.false_xor, Bool.xor_true, Bool.xor_false, Nat.reduceAdd, Nat.reduceBEq, Nat.reduceLeDiff, Nat.reduceLT, Nat.reduceMul, Nat.reduceSub, Int.reduceEq, Int.reduceLT, Int.reduceLE, Int.reduceNeg, hi, hj, ha, hx, h45, k1]
  | false =>
  cases k2 : decide (x.n = k) with
  | true => simp only [c36, heap0, go_sem, Int.cast_ofNat_Int, Int.reduceToNat, Bool.true_xor, Bool.false_xor, Bool.xor_true, Bool.xor_false, Nat.reduceAdd, Nat.reduceBEq, Nat.reduceLeDiff, Nat.reduceLT, Nat.reduceMul, Nat.reduceSub, Int.reduceEq, Int.reduceLT, Int.reduceLE, Int.reduceNeg, hi, hj, ha, hx, h45, k1, k2, Bool.and_false, Bool.false_and]
  | false =>
  cases k3 : decide (x.c = a.c) with
  | false => simp only [c36, heap0, go_sem, Int.cast_ofNat_Int, Int.reduceToNat, Bool.true_xor, Bool.false_xor, Bool.xor_true, Bool.xor_false, Nat.reduceAdd, Nat.reduceBEq, Nat.reduceLeDiff, Nat.reduceLT, Nat.reduceMul, Nat.reduceSub, Int.reduceEq, Int.reduceLT, Int.reduceLE, Int.reduceNeg, hi, hj, ha, hx, h45, k1, k2, k3, Bool.and_false, Bool.false_and]
  | true => simp only [c36, heap0, go_sem, Int.cast_ofNat_Int, Int.reduceToNat, Bool.true_xor, Bool.false_xor, Bool.xor_true, Bool.xor_false, Nat.reduceAdd, Nat.reduceBEq, Nat.reduceLeDiff, Nat.reduceLT, Nat.reduceMul, Nat.reduceSub, Int.reduceEq, Int.reduceLT, Int.reduceLE, Int.reduceNeg, hi, hj, ha, hx, h45, k1, k2, k3]
theorem s34 (n : Nat) (H : Heap) (L : List Em) (f : Bool) (i : Nat) (a : Em) (k : Int) (hL : L.length ≤ maxLen) (ha : L[i]? = some a) : call1 T (n + 2) (.fn 34) [.lst 4 (emsS L) f, .int .i64 i, .int .i64 k] H = some (.bool (!freeB L a k), H) := by
  refine call_pure e34 (by rfl) ?_
  have hi : i < L.length := (List.getElem?_eq_some_iff.1 ha).1
  simp only [c34, heap0, go_sem, Int.cast_ofNat_Int, Int.reduceToNat, Bool.true_xor, Bool.false_xor, Bool.xor_true, Bool.xor_false, Nat.reduceAdd, Nat.reduceBEq, Nat.reduceLeDiff, Nat.reduceLT, Nat.reduceMul, Nat.reduceSub, Int.reduceEq, Int.reduceLT, Int.reduceLE, Int.reduceNeg]
  refine loop_rule (fun q => ([(0, .lst 4 (emsS L) f), (1, .int .i64 i), (2, .int .i64 k), (7, .int .i64 q)], ⟨[], [], 0⟩))
    (fun q => ∀ (j : Nat) x, j < q → L[j]? = some x → (decide (x.n = k) && ovB x a) = false) L.length (by simp only [go_sem, Int.cast_ofNat_Int, Int.reduceToNat, Bool.true_xor, Bool.false_xor, Bool.xor_true, Bool.xor_false, Nat.reduceAdd, Nat.reduceBEq, Nat.reduceLeDiff, Nat.reduceLT, Nat.reduceMul, Nat.reduceSub, Int.reduceEq, Int.reduceLT, Int.reduceLE, Int.reduceNeg] <;> rfl) (fun j x h => by omega) ?_
  intro q hq hP
  rcases Nat.lt_or_ge q L.length with hlt | hge
  · obtain ⟨x, hx⟩ := getS hlt
    have hw := w64_suc hlt hL
    have h14 := fun H => s45 n H x a
    have go : (decide (x.n = k) && ovB x a) = false → ∀ (j : Nat) y, j < q + 1 → L[j]? = some y → (decide (y.n = k) && ovB y a) = false := fun h j y hj hy => by
      rcases Nat.lt_or_ge j q with h3 | h3
      · exact hP j y h3 hy
      · obtain rfl : j = q := by omega
        rw [hx] at hy; cases hy; exact h
    cases k1 : decide (x.n = k) with
    | false =>
      simp only [go_sem, Int.cast_ofNat_Int, Int.reduceToNat, Bool.true_xor, Bool.false_xor, Bool.xor_true, Bool.xor_false, Nat.reduceAdd, Nat.reduceBEq, Nat.reduceLeDiff, Nat.reduceLT, Nat.reduceMul, Nat.reduceSub, Int.reduceEq, Int.reduceLT, Int.reduceLE, Int.reduceNeg, hlt, hx, hi, ha, h14, k1, hw]
      exact ⟨trivial, by first | trivial | rfl, go (by rw [k1]; rfl)⟩
    | true =>
      cases k2 : ovB x a with
      | false =>
        simp only [go_sem, Int.cast_ofNat_Int, Int.reduceToNat, Bool.true_xor, Bool.false_xor, Bool.xor_true, Bool.xor_false, Nat.reduceAdd, Nat.reduceBEq, Nat.reduceLeDiff, Nat.reduceLT, Nat.reduceMul, Nat.reduceSub, Int.reduceEq, Int.reduceLT, Int.reduceLE, Int.reduceNeg, hlt, hx, k1, hi, ha, h14, k2, hw]
        exact ⟨trivial, by first | trivial | rfl, go (by rw [k1, k2]; rfl)⟩
      | true =>
        have hf : freeB L a k = false := by rw [freeB, any_at hx (by rw [k1, k2]; rfl)]; rfl
        simp only [go_sem, Int.cast_ofNat_Int, Int.reduceToNat, Bool.true_xor, Bool.false_xor, Bool.xor_true, Bool.xor_false, Nat.reduceAdd, Nat.reduceBEq, Nat.reduceLeDiff, Nat.reduceLT, Nat.reduceMul, Nat.reduceSub, Int.reduceEq, Int.reduceLT, Int.reduceLE, Int.reduceNeg, hlt, hx, k1, hi, ha, h14, k2, hf]
  · have hlt : ¬ q < L.length := by omega
    have hf : freeB L a k = true := by rw [freeB, any_none hge hP]; rfl
    simp only [go_sem, Int.cast_ofNat_Int, Int.reduceToNat, Bool.true_xor, Bool.false_xor, Bool.xor_true, Bool.xor_false, Nat.reduceAdd, Nat.reduceBEq, Nat.reduceLeDiff, Nat.reduceLT, Nat.reduceMul, Nat.reduceSub, Int.reduceEq, Int.reduceLT, Int.reduceLE, Int.reduceNeg, hlt, hf]
theorem s31 (n : Nat) (H : Heap) (s : Sn) (L : List Em) (f : Bool) (i k : Int) (hL : L.length ≤ maxLen) : call1 T (n + 9) (.fn 31) [.agg (stC s), .agg (spC s), .lst 4 (emsS L) f, .int .i64 i, .int .i64 k] H = some (.int .i64 (ckE s L i k), H) := by
  refine call_pure e31 (by rfl) ?_
  have h23 := fun H => s23 n H s.N s.P s.W s.g1 s.g2 s.g3 s.ex s.no s.th s.S s.f1 s.F s.f2 L f s.hN s.hW s.hS s.hF hL
  have h23 : ∀ H, call1 T (n + 8) (.fn 23) [.agg (stC s), .agg (spC s), .lst 4 (emsS L) f] H = some (.int .i64 (acE (okSn s) s.N.length L), H) := h23
  unfold ckE
  cases k0 : decide (acE (okSn s) s.N.length L = 0) with
  | false => simp only [c31, heap0, go_sem, Int.cast_ofNat_Int, Int.reduceToNat, Bool.true_xor, Bool.false_xor, Bool.xor_true, Bool.xor_false, Nat.reduceAdd, Nat.reduceBEq, Nat.reduceLeDiff, Nat.reduceLT, Nat.reduceMul, Nat.reduceSub, Int.reduceEq, Int.reduceLT, Int.reduceLE, Int.reduceNeg, h23, k0]
  | true =>
    cases k1 : decide (i < 0) with
    | true => simp only [c31, heap0, go_sem, Int.cast_ofNat_Int, Int.reduceToNat, Bool.true_xor, Bool.false_xor, Bool.xor_true, Bool.xor_false, Nat.reduceAdd, Nat.reduceBEq, Nat.reduceLeDiff, Nat.reduceLT, Nat.reduceMul, Nat.reduceSub, Int.reduceEq, Int.reduceLT, Int.reduceLE, Int.reduceNeg, h23, k0, k1]
    | false =>
    cases k2 : decide ((L.length : Int) ≤ i) with
    | true => simp only [c31, heap0, go_sem, Int.cast_ofNat_Int, Int.reduceToNat, Bool.true_xor, Bool.false_xor, Bool.xor_true, Bool.xor_false, Nat.reduceAdd, Nat.reduceBEq, Nat.reduceLeDiff, Nat.reduceLT, Nat.reduceMul, Nat.reduceSub, Int.reduceEq, Int.reduceLT, Int.reduceLE, Int.reduceNeg, h23, k0, k1, k2]
    | false =>
    cases k3 : decide (k < 0) with
    | true => simp only [c31, heap0, go_sem, Int.cast_ofNat_Int, Int.reduceToNat, Bool.true_xor, Bool.false_xor, Bool.xor_true, Bool.xor_false, Nat.reduceAdd, Nat.reduceBEq, Nat.reduceLeDiff, Nat.reduceLT, Nat.reduceMul, Nat.reduceSub, Int.reduceEq, Int.reduceLT, Int.reduceLE, Int.reduceNeg, h23, k0, k1, k2, k3]
    | false =>
    cases k4 : decide ((s.N.length : Int) ≤ k) with
    | true => simp only [c31, heap0, go_sem, Int.cast_ofNat_Int, Int.reduceToNat, Bool.true_xor, Bool.false_xor, Bool.xor_true, Bool.xor_false, Nat.reduceAdd, Nat.reduceBEq, Nat.reduceLeDiff, Nat.reduceLT, Nat.reduceMul, Nat.reduceSub, Int.reduceEq, Int.reduceLT, Int.reduceLE, Int.reduceNeg, h23, k0, k1, k2, k3, G.ptsS_len', k4]
    | false => simp only [c31, heap0, go_sem, Int.cast_ofNat_Int, Int.reduceToNat, Bool.true_xor, Bool.false_xor, Bool.xor_true, Bool.xor_false, Nat.reduceAdd, Nat.reduceBEq, Nat.reduceLeDiff, Nat.reduceLT, Nat.reduceMul, Nat.reduceSub, Int.reduceEq, Int.reduceLT, Int.reduceLE, Int.reduceNeg, h23, k0, k1, k2, k3, G.ptsS_len', k4]
end Go.Sh
namespace Go.Sh
set_option linter.unusedSectionVars false
set_option linter.unnecessarySimpa false
set_option linter.unusedVariables false
set_option linter.unusedSimpArgs false
set_option maxRecDepth 100000
set_option maxHeartbeats 4000000
def ivV (s : Sn) (L : List Em) (i k : Int) : SV := bif decide (ckE s L i k = 0) then .tup [.int .i64 (match L[i.toNat]? with | some a => inter s L i.toNat a k | none => 0), .int .i64 0] else .tup [.int .i64 0, .int .i64 (ckE s L i k)]
theorem s13 (n : Nat) (H : Heap) (s : Sn) (L : List Em) (f : Bool) (i k : Int) (hL : L.length ≤ maxLen) : call1 T (n + 18) (.fn 13) [.agg (stC s), .agg (spC s), .lst 4 (emsS L) f, .int .i64 i, .int .i64 k] H = some (ivV s L i k, H) := by
  refine call_pure e13 (by rfl) ?_
  have h40 := fun x y es => s26k (n + 7) [x, y] es 0 s L f i k hL (by simp)
  unfold ivV
  cases h0 : decide (ckE s L i k = 0) with
  | false => simp only [c13, heap0, go_sem, Int.cast_ofNat_Int, Int.reduceToNat, Bool.true_xor, Bool.false_xor, Bool.xor_true, Bool.xor_false, Nat.reduceAdd, Nat.reduceBEq, Nat.reduceLeDiff, Nat.reduceLT, Nat.reduceMul, Nat.reduceSub, Int.reduceEq, Int.reduceLT, Int.reduceLE, Int.reduceNeg, h40, h0]
  | true =>
    have h0' := of_decide_eq_true h0
    obtain ⟨_, ⟨hi0, hi1⟩, hk0, hk1⟩ := ck_yes h0'
    obtain ⟨q, rfl⟩ : ∃ q : Nat, i = q := ⟨i.toNat, by omega⟩
    obtain ⟨a, ha⟩ := getS (l := L) (i := q) (by omega)
    have h39 := fun x0 x1 x2 x3 x4 x6 x7 x8 x9 es ro => s37 (n + 1) ⟨[x0, x1, x2, x3, x4, .box (stC s), x6, x7, x8, x9], es, ro⟩ s L f 5 q a k hL ha (by simp)
    simp only [c13, heap0, go_sem, Int.cast_ofNat_Int, Int.reduceToNat, Bool.true_xor, Bool.false_xor, Bool.xor_true, Bool.xor_false, Nat.reduceAdd, Nat.reduceBEq, Nat.reduceLeDiff, Nat.reduceLT, Nat.reduceMul, Nat.reduceSub, Int.reduceEq, Int.reduceLT, Int.reduceLE, Int.reduceNeg, h40, h0, h0', h39, ha]
theorem s14 (n : Nat) (H : Heap) (s : Sn) (L : List Em) (f : Bool) (i k : Int) (hL : L.length ≤ maxLen) : call1 T (n + 10) (.fn 14) [.agg (stC s), .agg (spC s), .lst 4 (emsS L) f, .int .i64 i, .int .i64 k] H = some (ivV s L i k, H) := by
  refine call_pure e14 (by rfl) ?_
  have h31 := fun H => s31 n H s L f i k hL
  unfold ivV
  cases h0 : decide (ckE s L i k = 0) with
  | false => simp only [c14, heap0, go_sem, Int.cast_ofNat_Int, Int.reduceToNat, Bool.true_xor, Bool.false_xor, Bool.xor_true, Bool.xor_false, Nat.reduceAdd, Nat.reduceBEq, Nat.reduceLeDiff, Nat.reduceLT, Nat.reduceMul, Nat.reduceSub, Int.reduceEq, Int.reduceLT, Int.reduceLE, Int.reduceNeg, h31, h0]
  | true =>
    have h0' := of_decide_eq_true h0
    obtain ⟨_, ⟨hi0, hi1⟩, hk0, hk1⟩ := ck_yes h0'
    obtain ⟨j, rfl⟩ : ∃ q : Nat, i = q := ⟨i.toNat, by omega⟩
    obtain ⟨a, ha⟩ := getS (l := L) (i := j) (by omega)
    have hj : j < L.length := by omega
    have h32 := fun H => U.s32 (n + 1) H s.N s.P s.W s.g1 s.g2 s.g3 s.ex s.no s.th s.S s.f1 s.F s.f2 k a.c a.x a.y s.hN s.hW s.hS s.hF
    have h32 : ∀ H, call1 T (n + 9) (.fn 32) [.agg (stC s), .agg (spC s), .int .i64 k, .int .i64 a.c, .int .i64 a.x, .int .i64 a.y] H = some (.tup [.int .i64 (ext s a k), .int .i64 (U.E3 (okSn s) (U.inB s.N.length k) (U.chanB a.c && U.ivB a.x a.y))], H) := h32
    simp only [c14, heap0, go_sem, Int.cast_ofNat_Int, Int.reduceToNat, Bool.true_xor, Bool.false_xor, Bool.xor_true, Bool.xor_false, Nat.reduceAdd, Nat.reduceBEq, Nat.reduceLeDiff, Nat.reduceLT, Nat.reduceMul, Nat.reduceSub, Int.reduceEq, Int.reduceLT, Int.reduceLE, Int.reduceNeg, h31, h0, h0', hj, ha, h32, Int.toNat_natCast]
    refine loop_rule (fun q => ([(2, .lst 4 (emsS L) f), (3, .int .i64 j), (4, .int .i64 k), (5, .ptr 0 0 0 0), (6, .ptr 1 0 0 0), (13, .int .i64 (othF (fun v _ x => w64 (v + sig s x k)) a j k L (ext s a k) q)), (15, .int .i64 q)],
      ⟨[.box (stC s), .box (spC s)], [], 0⟩)) (fun _ => True) L.length (by simp only [go_sem, Int.cast_ofNat_Int, Int.reduceToNat, Bool.true_xor, Bool.false_xor, Bool.xor_true, Bool.xor_false, Nat.reduceAdd, Nat.reduceBEq, Nat.reduceLeDiff, Nat.reduceLT, Nat.reduceMul, Nat.reduceSub, Int.reduceEq, Int.reduceLT, Int.reduceLE, Int.reduceNeg] <;> rfl) trivial ?_
    intro q hq _
    rcases Nat.lt_or_ge q L.length with hlt | hge
    · obtain ⟨x, hx⟩ := getS hlt
      have hw := w64_suc hlt hL
      have h36 := fun H => s36 (n + 7) H L f j q a x k ha hx
      have h33 := fun H => U.s33 (n + 1) H s.N s.P s.W s.g1 s.g2 s.g3 s.ex s.no s.th s.S s.f1 s.F s.f2 x.n k x.c x.x s.hN s.hW s.hS s.hF
      have h33 : ∀ H, call1 T (n + 9) (.fn 33) [.agg (stC s), .agg (spC s), .int .i64 x.n, .int .i64 k, .int .i64 x.c, .int .i64 x.x] H = some (.tup [.int .i64 (sig s x k), .int .i64 (U.E3 (okSn s) (G.inI s.N x.n k) (U.chanB x.c && U.tmB x.x))], H) := h33
      cases hb : othB a j k q x with
      | false =>
        have e1 : othF (fun v _ x => w64 (v + sig s x k)) a j k L (ext s a k) (q + 1) = othF (fun v _ x => w64 (v + sig s x k)) a j k L (ext s a k) q := by simp only [othF, hx, hb, cond_false]
        rw [hb] at h36
        simp only [go_sem, Int.cast_ofNat_Int, Int.reduceToNat, Bool.true_xor, Bool.false_xor, Bool.xor_true, Bool.xor_false, Nat.reduceAdd, Nat.reduceBEq, Nat.reduceLeDiff, Nat.reduceLT, Nat.reduceMul, Nat.reduceSub, Int.reduceEq, Int.reduceLT, Int.reduceLE, Int.reduceNeg, hlt, h36, hw, e1]
        exact ⟨trivial, by first | trivial | rfl, trivial⟩
      | true =>
        have e1 : othF (fun v _ x => w64 (v + sig s x k)) a j k L (ext s a k) (q + 1) = w64 (othF (fun v _ x => w64 (v + sig s x k)) a j k L (ext s a k) q + sig s x k) := by simp only [othF, hx, hb, cond_true]
        rw [hb] at h36
        simp only [go_sem, Int.cast_ofNat_Int, Int.reduceToNat, Bool.true_xor, Bool.false_xor, Bool.xor_true, Bool.xor_false, Nat.reduceAdd, Nat.reduceBEq, Nat.reduceLeDiff, Nat.reduceLT, Nat.reduceMul, Nat.reduceSub, Int.reduceEq, Int.reduceLT, Int.reduceLE, Int.reduceNeg, hlt, hx, h36, h33, hw, e1]
        exact ⟨trivial, by first | trivial | rfl, trivial⟩
    · obtain rfl : q = L.length := by omega
      simp only [go_sem, Int.cast_ofNat_Int, Int.reduceToNat, Bool.true_xor, Bool.false_xor, Bool.xor_true, Bool.xor_false, Nat.reduceAdd, Nat.reduceBEq, Nat.reduceLeDiff, Nat.reduceLT, Nat.reduceMul, Nat.reduceSub, Int.reduceEq, Int.reduceLT, Int.reduceLE, Int.reduceNeg, show decide ((L.length : Int) < (L.length : Int)) = false from decide_eq_false (by omega)]
      rfl
theorem s16 (n : Nat) (H : Heap) (s : Sn) (L : List Em) (f : Bool) (i k : Int) (hL : L.length ≤ maxLen) : call1 T (n + 11) (.fn 16) [.agg (stC s), .agg (spC s), .lst 4 (emsS L) f, .int .i64 i, .int .i64 k] H = some (rcV s L i k, H) := by
  refine call_pure e16 (by rfl) ?_
  have h14 := fun H => s14 n H s L f i k hL
  unfold rcV
  unfold ivV at h14
  cases h0 : decide (ckE s L i k = 0) with
  | false =>
    have h0' : decide (ckE s L i k = 0) = false := h0
    rw [h0] at h14
    simp only [c16, heap0, go_sem, Int.cast_ofNat_Int, Int.reduceToNat, Bool.true_xor, Bool.false_xor, Bool.xor_true, Bool.xor_false, Nat.reduceAdd, Nat.reduceBEq, Nat.reduceLeDiff, Nat.reduceLT, Nat.reduceMul, Nat.reduceSub, Int.reduceEq, Int.reduceLT, Int.reduceLE, Int.reduceNeg, h14, h0]
  | true =>
    have h0' := of_decide_eq_true h0
    obtain ⟨hac, ⟨hi0, hi1⟩, hk0, hk1⟩ := ck_yes h0'
    obtain ⟨hok, hL48, _⟩ := sn_ok hac
    obtain ⟨j, rfl⟩ : ∃ q : Nat, i = q := ⟨i.toNat, by omega⟩
    obtain ⟨a, ha⟩ := getS (l := L) (i := j) (by omega)
    have hj : j < L.length := by omega
    rw [h0] at h14
    simp only [Int.toNat_natCast, ha, cond_true] at h14
    have h33 := fun H => U.s33 (n + 2) H s.N s.P s.W s.g1 s.g2 s.g3 s.ex s.no s.th s.S s.f1 s.F s.f2 a.n k a.c a.x s.hN s.hW s.hS s.hF
    have h33 : ∀ H, call1 T (n + 10) (.fn 33) [.agg (stC s), .agg (spC s), .int .i64 a.n, .int .i64 k, .int .i64 a.c, .int .i64 a.x] H = some (.tup [.int .i64 (sig s a k), .int .i64 (U.E3 (okSn s) (G.inI s.N a.n k) (U.chanB a.c && U.tmB a.x))], H) := h33
    have h34 := fun H => s34 (n + 8) H L f j a k hL ha
    have h35 := fun H => s35 (n + 9) H (sig s a k) s.th s.no (inter s L j a k)
    rw [hear_dec hok (sig_rng hok a k) (inter_rng hok hL48 j a k)] at h35
    cases b1 : freeB L a k with
    | false =>
      rw [b1] at h34
      simp only [c16, heap0, go_sem, Int.cast_ofNat_Int, Int.reduceToNat, Bool.true_xor, Bool.false_xor, Bool.xor_true, Bool.xor_false, Nat.reduceAdd, Nat.reduceBEq, Nat.reduceLeDiff, Nat.reduceLT, Nat.reduceMul, Nat.reduceSub, Int.reduceEq, Int.reduceLT, Int.reduceLE, Int.reduceNeg, h14, h33, h34, hj, ha, recB, b1, Int.toNat_natCast]
    | true =>
      rw [b1] at h34
      simp only [c16, heap0, go_sem, Int.cast_ofNat_Int, Int.reduceToNat, Bool.true_xor, Bool.false_xor, Bool.xor_true, Bool.xor_false, Nat.reduceAdd, Nat.reduceBEq, Nat.reduceLeDiff, Nat.reduceLT, Nat.reduceMul, Nat.reduceSub, Int.reduceEq, Int.reduceLT, Int.reduceLE, Int.reduceNeg, h14, h33, h34, h35, hj, ha, recB, b1, Int.toNat_natCast]
end Go.Sh
namespace Go.Sh
set_option linter.unusedSectionVars false
set_option linter.unnecessarySimpa false
set_option linter.unusedVariables false
set_option linter.unusedSimpArgs false
set_option maxRecDepth 100000
set_option maxHeartbeats 4000000
theorem ck_move {s : Sn} {L : List Em} {i k : Int} (h : ckE s L i 0 = 0) (h0 : 0 ≤ k) (h1 : k < s.N.length) : ckE s L i k = 0 := by
  obtain ⟨a, b, _, _⟩ := ck_yes h
  unfold ckE
  rw [decide_eq_true a, cond_true, decide_eq_false (show ¬ i < 0 by omega), decide_eq_false (show ¬ (L.length : Int) ≤ i by omega), decide_eq_false (show ¬ k < 0 by omega), decide_eq_false (show ¬ (s.N.length : Int) ≤ k by omega)]
  rfl
theorem s18 (n : Nat) (H : Heap) (s : Sn) (L : List Em) (f : Bool) (i : Int) (hL : L.length ≤ maxLen) : call1 T (n + 12) (.fn 18) [.agg (stC s), .agg (spC s), .lst 4 (emsS L) f, .int .i64 i] H = some (rsV s L i, H) := by
  refine call_pure e18 (by rfl) ?_
  have h31 := fun H => s31 (n + 2) H s L f i 0 hL
  unfold rsV
  cases h0 : decide (ckE s L i 0 = 0) with
  | false => simp only [c18, heap0, go_sem, Int.cast_ofNat_Int, Int.reduceToNat, Bool.true_xor, Bool.false_xor, Bool.xor_true, Bool.xor_false, Nat.reduceAdd, Nat.reduceBEq, Nat.reduceLeDiff, Nat.reduceLT, Nat.reduceMul, Nat.reduceSub, Int.reduceEq, Int.reduceLT, Int.reduceLE, Int.reduceNeg, h31, h0]
  | true =>
    have h0' := of_decide_eq_true h0
    obtain ⟨hac, ⟨hi0, hi1⟩, hk0, hk1⟩ := ck_yes h0'
    obtain ⟨hok, _, _⟩ := sn_ok hac
    have hN32 := sn_N hok
    obtain ⟨q, rfl⟩ : ∃ q : Nat, i = q := ⟨i.toNat, by omega⟩
    obtain ⟨a, ha⟩ := getS (l := L) (i := q) (by omega)
    simp only [c18, heap0, go_sem, Int.cast_ofNat_Int, Int.reduceToNat, Bool.true_xor, Bool.false_xor, Bool.xor_true, Bool.xor_false, Nat.reduceAdd, Nat.reduceBEq, Nat.reduceLeDiff, Nat.reduceLT, Nat.reduceMul, Nat.reduceSub, Int.reduceEq, Int.reduceLT, Int.reduceLE, Int.reduceNeg, h31, h0, h0', ha, Int.toNat_natCast]
    refine loop_rule (fun k => ([(2, .lst 4 (emsS L) f), (3, .int .i64 q), (4, .ptr 0 0 0 0), (5, .ptr 1 0 0 0), (11, .slc 2 (upto (fun k => recB s L q a k) k).length 0 (upto (fun k => recB s L q a k) k).length), (12, .int .i64 k)],
      ⟨[.box (stC s), .box (spC s), .arr (upto (fun k => recB s L q a k) k).length 1 (bS (upto (fun k => recB s L q a k) k)) false], [], 0⟩)) (fun _ => True) s.N.length (by simp only [go_sem, Int.cast_ofNat_Int, Int.reduceToNat, Bool.true_xor, Bool.false_xor, Bool.xor_true, Bool.xor_false, Nat.reduceAdd, Nat.reduceBEq, Nat.reduceLeDiff, Nat.reduceLT, Nat.reduceMul, Nat.reduceSub, Int.reduceEq, Int.reduceLT, Int.reduceLE, Int.reduceNeg] <;> rfl) trivial ?_
    intro k hk _
    rcases Nat.lt_or_ge k s.N.length with hlt | hge
    · have hw := w64_suc hlt s.hN
      have rb := room_le (n := (upto (fun k => recB s L q a k) k).length) (Nat.le_trans (upto_len _ _) (by omega)) 8 (by omega)
      have gb := fun H => apB_grow 1 H 2 (upto (fun k => recB s L q a k) k).length (upto (fun k => recB s L q a k) k).length [[.int .i64 (k : Int)]] (bS (upto (fun k => recB s L q a k) k)) (bS_len _)
      have h16 := fun H => s16 n H s L f q k hL
      have hck := ck_move (k := (k : Int)) h0' (by omega) (by omega)
      simp only [rcV, hck, decide_true, cond_true, Int.toNat_natCast, ha] at h16
      cases hr : recB s L q a k with
      | false =>
        have e1 := upto_no (p := fun k : Nat => recB s L q a k) (i := k) hr
        rw [hr] at h16
        simp only [go_sem, Int.cast_ofNat_Int, Int.reduceToNat, Bool.true_xor, Bool.false_xor, Bool.xor_true, Bool.xor_false, Nat.reduceAdd, Nat.reduceBEq, Nat.reduceLeDiff, Nat.reduceLT, Nat.reduceMul, Nat.reduceSub, Int.reduceEq, Int.reduceLT, Int.reduceLE, Int.reduceNeg, G.ptsS_len', hlt, h16, hw, e1]
        exact ⟨by first | trivial | omega, by first | trivial | rfl, trivial⟩
      | true =>
        have e1 := upto_yes (p := fun k : Nat => recB s L q a k) (i := k) hr
        rw [hr] at h16
        simp only [go_sem, Int.cast_ofNat_Int, Int.reduceToNat, Bool.true_xor, Bool.false_xor, Bool.xor_true, Bool.xor_false, Nat.reduceAdd, Nat.reduceBEq, Nat.reduceLeDiff, Nat.reduceLT, Nat.reduceMul, Nat.reduceSub, Int.reduceEq, Int.reduceLT, Int.reduceLE, Int.reduceNeg, G.ptsS_len', hlt, h16, rb, gb, bS_snoc, hw, e1, List.length_append]
        exact ⟨by first | trivial | omega, by first | trivial | rfl, trivial⟩
    · obtain rfl : k = s.N.length := by omega
      simp only [go_sem, Int.cast_ofNat_Int, Int.reduceToNat, Bool.true_xor, Bool.false_xor, Bool.xor_true, Bool.xor_false, Nat.reduceAdd, Nat.reduceBEq, Nat.reduceLeDiff, Nat.reduceLT, Nat.reduceMul, Nat.reduceSub, Int.reduceEq, Int.reduceLT, Int.reduceLE, Int.reduceNeg, G.ptsS_len', show decide ((s.N.length : Int) < (s.N.length : Int)) = false from decide_eq_false (by omega)]
      rfl
theorem li_eq (y : Em) : liB y = !(U.chanB y.c && U.ivB y.x y.y) := by
  unfold liB U.chanB U.ivB
  rw [Bool.eq_iff_iff]
  simp only [Bool.or_eq_true, Bool.not_eq_true', Bool.and_eq_false_iff, decide_eq_true_eq, decide_eq_false_iff_not]
  omega
/-- The reference's index of the best: -1 when there is none. -/
def mnI : Option Nat → Int
  | some b => b
  | none => -1
theorem s9 (n : Nat) (H : Heap) (s : Sn) (L : List Em) (f : Bool) (y : Em) (hL : L.length ≤ maxLen) : call1 T (n + 12) (.fn 9) [.agg (stC s), .agg (spC s), .lst 4 (emsS L) f, .agg (emC y)] H = some (hrV s L y, H) := by
  refine call_pure e9 (by rfl) ?_
  have h23 := fun H => s23 (n + 3) H s.N s.P s.W s.g1 s.g2 s.g3 s.ex s.no s.th s.S s.f1 s.F s.f2 L f s.hN s.hW s.hS s.hF hL
  have h23 : ∀ H, call1 T (n + 11) (.fn 23) [.agg (stC s), .agg (spC s), .lst 4 (emsS L) f] H = some (.int .i64 (acE (okSn s) s.N.length L), H) := h23
  have h24 := fun H => U.s24 (n + 10) H y.c
  have h25 := fun H => U.s25 (n + 10) H y.x y.y
  unfold hrV
  cases h0 : decide (acE (okSn s) s.N.length L = 0) with
  | false => simp only [c9, heap0, go_sem, Int.cast_ofNat_Int, Int.reduceToNat, Bool.true_xor, Bool.false_xor, Bool.xor_true, Bool.xor_false, Nat.reduceAdd, Nat.reduceBEq, Nat.reduceLeDiff, Nat.reduceLT, Nat.reduceMul, Nat.reduceSub, Int.reduceEq, Int.reduceLT, Int.reduceLE, Int.reduceNeg, h23, h0]
  | true =>
    have h0' := of_decide_eq_true h0
    cases k1 : decide (y.n < 0) with
    | true => simp only [c9, heap0, go_sem, Int.cast_ofNat_Int, Int.reduceToNat, Bool.true_xor, Bool.false_xor, Bool.xor_true, Bool.xor_false, Nat.reduceAdd, Nat.reduceBEq, Nat.reduceLeDiff, Nat.reduceLT, Nat.reduceMul, Nat.reduceSub, Int.reduceEq, Int.reduceLT, Int.reduceLE, Int.reduceNeg, h23, h0, k1]
    | false =>
    cases k2 : decide ((s.N.length : Int) ≤ y.n) with
    | true => simp only [c9, heap0, go_sem, Int.cast_ofNat_Int, Int.reduceToNat, Bool.true_xor, Bool.false_xor, Bool.xor_true, Bool.xor_false, Nat.reduceAdd, Nat.reduceBEq, Nat.reduceLeDiff, Nat.reduceLT, Nat.reduceMul, Nat.reduceSub, Int.reduceEq, Int.reduceLT, Int.reduceLE, Int.reduceNeg, h23, h0, k1, G.ptsS_len', k2]
    | false =>
    rw [li_eq]
    cases k3 : U.chanB y.c with
    | false => simp only [c9, heap0, go_sem, Int.cast_ofNat_Int, Int.reduceToNat, Bool.true_xor, Bool.false_xor, Bool.xor_true, Bool.xor_false, Nat.reduceAdd, Nat.reduceBEq, Nat.reduceLeDiff, Nat.reduceLT, Nat.reduceMul, Nat.reduceSub, Int.reduceEq, Int.reduceLT, Int.reduceLE, Int.reduceNeg, h23, h0, k1, G.ptsS_len', k2, h24, h25, k3]
    | true =>
    cases k4 : U.ivB y.x y.y with
    | false => simp only [c9, heap0, go_sem, Int.cast_ofNat_Int, Int.reduceToNat, Bool.true_xor, Bool.false_xor, Bool.xor_true, Bool.xor_false, Nat.reduceAdd, Nat.reduceBEq, Nat.reduceLeDiff, Nat.reduceLT, Nat.reduceMul, Nat.reduceSub, Int.reduceEq, Int.reduceLT, Int.reduceLE, Int.reduceNeg, h23, h0, k1, G.ptsS_len', k2, h24, h25, k3, k4]
    | true =>
      have hyn : 0 ≤ y.n ∧ y.n < s.N.length := by have := of_decide_eq_false k1; have := of_decide_eq_false k2; omega
      simp only [c9, heap0, go_sem, Int.cast_ofNat_Int, Int.reduceToNat, Bool.true_xor, Bool.false_xor, Bool.xor_true, Bool.xor_false, Nat.reduceAdd, Nat.reduceBEq, Nat.reduceLeDiff, Nat.reduceLT, Nat.reduceMul, Nat.reduceSub, Int.reduceEq, Int.reduceLT, Int.reduceLE, Int.reduceNeg, h23, h0, k1, G.ptsS_len', k2, h24, h25, k3, k4]
      refine loop_rule (fun q => ([(2, .lst 4 (emsS L) f), (4, .ptr 0 0 0 0), (5, .ptr 1 0 0 0), (7, .ptr 2 0 0 0), (12, .int .i64 (mnI (heF s L y q))), (13, .int .i64 q)],
        ⟨[.box (stC s), .box (spC s), .box (emC y)], [], 0⟩)) (fun _ => True) L.length (by simp only [go_sem, Int.cast_ofNat_Int, Int.reduceToNat, Bool.true_xor, Bool.false_xor, Bool.xor_true, Bool.xor_false, Nat.reduceAdd, Nat.reduceBEq, Nat.reduceLeDiff, Nat.reduceLT, Nat.reduceMul, Nat.reduceSub, Int.reduceEq, Int.reduceLT, Int.reduceLE, Int.reduceNeg] <;> rfl) trivial ?_
      intro q hq _
      rcases Nat.lt_or_ge q L.length with hlt | hge
      · obtain ⟨x, hx⟩ := getS hlt
        have hw := w64_suc hlt hL
        have h16 := fun H => s16 n H s L f q y.n hL
        have hck : ckE s L q y.n = 0 := by
          unfold ckE
          rw [decide_eq_true h0', cond_true, decide_eq_false (show ¬ (q : Int) < 0 by omega), decide_eq_false (show ¬ (L.length : Int) ≤ q by omega), k1, k2]
          rfl
        simp only [rcV, hck, decide_true, cond_true, Int.toNat_natCast, hx] at h16
        have no : (heC L y (heF s L y q) x && recB s L q x y.n) = false → heF s L y (q + 1) = heF s L y q := fun h => by simp only [heF, hx, h, cond_false]
        cases j1 : decide (x.c = y.c) with
        | false =>
          have e1 := no (by simp only [heC, j1]; rfl)
          simp only [go_sem, Int.cast_ofNat_Int, Int.reduceToNat, Bool.true_xor, Bool.false_xor, Bool.xor_true, Bool.xor_false, Nat.reduceAdd, Nat.reduceBEq, Nat.reduceLeDiff, Nat.reduceLT, Nat.reduceMul, Nat.reduceSub, Int.reduceEq, Int.reduceLT, Int.reduceLE, Int.reduceNeg, hlt, hx, j1, hw, e1]
          exact ⟨trivial, by first | trivial | rfl, trivial⟩
        | true =>
        cases j2 : decide (x.x < y.x) with
        | true =>
          have e1 := no (by simp only [heC, j1, j2]; rfl)
          simp only [go_sem, Int.cast_ofNat_Int, Int.reduceToNat, Bool.true_xor, Bool.false_xor, Bool.xor_true, Bool.xor_false, Nat.reduceAdd, Nat.reduceBEq, Nat.reduceLeDiff, Nat.reduceLT, Nat.reduceMul, Nat.reduceSub, Int.reduceEq, Int.reduceLT, Int.reduceLE, Int.reduceNeg, hlt, hx, j1, j2, hw, e1]
          exact ⟨trivial, by first | trivial | rfl, trivial⟩
        | false =>
        cases j3 : decide (y.y < x.x) with
        | true =>
          have e1 := no (by simp only [heC, j1, j2, j3]; rfl)
          simp only [go_sem, Int.cast_ofNat_Int, Int.reduceToNat, Bool.true_xor, Bool.false_xor, Bool.xor_true, Bool.xor_false, Nat.reduceAdd, Nat.reduceBEq, Nat.reduceLeDiff, Nat.reduceLT, Nat.reduceMul, Nat.reduceSub, Int.reduceEq, Int.reduceLT, Int.reduceLE, Int.reduceNeg, hlt, hx, j1, j2, j3, hw, e1]
          exact ⟨trivial, by first | trivial | rfl, trivial⟩
        | false =>
        have hcase : heC L y (heF s L y q) x = !(match heF s L y q with | some b => (match L[b]? with | some z => decide (z.x ≤ x.x) | none => false) | none => false) := by simp only [heC, j1, j2, j3]; rfl
        cases ho : heF s L y q with
        | none =>
          rw [ho] at hcase no
          cases hr : recB s L q x y.n with
          | false =>
            have e1 := no (by rw [hr, Bool.and_false])
            rw [hr] at h16
            simp only [go_sem, Int.cast_ofNat_Int, Int.reduceToNat, Bool.true_xor, Bool.false_xor, Bool.xor_true, Bool.xor_false, Nat.reduceAdd, Nat.reduceBEq, Nat.reduceLeDiff, Nat.reduceLT, Nat.reduceMul, Nat.reduceSub, Int.reduceEq, Int.reduceLT, Int.reduceLE, Int.reduceNeg, hlt, hx, j1, j2, j3, ho, mnI, h16, hw, e1]
            exact ⟨trivial, by first | trivial | rfl, trivial⟩
          | true =>
            have e1 : heF s L y (q + 1) = some q := by simp only [heF, hx, ho, hcase, hr, Bool.not_false, Bool.and_self, cond_true]
            rw [hr] at h16
            simp only [go_sem, Int.cast_ofNat_Int, Int.reduceToNat, Bool.true_xor, Bool.false_xor, Bool.xor_true, Bool.xor_false, Nat.reduceAdd, Nat.reduceBEq, Nat.reduceLeDiff, Nat.reduceLT, Nat.reduceMul, Nat.reduceSub, Int.reduceEq, Int.reduceLT, Int.reduceLE, Int.reduceNeg, hlt, hx, j1, j2, j3, ho, mnI, h16, hw, e1]
            exact ⟨trivial, by first | trivial | rfl, trivial⟩
        | some b =>
          have hbl := (heF_lt s L y q b ho).2
          obtain ⟨z, hz⟩ := getS hbl
          rw [ho] at hcase no
          simp only [hz] at hcase
          cases j4 : decide (z.x ≤ x.x) with
          | true =>
            have e1 := no (by rw [hcase, j4]; rfl)
            simp only [go_sem, Int.cast_ofNat_Int, Int.reduceToNat, Bool.true_xor, Bool.false_xor, Bool.xor_true, Bool.xor_false, Nat.reduceAdd, Nat.reduceBEq, Nat.reduceLeDiff, Nat.reduceLT, Nat.reduceMul, Nat.reduceSub, Int.reduceEq, Int.reduceLT, Int.reduceLE, Int.reduceNeg, hlt, hx, j1, j2, j3, ho, mnI, hbl, hz, j4, hw, e1]
            exact ⟨trivial, by first | trivial | rfl, trivial⟩
          | false =>
            cases hr : recB s L q x y.n with
            | false =>
              have e1 := no (by rw [hr, Bool.and_false])
              rw [hr] at h16
              simp only [go_sem, Int.cast_ofNat_Int, Int.reduceToNat, Bool.true_xor, Bool.false_xor, Bool.xor_true, Bool.xor_false, Nat.reduceAdd, Nat.reduceBEq, Nat.reduceLeDiff, Nat.reduceLT, Nat.reduceMul, Nat.reduceSub, Int.reduceEq, Int.reduceLT, Int.reduceLE, Int.reduceNeg, hlt, hx, j1, j2, j3, ho, mnI, hbl, hz, j4, h16, hw, e1]
              exact ⟨trivial, by first | trivial | rfl, trivial⟩
            | true =>
              have e1 : heF s L y (q + 1) = some q := by simp only [heF, hx, ho, hcase, hr, j4, Bool.not_false, Bool.and_self, cond_true]
              rw [hr] at h16
              simp only [go_sem, Int.cast_ofNat_Int, Int.reduceToNat, Bool.true_xor, Bool.false_xor, Bool.xor_true, Bool.xor_false, Nat.reduceAdd, Nat.reduceBEq, Nat.reduceLeDiff, Nat.reduceLT, Nat.reduceMul, Nat.reduceSub, Int.reduceEq, Int.reduceLT, Int.reduceLE, Int.reduceNeg, hlt, hx, j1, j2, j3, ho, mnI, hbl, hz, j4, h16, hw, e1]
              exact ⟨trivial, by first | trivial | rfl, trivial⟩
      · obtain rfl : q = L.length := by omega
        cases ho : heF s L y L.length with
        | none => simp only [go_sem, Int.cast_ofNat_Int, Int.reduceToNat, Bool.true_xor, Bool.false_xor, Bool.xor_true, Bool.xor_false, Nat.reduceAdd, Nat.reduceBEq, Nat.reduceLeDiff, Nat.reduceLT, Nat.reduceMul, Nat.reduceSub, Int.reduceEq, Int.reduceLT, Int.reduceLE, Int.reduceNeg, show decide ((L.length : Int) < (L.length : Int)) = false from decide_eq_false (by omega), ho, mnI, obI, Option.isSome_none, show max (-1 : Int) 0 = 0 from by decide]
        | some b =>
          have hm : max (b : Int) 0 = b := by omega
          simp only [go_sem, Int.cast_ofNat_Int, Int.reduceToNat, Bool.true_xor, Bool.false_xor, Bool.xor_true, Bool.xor_false, Nat.reduceAdd, Nat.reduceBEq, Nat.reduceLeDiff, Nat.reduceLT, Nat.reduceMul, Nat.reduceSub, Int.reduceEq, Int.reduceLT, Int.reduceLE, Int.reduceNeg, show decide ((L.length : Int) < (L.length : Int)) = false from decide_eq_false (by omega), ho, mnI, obI, Option.isSome_some, hm]
end Go.Sh
namespace Go.Sh
set_option linter.unusedSectionVars false
set_option linter.unnecessarySimpa false
set_option linter.unusedVariables false
set_option linter.unusedSimpArgs false
set_option maxRecDepth 100000
set_option maxHeartbeats 4000000
/-! ### Disturbers of the reference; the two laws -/
def dbR (s : Sn) (L : List Em) (i k : Int) : SV := bif decide (ckE s L i k = 0) then
    (match L[i.toNat]? with | some a => bif dbB s L i.toNat a k then .tup [.lst 1 (bS (upto (othP a i.toNat k L) L.length)) false, .int .i64 0] else .tup [.lst 1 [] true, .int .i64 0] | none => .tup [.lst 1 [] true, .int .i64 0])
  else .tup [.lst 0 [] true, .int .i64 (ckE s L i k)]
theorem s11 (n : Nat) (H : Heap) (s : Sn) (L : List Em) (f : Bool) (i k : Int) (hL : L.length ≤ maxLen) : call1 T (n + 11) (.fn 11) [.agg (stC s), .agg (spC s), .lst 4 (emsS L) f, .int .i64 i, .int .i64 k] H = some (dbR s L i k, H) := by
  refine call_pure e11 (by rfl) ?_
  have h31 := fun H => s31 (n + 1) H s L f i k hL
  have h14 := fun H => s14 n H s L f i k hL
  unfold dbR
  unfold ivV at h14
  cases h0 : decide (ckE s L i k = 0) with
  | false => simp only [c11, heap0, go_sem, Int.cast_ofNat_Int, Int.reduceToNat, Bool.true_xor, Bool.false_xor, Bool.xor_true, Bool.xor_false, Nat.reduceAdd, Nat.reduceBEq, Nat.reduceLeDiff, Nat.reduceLT, Nat.reduceMul, Nat.reduceSub, Int.reduceEq, Int.reduceLT, Int.reduceLE, Int.reduceNeg, h31, h0]
  | true =>
    have h0' := of_decide_eq_true h0
    obtain ⟨hac, ⟨hi0, hi1⟩, hk0, hk1⟩ := ck_yes h0'
    obtain ⟨hok, hL48, _⟩ := sn_ok hac
    obtain ⟨j, rfl⟩ : ∃ q : Nat, i = q := ⟨i.toNat, by omega⟩
    obtain ⟨a, ha⟩ := getS (l := L) (i := j) (by omega)
    have hj : j < L.length := by omega
    rw [h0] at h14
    simp only [Int.toNat_natCast, ha, cond_true] at h14
    have h32 := fun H => U.s32 (n + 2) H s.N s.P s.W s.g1 s.g2 s.g3 s.ex s.no s.th s.S s.f1 s.F s.f2 k a.c a.x a.y s.hN s.hW s.hS s.hF
    have h32 : ∀ H, call1 T (n + 10) (.fn 32) [.agg (stC s), .agg (spC s), .int .i64 k, .int .i64 a.c, .int .i64 a.x, .int .i64 a.y] H = some (.tup [.int .i64 (ext s a k), .int .i64 (U.E3 (okSn s) (U.inB s.N.length k) (U.chanB a.c && U.ivB a.x a.y))], H) := h32
    have h33 := fun H => U.s33 (n + 2) H s.N s.P s.W s.g1 s.g2 s.g3 s.ex s.no s.th s.S s.f1 s.F s.f2 a.n k a.c a.x s.hN s.hW s.hS s.hF
    have h33 : ∀ H, call1 T (n + 10) (.fn 33) [.agg (stC s), .agg (spC s), .int .i64 a.n, .int .i64 k, .int .i64 a.c, .int .i64 a.x] H = some (.tup [.int .i64 (sig s a k), .int .i64 (U.E3 (okSn s) (G.inI s.N a.n k) (U.chanB a.c && U.tmB a.x))], H) := h33
    have h34 := fun H => s34 (n + 8) H L f j a k hL ha
    have h35 := fun H => s35 (n + 9) H (sig s a k) s.th s.no (inter s L j a k)
    have h35' := fun H => s35 (n + 9) H (sig s a k) s.th s.no (ext s a k)
    rw [hear_dec hok (sig_rng hok a k) (inter_rng hok hL48 j a k)] at h35
    rw [hear_dec hok (sig_rng hok a k) (by have := ext_rng hok a k; omega)] at h35'
    simp only [c11, heap0, go_sem, Int.cast_ofNat_Int, Int.reduceToNat, Bool.true_xor, Bool.false_xor, Bool.xor_true, Bool.xor_false, Nat.reduceAdd, Nat.reduceBEq, Nat.reduceLeDiff, Nat.reduceLT, Nat.reduceMul, Nat.reduceSub, Int.reduceEq, Int.reduceLT, Int.reduceLE, Int.reduceNeg, h31, h0', h14, h32, h33, h34, hj, ha, dbB, recB, Int.toNat_natCast]
    cases b1 : freeB L a k with
    | false => simp only [go_sem, Int.cast_ofNat_Int, Int.reduceToNat, Bool.true_xor, Bool.false_xor, Bool.xor_true, Bool.xor_false, Nat.reduceAdd, Nat.reduceBEq, Nat.reduceLeDiff, Nat.reduceLT, Nat.reduceMul, Nat.reduceSub, Int.reduceEq, Int.reduceLT, Int.reduceLE, Int.reduceNeg, b1]
    | true =>
      simp only [go_sem, Int.cast_ofNat_Int, Int.reduceToNat, Bool.true_xor, Bool.false_xor, Bool.xor_true, Bool.xor_false, Nat.reduceAdd, Nat.reduceBEq, Nat.reduceLeDiff, Nat.reduceLT, Nat.reduceMul, Nat.reduceSub, Int.reduceEq, Int.reduceLT, Int.reduceLE, Int.reduceNeg, b1, h35']
      cases b2 : hearB s (sig s a k) (ext s a k) with
      | false => simp only [go_sem, Int.cast_ofNat_Int, Int.reduceToNat, Bool.true_xor, Bool.false_xor, Bool.xor_true, Bool.xor_false, Nat.reduceAdd, Nat.reduceBEq, Nat.reduceLeDiff, Nat.reduceLT, Nat.reduceMul, Nat.reduceSub, Int.reduceEq, Int.reduceLT, Int.reduceLE, Int.reduceNeg, b2]
      | true =>
        simp only [go_sem, Int.cast_ofNat_Int, Int.reduceToNat, Bool.true_xor, Bool.false_xor, Bool.xor_true, Bool.xor_false, Nat.reduceAdd, Nat.reduceBEq, Nat.reduceLeDiff, Nat.reduceLT, Nat.reduceMul, Nat.reduceSub, Int.reduceEq, Int.reduceLT, Int.reduceLE, Int.reduceNeg, b2, h35]
        cases b3 : hearB s (sig s a k) (inter s L j a k) with
        | true => simp only [go_sem, Int.cast_ofNat_Int, Int.reduceToNat, Bool.true_xor, Bool.false_xor, Bool.xor_true, Bool.xor_false, Nat.reduceAdd, Nat.reduceBEq, Nat.reduceLeDiff, Nat.reduceLT, Nat.reduceMul, Nat.reduceSub, Int.reduceEq, Int.reduceLT, Int.reduceLE, Int.reduceNeg, b3]
        | false =>
          simp only [go_sem, Int.cast_ofNat_Int, Int.reduceToNat, Bool.true_xor, Bool.false_xor, Bool.xor_true, Bool.xor_false, Nat.reduceAdd, Nat.reduceBEq, Nat.reduceLeDiff, Nat.reduceLT, Nat.reduceMul, Nat.reduceSub, Int.reduceEq, Int.reduceLT, Int.reduceLE, Int.reduceNeg, b3]
          refine loop_rule (fun q => ([(2, .lst 4 (emsS L) f), (3, .int .i64 j), (4, .int .i64 k), (13, .slc 2 (upto (othP a j k L) q).length 0 (upto (othP a j k L) q).length), (20, .int .i64 q)],
            ⟨[.box (stC s), .box (spC s), .arr (upto (othP a j k L) q).length 1 (bS (upto (othP a j k L) q)) false], [], 0⟩)) (fun _ => True) L.length (by simp only [go_sem, Int.cast_ofNat_Int, Int.reduceToNat, Bool.true_xor, Bool.false_xor, Bool.xor_true, Bool.xor_false, Nat.reduceAdd, Nat.reduceBEq, Nat.reduceLeDiff, Nat.reduceLT, Nat.reduceMul, Nat.reduceSub, Int.reduceEq, Int.reduceLT, Int.reduceLE, Int.reduceNeg] <;> rfl) trivial ?_
          intro q hq _
          rcases Nat.lt_or_ge q L.length with hlt | hge
          · obtain ⟨x, hx⟩ := getS hlt
            have hw := w64_suc hlt hL
            have rb := room_le (n := (upto (othP a j k L) q).length) (Nat.le_trans (upto_len _ _) (by omega)) 8 (by omega)
            have gb := fun H => apB_grow 1 H 2 (upto (othP a j k L) q).length (upto (othP a j k L) q).length [[.int .i64 (q : Int)]] (bS (upto (othP a j k L) q)) (bS_len _)
            have h36 := fun H => s36 (n + 8) H L f j q a x k ha hx
            cases hb : othB a j k q x with
            | false =>
              have e1 := upto_no (p := othP a j k L) (i := q) (by simp only [othP, hx, hb])
              rw [hb] at h36
              simp only [go_sem, Int.cast_ofNat_Int, Int.reduceToNat, Bool.true_xor, Bool.false_xor, Bool.xor_true, Bool.xor_false, Nat.reduceAdd, Nat.reduceBEq, Nat.reduceLeDiff, Nat.reduceLT, Nat.reduceMul, Nat.reduceSub, Int.reduceEq, Int.reduceLT, Int.reduceLE, Int.reduceNeg, hlt, h36, hw, e1]
              exact ⟨by first | trivial | omega, by first | trivial | rfl, trivial⟩
            | true =>
              have e1 := upto_yes (p := othP a j k L) (i := q) (by simp only [othP, hx, hb])
              rw [hb] at h36
              simp only [go_sem, Int.cast_ofNat_Int, Int.reduceToNat, Bool.true_xor, Bool.false_xor, Bool.xor_true, Bool.xor_false, Nat.reduceAdd, Nat.reduceBEq, Nat.reduceLeDiff, Nat.reduceLT, Nat.reduceMul, Nat.reduceSub, Int.reduceEq, Int.reduceLT, Int.reduceLE, Int.reduceNeg, hlt, h36, rb, gb, bS_snoc, hw, e1, List.length_append]
              exact ⟨by first | trivial | omega, by first | trivial | rfl, trivial⟩
          · obtain rfl : q = L.length := by omega
            simp only [go_sem, Int.cast_ofNat_Int, Int.reduceToNat, Bool.true_xor, Bool.false_xor, Bool.xor_true, Bool.xor_false, Nat.reduceAdd, Nat.reduceBEq, Nat.reduceLeDiff, Nat.reduceLT, Nat.reduceMul, Nat.reduceSub, Int.reduceEq, Int.reduceLT, Int.reduceLE, Int.reduceNeg, show decide ((L.length : Int) < (L.length : Int)) = false from decide_eq_false (by omega)]
theorem y12 : T 12 = some stdEq := e12
theorem s12 (n : Nat) (H : Heap) (z w : Nat) (f g : Bool) (A : List Nat) (hz : z = 1 ∨ bS A = []) (hw : w = 1 ∨ bS A = []) (hA : A.length ≤ maxLen) : call1 T (n + 1) (.fn 12) [.lst z (bS A) f, .lst w (bS A) g] H = some (.bool true, H) := by
  have := stdEq_ok (T := T) (f := 12) (n := n) (H := H) (L := A.map fun (n : Nat) => (n : Int)) (M := A.map fun (n : Nat) => (n : Int)) y12 (.lst z f (hz.imp id (by rw [← bS_iS]; exact id))) (.lst w g (hw.imp id (by rw [← bS_iS]; exact id))) (by simpa using hA)
  simpa [← bS_iS] using this
theorem s12z (n : Nat) (H : Heap) (z w : Nat) (f g : Bool) : call1 T (n + 1) (.fn 12) [.lst z [] f, .lst w [] g] H = some (.bool true, H) := s12 n H z w f g [] (.inr rfl) (.inr rfl) (by simp)
abbrev snA (s : Sn) (L : List Em) (f : Bool) : List SV := [.lst 2 (G.ptsS s.N) s.g1, .lst 1 (G.intsS s.P) s.g2, .lst 5 (G.wlsS s.W) s.g3, .int .i64 s.ex, .int .i64 s.no, .int .i64 s.th, .lst 7 (U.srsS s.S) s.f1, .lst 6 (U.fdsS s.F) s.f2, .lst 4 (emsS L) f]
theorem s3 (s : Sn) (L : List Em) (f : Bool) (y : Em) (i : Int) (hL : L.length ≤ maxLen) : call1 T 41 (.fn 3) [.agg (snA s L f), .agg (emC y), .int .i64 i] heap0 = some (.bool true, heap0) := by
  refine call_pure e3 (by rfl) ?_
  have h5 := s5
  have h6 := fun H => s6 36 H s.N s.P s.W s.g1 s.g2 s.g3 s.ex s.no s.th s.S s.f1 s.F s.f2 L f s.hS.1
  cases hf : fwB s.N s.P s.W s.S s.F L with
  | false => simp only [c3, heap0, go_sem, Int.cast_ofNat_Int, Int.reduceToNat, Bool.true_xor, Bool.false_xor, Bool.xor_true, Bool.xor_false, Nat.reduceAdd, Nat.reduceBEq, Nat.reduceLeDiff, Nat.reduceLT, Nat.reduceMul, Nat.reduceSub, Int.reduceEq, Int.reduceLT, Int.reduceLE, Int.reduceNeg, h5, h6, hf]
  | true =>
    have h8 := fun H => s8 39 H L f (by have := fw_of hf; omega)
    have h7 := fun H => s7 22 H s L false y hL
    have h9 := fun H => s9 28 H s L f y hL
    have h10 := fun H => s10 21 H s L false i y.n hL
    have h11 := fun H => s11 29 H s L f i y.n hL
    unfold hrV at h7 h9
    unfold dbV at h10
    unfold dbR at h11
    have hq : ∀ A : List Nat, A.length ≤ 1000 → ∀ H, call1 T 40 (.fn 12) [.lst 1 (bS A) false, .lst 1 (bS A) false] H = some (.bool true, H) := fun A hA H => s12 39 H 1 1 false false A (.inl rfl) (.inl rfl) (Nat.le_trans hA (by decide))
    have hz := fun z w f g H => s12z 39 H z w f g
    cases h0 : decide (ckE s L i y.n = 0) with
    | false =>
      simp only [h0, cond_false] at h10 h11
      cases k0 : decide (acE (okSn s) s.N.length L = 0) with
      | false =>
        simp only [k0, cond_false] at h7 h9
        simp only [c3, heap0, go_sem, Int.cast_ofNat_Int, Int.reduceToNat, Bool.true_xor, Bool.false_xor, Bool.xor_true, Bool.xor_false, Nat.reduceAdd, Nat.reduceBEq, Nat.reduceLeDiff, Nat.reduceLT, Nat.reduceMul, Nat.reduceSub, Int.reduceEq, Int.reduceLT, Int.reduceLE, Int.reduceNeg, h5, h6, hf, h7, h8, h9, h10, h11, hz]
      | true =>
        cases k1 : decide (y.n < 0) || decide ((s.N.length : Int) ≤ y.n) with
        | true =>
          simp only [k0, k1, cond_true] at h7 h9
          simp only [c3, heap0, go_sem, Int.cast_ofNat_Int, Int.reduceToNat, Bool.true_xor, Bool.false_xor, Bool.xor_true, Bool.xor_false, Nat.reduceAdd, Nat.reduceBEq, Nat.reduceLeDiff, Nat.reduceLT, Nat.reduceMul, Nat.reduceSub, Int.reduceEq, Int.reduceLT, Int.reduceLE, Int.reduceNeg, h5, h6, hf, h7, h8, h9, h10, h11, hz]
        | false =>
          cases k2 : liB y with
          | true =>
            simp only [k0, k1, k2, cond_true, cond_false] at h7 h9
            simp only [c3, heap0, go_sem, Int.cast_ofNat_Int, Int.reduceToNat, Bool.true_xor, Bool.false_xor, Bool.xor_true, Bool.xor_false, Nat.reduceAdd, Nat.reduceBEq, Nat.reduceLeDiff, Nat.reduceLT, Nat.reduceMul, Nat.reduceSub, Int.reduceEq, Int.reduceLT, Int.reduceLE, Int.reduceNeg, h5, h6, hf, h7, h8, h9, h10, h11, hz]
          | false =>
            simp only [k0, k1, k2, cond_true, cond_false] at h7 h9
            simp only [c3, heap0, go_sem, Int.cast_ofNat_Int, Int.reduceToNat, Bool.true_xor, Bool.false_xor, Bool.xor_true, Bool.xor_false, Nat.reduceAdd, Nat.reduceBEq, Nat.reduceLeDiff, Nat.reduceLT, Nat.reduceMul, Nat.reduceSub, Int.reduceEq, Int.reduceLT, Int.reduceLE, Int.reduceNeg, h5, h6, hf, h7, h8, h9, h10, h11, hz]
    | true =>
      have h0' := of_decide_eq_true h0
      obtain ⟨hac, ⟨hi0, hi1⟩, hk0, hk1⟩ := ck_yes h0'
      obtain ⟨hok, hL48, _⟩ := sn_ok hac
      obtain ⟨j, rfl⟩ : ∃ q : Nat, i = q := ⟨i.toNat, by omega⟩
      obtain ⟨a, ha⟩ := getS (l := L) (i := j) (by omega)
      have k1 : (decide (y.n < 0) || decide ((s.N.length : Int) ≤ y.n)) = false := by rw [Bool.or_eq_false_iff, decide_eq_false_iff_not, decide_eq_false_iff_not]; omega
      have hqq := hq (upto (othP a j y.n L) L.length) (Nat.le_trans (upto_len _ _) (by omega))
      simp only [decide_eq_true hac, k1, cond_true, cond_false] at h7 h9
      simp only [h0, cond_true, Int.toNat_natCast, ha] at h10 h11
      cases k2 : liB y with
      | true =>
        simp only [k2, cond_true] at h7 h9
        cases b : dbB s L j a y.n with
        | true =>
          simp only [b, cond_true] at h10 h11
          simp only [c3, heap0, go_sem, Int.cast_ofNat_Int, Int.reduceToNat, Bool.true_xor, Bool.false_xor, Bool.xor_true, Bool.xor_false, Nat.reduceAdd, Nat.reduceBEq, Nat.reduceLeDiff, Nat.reduceLT, Nat.reduceMul, Nat.reduceSub, Int.reduceEq, Int.reduceLT, Int.reduceLE, Int.reduceNeg, h5, h6, hf, h7, h8, h9, h10, h11, hqq]
        | false =>
          simp only [b, cond_false] at h10 h11
          simp only [c3, heap0, go_sem, Int.cast_ofNat_Int, Int.reduceToNat, Bool.true_xor, Bool.false_xor, Bool.xor_true, Bool.xor_false, Nat.reduceAdd, Nat.reduceBEq, Nat.reduceLeDiff, Nat.reduceLT, Nat.reduceMul, Nat.reduceSub, Int.reduceEq, Int.reduceLT, Int.reduceLE, Int.reduceNeg, h5, h6, hf, h7, h8, h9, h10, h11, hz]
      | false =>
        simp only [k2, cond_false] at h7 h9
        cases b : dbB s L j a y.n with
        | true =>
          simp only [b, cond_true] at h10 h11
          simp only [c3, heap0, go_sem, Int.cast_ofNat_Int, Int.reduceToNat, Bool.true_xor, Bool.false_xor, Bool.xor_true, Bool.xor_false, Nat.reduceAdd, Nat.reduceBEq, Nat.reduceLeDiff, Nat.reduceLT, Nat.reduceMul, Nat.reduceSub, Int.reduceEq, Int.reduceLT, Int.reduceLE, Int.reduceNeg, h5, h6, hf, h7, h8, h9, h10, h11, hqq]
        | false =>
          simp only [b, cond_false] at h10 h11
          simp only [c3, heap0, go_sem, Int.cast_ofNat_Int, Int.reduceToNat, Bool.true_xor, Bool.false_xor, Bool.xor_true, Bool.xor_false, Nat.reduceAdd, Nat.reduceBEq, Nat.reduceLeDiff, Nat.reduceLT, Nat.reduceMul, Nat.reduceSub, Int.reduceEq, Int.reduceLT, Int.reduceLE, Int.reduceNeg, h5, h6, hf, h7, h8, h9, h10, h11, hz]
theorem s4 (s : Sn) (L : List Em) (f : Bool) (i k : Int) (hL : L.length ≤ maxLen) : call1 T 41 (.fn 4) [.agg (snA s L f), .int .i64 i, .int .i64 k] heap0 = some (.bool true, heap0) := by
  refine call_pure e4 (by rfl) ?_
  have h5 := s5
  have h6 := fun H => s6 36 H s.N s.P s.W s.g1 s.g2 s.g3 s.ex s.no s.th s.S s.f1 s.F s.f2 L f s.hS.1
  cases hf : fwB s.N s.P s.W s.S s.F L with
  | false => simp only [c4, heap0, go_sem, Int.cast_ofNat_Int, Int.reduceToNat, Bool.true_xor, Bool.false_xor, Bool.xor_true, Bool.xor_false, Nat.reduceAdd, Nat.reduceBEq, Nat.reduceLeDiff, Nat.reduceLT, Nat.reduceMul, Nat.reduceSub, Int.reduceEq, Int.reduceLT, Int.reduceLE, Int.reduceNeg, h5, h6, hf]
  | true =>
    have h8 := fun H => s8 39 H L f (by have := fw_of hf; omega)
    have h13 := fun H => s13 22 H s L false i k hL
    have h14 := fun H => s14 30 H s L f i k hL
    have h15 := fun H => s15 22 H s L false i k hL
    have h16 := fun H => s16 29 H s L f i k hL
    have h17 := fun H => s17 22 H s L false i hL
    have h18 := fun H => s18 28 H s L f i hL
    unfold ivV at h13 h14
    unfold rcV at h15 h16
    unfold rsV at h17 h18
    have hz := fun z w f g H => s12z 39 H z w f g
    have hN : s.N.length ≤ 40 := (fw_of hf).1
    have hq : ∀ a, ∀ H, call1 T 40 (.fn 12) [.lst 1 (bS (rcs s L i.toNat a)) false, .lst 1 (bS (rcs s L i.toNat a)) false] H = some (.bool true, H) := fun a H => s12 39 H 1 1 false false _ (.inl rfl) (.inl rfl) (by
      have h1 : (rcs s L i.toNat a).length ≤ s.N.length := upto_len _ _
      have : (1000 : Nat) ≤ maxLen := by decide
      omega)
    cases h0 : decide (ckE s L i k = 0) with
    | false =>
      simp only [h0, cond_false] at h13 h14 h15 h16
      cases g0 : decide (ckE s L i 0 = 0) with
      | false =>
        simp only [g0, cond_false] at h17 h18
        simp only [c4, heap0, go_sem, Int.cast_ofNat_Int, Int.reduceToNat, Bool.true_xor, Bool.false_xor, Bool.xor_true, Bool.xor_false, Nat.reduceAdd, Nat.reduceBEq, Nat.reduceLeDiff, Nat.reduceLT, Nat.reduceMul, Nat.reduceSub, Int.reduceEq, Int.reduceLT, Int.reduceLE, Int.reduceNeg, h5, h6, hf, h8, h13, h14, h15, h16, h17, h18, hz]
      | true =>
        simp only [g0, cond_true] at h17 h18
        cases ha : L[i.toNat]? with
        | none =>
          simp only [ha] at h17 h18
          simp only [c4, heap0, go_sem, Int.cast_ofNat_Int, Int.reduceToNat, Bool.true_xor, Bool.false_xor, Bool.xor_true, Bool.xor_false, Nat.reduceAdd, Nat.reduceBEq, Nat.reduceLeDiff, Nat.reduceLT, Nat.reduceMul, Nat.reduceSub, Int.reduceEq, Int.reduceLT, Int.reduceLE, Int.reduceNeg, h5, h6, hf, h8, h13, h14, h15, h16, h17, h18, bS, List.map_nil, hz]
        | some a =>
          simp only [ha] at h17 h18
          simp only [c4, heap0, go_sem, Int.cast_ofNat_Int, Int.reduceToNat, Bool.true_xor, Bool.false_xor, Bool.xor_true, Bool.xor_false, Nat.reduceAdd, Nat.reduceBEq, Nat.reduceLeDiff, Nat.reduceLT, Nat.reduceMul, Nat.reduceSub, Int.reduceEq, Int.reduceLT, Int.reduceLE, Int.reduceNeg, h5, h6, hf, h8, h13, h14, h15, h16, h17, h18, hq]
    | true =>
      simp only [h0, cond_true] at h13 h14 h15 h16
      cases g0 : decide (ckE s L i 0 = 0) with
      | false =>
        simp only [g0, cond_false] at h17 h18
        simp only [c4, heap0, go_sem, Int.cast_ofNat_Int, Int.reduceToNat, Bool.true_xor, Bool.false_xor, Bool.xor_true, Bool.xor_false, Nat.reduceAdd, Nat.reduceBEq, Nat.reduceLeDiff, Nat.reduceLT, Nat.reduceMul, Nat.reduceSub, Int.reduceEq, Int.reduceLT, Int.reduceLE, Int.reduceNeg, h5, h6, hf, h8, h13, h14, h15, h16, h17, h18, hz]
      | true =>
        simp only [g0, cond_true] at h17 h18
        cases ha : L[i.toNat]? with
        | none =>
          simp only [ha] at h13 h14 h15 h16 h17 h18
          simp only [c4, heap0, go_sem, Int.cast_ofNat_Int, Int.reduceToNat, Bool.true_xor, Bool.false_xor, Bool.xor_true, Bool.xor_false, Nat.reduceAdd, Nat.reduceBEq, Nat.reduceLeDiff, Nat.reduceLT, Nat.reduceMul, Nat.reduceSub, Int.reduceEq, Int.reduceLT, Int.reduceLE, Int.reduceNeg, h5, h6, hf, h8, h13, h14, h15, h16, h17, h18, bS, List.map_nil, hz]
        | some a =>
          simp only [ha] at h13 h14 h15 h16 h17 h18
          simp only [c4, heap0, go_sem, Int.cast_ofNat_Int, Int.reduceToNat, Bool.true_xor, Bool.false_xor, Bool.xor_true, Bool.xor_false, Nat.reduceAdd, Nat.reduceBEq, Nat.reduceLeDiff, Nat.reduceLT, Nat.reduceMul, Nat.reduceSub, Int.reduceEq, Int.reduceLT, Int.reduceLE, Int.reduceNeg, h5, h6, hf, h8, h13, h14, h15, h16, h17, h18, hq]
theorem sn_of {x : SV} (h : FitsA scD x) : ∃ s L f, x = .agg (snA s L f) ∧ L.length ≤ maxLen := by
  obtain ⟨cs, rfl, k⟩ := fitsA_agg h
  obtain ⟨L1, f1, _, rfl, m1, a1, k⟩ := fitsL_l k
  obtain ⟨L2, f2, _, rfl, m2, a2, k⟩ := fitsL_l k
  obtain ⟨L3, f3, _, rfl, m3, a3, k⟩ := fitsL_l k
  obtain ⟨ex, _, rfl, _, k⟩ := fitsL_i k
  obtain ⟨no, _, rfl, _, k⟩ := fitsL_i k
  obtain ⟨th, _, rfl, _, k⟩ := fitsL_i k
  obtain ⟨L4, f4, _, rfl, m4, a4, k⟩ := fitsL_l k
  obtain ⟨L5, f5, _, rfl, m5, a5, k⟩ := fitsL_l k
  obtain ⟨L6, f6, _, rfl, m6, a6, k⟩ := fitsL_l k
  cases fitsL_nil' k
  obtain ⟨N, rfl⟩ := pts_of a1
  obtain ⟨P, rfl⟩ := intsG_of a2
  obtain ⟨W, rfl⟩ := wls_of a3
  obtain ⟨S, rfl, hS⟩ := srs_of a4
  obtain ⟨F, rfl⟩ := fds_of a5
  obtain ⟨L, rfl⟩ := ems_of a6
  exact ⟨⟨N, P, W, f1, f2, f3, ex, no, th, S, f4, F, f5, by simpa [G.ptsS] using m1, by simpa [G.intsS] using m2, by simpa [G.wlsS] using m3, ⟨by simpa [U.srsS] using m4, hS⟩, by simpa [U.fdsS] using m5⟩, L, f6, rfl, by simpa [emsS] using m6⟩
theorem law3 (xs : List SV) (h : FitsAll [scD, emD, (false, [.int .i64])] xs) : ∃ m, call1 T m (.fn 3) xs heap0 = some (.bool true, heap0) := by
  obtain ⟨x1, r1, rfl, h1, h⟩ := fitsAll_cons h
  obtain ⟨x2, r2, rfl, h2, h⟩ := fitsAll_cons h
  obtain ⟨x3, r3, rfl, h3, h⟩ := fitsAll_cons h
  cases fitsAll_nil h
  obtain ⟨s, L, f, rfl, hL⟩ := sn_of h1
  obtain ⟨y, rfl⟩ := em_of h2
  obtain ⟨k, rfl, _⟩ := fits_int (fitsA_one h3)
  exact ⟨41, s3 s L f y k hL⟩
theorem law4 (xs : List SV) (h : FitsAll [scD, (false, [.int .i64]), (false, [.int .i64])] xs) : ∃ m, call1 T m (.fn 4) xs heap0 = some (.bool true, heap0) := by
  obtain ⟨x1, r1, rfl, h1, h⟩ := fitsAll_cons h
  obtain ⟨x2, r2, rfl, h2, h⟩ := fitsAll_cons h
  obtain ⟨x3, r3, rfl, h3, h⟩ := fitsAll_cons h
  cases fitsAll_nil h
  obtain ⟨s, L, f, rfl, hL⟩ := sn_of h1
  obtain ⟨i, rfl, _⟩ := fits_int (fitsA_one h2)
  obtain ⟨k, rfl, _⟩ := fits_int (fitsA_one h3)
  exact ⟨41, s4 s L f i k hL⟩
end Go.Sh
