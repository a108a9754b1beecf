

import Derived.Test.YtcfgikdpokjhpaaGreatC3
namespace Go.Sh
set_option linter.unusedSectionVars false
set_option linter.unnecessarySimpa false
set_option linter.unusedVariables false
set_option linter.unusedSimpArgs false
set_option maxRecDepth 100000
set_option maxHeartbeats 4000000
namespace C13
def tblS : List SV := tbl.map fun w => .int .u16 w.toNat
@[go_sem] theorem tblS_len : tblS.length = 16 := by rfl
theorem tblS_get (i : Nat) : tblS[i]? = (tbl[i]?).map fun w => .int .u16 w.toNat := by simp [tblS]
theorem s234 (n : Nat) (H : Heap) : call1 T (n + 3) (.fn 234) [] H = some (.agg tblS, H) := pure_any e234 (by rfl) (callB_up (T := T) 100 (n + 3) (.fn 234) [] heap0 (.agg tblS, heap0) (by kernel_rfl))
def stp (c : W16) (b : Nat) : W16 := t4 (t4 (c ^^^ (BitVec.ofNat 16 b <<< 8)))
def upd (c : W16) (s : ByteArray) : Nat → W16
  | 0 => c
  | i + 1 => stp (upd c s i) ((s.data[i]?).getD 0).toNat
theorem nib_a : ∀ v : Fin 16, ((BitVec.ofNat 16 v : W16) <<< 12) >>> 12 = BitVec.ofNat 16 v := by decide
theorem nib_b : ∀ v : Fin 16, ((BitVec.ofNat 16 v : W16) <<< 12) <<< 4 = 0#16 := by decide
theorem nib_c : ∀ v : Fin 16, t4 ((BitVec.ofNat 16 v : W16) <<< 8) = BitVec.ofNat 16 v <<< 12 := by decide
theorem nib_d : ∀ b : Fin 256, ((BitVec.ofNat 16 (b / 16) : W16) <<< 12) ^^^ (BitVec.ofNat 16 (b % 16) <<< 8) = BitVec.ofNat 16 b <<< 8 := by decide +kernel
theorem nib (c : W16) {v : Nat} (hv : v < 16) : tbl[((c >>> 12) ^^^ BitVec.ofNat 16 v).toNat]? = some (t4 (c ^^^ (BitVec.ofNat 16 v <<< 12)) ^^^ (c <<< 4)) := by
  have h := t4_tbl (c ^^^ (BitVec.ofNat 16 v <<< 12))
  rw [BitVec.ushiftRight_xor_distrib, BitVec.shiftLeft_xor_distrib, nib_a ⟨v, hv⟩, nib_b ⟨v, hv⟩, BitVec.xor_zero] at h
  exact h
theorem stp_eq (c : W16) {b : Nat} (hb : b < 256) : stp c b = t4 (t4 (c ^^^ (BitVec.ofNat 16 (b / 16) <<< 12)) ^^^ (BitVec.ofNat 16 (b % 16) <<< 12)) := by
  unfold stp
  rw [← nib_c ⟨b % 16, by omega⟩, ← t4_xor, BitVec.xor_assoc, nib_d ⟨b, hb⟩]
theorem wrapW {n : Int} : IntKind.u16.wrap n = n % 65536 := by simp [IntKind.wrap, IntKind.bits, IntKind.signed]
theorem shlW (C : W16) (k : Nat) (hk : k ≤ 16) : IntKind.u16.wrap ((C.toNat : Int) * 2 ^ min k 16) = ((C <<< k).toNat : Nat) := by
  have h : ((C.toNat : Int) * 2 ^ k) = ((C.toNat * 2 ^ k : Nat) : Int) := by rw [Int.natCast_mul, Int.natCast_pow]; rfl
  rw [Nat.min_eq_left hk, wrapW, h, BitVec.toNat_shiftLeft, Nat.shiftLeft_eq]
  omega
theorem shrW (C : W16) (k : Nat) (hk : k ≤ 16) : ((C.toNat : Int)).fdiv (2 ^ min k 16) = ((C >>> k).toNat : Nat) := by
  rw [Nat.min_eq_left hk, fdiv_nat, BitVec.toNat_ushiftRight, Nat.shiftRight_eq_div_pow]
theorem ofW (C : W16) : (BitVec.ofInt 16 (C.toNat : Int)) = C := by
  apply BitVec.eq_of_toNat_eq
  rw [BitVec.toNat_ofInt]
  have := C.isLt
  omega
def xorI (a b : Int) : Int := IntKind.u16.wrap ((BitVec.ofInt 16 a ^^^ BitVec.ofInt 16 b).toNat)
@[go_sem high] theorem sb_xor16 (a b : Int) : sbin .xor (.int .u16 a) (.int .u16 b) = some (.int .u16 (xorI a b)) := by
  simp only [sbin, beq_self_eq_true, cond_true]; rfl
def andI8 (a b : Int) : Int := IntKind.u8.wrap ((BitVec.ofInt 8 a &&& BitVec.ofInt 8 b).toNat)
@[go_sem high] theorem sb_and8 (a b : Int) : sbin .and (.int .u8 a) (.int .u8 b) = some (.int .u8 (andI8 a b)) := by
  simp only [sbin, beq_self_eq_true, cond_true]; rfl
theorem xorW (A B : W16) : xorI (A.toNat : Int) (B.toNat : Int) = ((A ^^^ B).toNat : Nat) := by
  unfold xorI
  rw [ofW, ofW, wrapW]
  have := (A ^^^ B).isLt
  omega
theorem and15 {b : Nat} (hb : b < 256) : andI8 b 15 = ((b % 16 : Nat) : Int) := by
  unfold andI8
  have h3 : (BitVec.ofInt 8 15).toNat = 15 := by decide
  rw [BitVec.toNat_and, ofInt_nat8 _ hb, h3, Nat.and_two_pow_sub_one_eq_mod b 4]
  exact wrap8 (by omega) (by omega)
theorem toW {v : Nat} (h : v < 65536) : (v : Int) = ((BitVec.ofNat 16 v : W16).toNat : Nat) := by
  rw [BitVec.toNat_ofNat]; omega
theorem s222 (n : Nat) (H : Heap) (s : ByteArray) (hs : s.size ≤ 1000) : call1 T (n + 4) (.fn 222) [.int .u16 0, .str s] H = some (.int .u16 ((upd 0#16 s s.size).toNat : Nat), H) := by
  refine call_pure e222 (by rfl) ?_
  have h := fun H => s234 n H
  simp only [c222, heap0, go_sem, Int.reduceToNat, Nat.reduceAdd, Nat.reduceBEq, Nat.reduceLeDiff, Nat.reduceLT, Nat.reduceMul, Nat.reduceSub, Int.reduceEq, Int.reduceLT, Int.reduceLE, Int.reduceNeg, h]
  refine loop_rule (fun i => ([(0, .int .u16 ((upd 0#16 s i).toNat : Nat)), (1, .str s), (5, .ptr 0 0 0 0), (9, .int .i64 s.size), (10, .int .i64 i)], ⟨[.box tblS], [], 0⟩)) (fun _ => True) s.size ?_ trivial ?_
  · simp only [go_sem, Int.reduceToNat, Nat.reduceAdd, Nat.reduceBEq, Nat.reduceLeDiff, Nat.reduceLT, Nat.reduceMul, Nat.reduceSub, Int.reduceEq, Int.reduceLT, Int.reduceLE, Int.reduceNeg] <;> rfl
  · intro i hi _
    rcases Nat.lt_or_ge i s.size with hlt | hge
    · have hs2 := w64_suc hlt (Nat.le_trans hs (by decide))
      have hd : s.data[i]? = some s.data[i] := Array.getElem?_eq_getElem (by exact hlt)
      have hu : upd 0#16 s (i + 1) = stp (upd 0#16 s i) s.data[i].toNat := by simp only [upd, hd, Option.getD_some]
      have hv := UInt8.toNat_lt s.data[i]
      obtain ⟨C, hC⟩ : ∃ C, upd 0#16 s i = C := ⟨_, rfl⟩
      obtain ⟨b, hb⟩ : ∃ b, s.data[i].toNat = b := ⟨_, rfl⟩
      rw [hC, hb] at hu
      rw [hb] at hv
      have e1 : IntKind.u16.wrap (((b : Int)).fdiv (2 ^ min 4 8)) = ((BitVec.ofNat 16 (b / 16) : W16).toNat : Nat) := by
        rw [show min 4 8 = 4 from rfl, fdiv_nat, wrapW, ← toW (by omega)]; omega
      have e2 : IntKind.u16.wrap ((b % 16 : Nat) : Int) = ((BitVec.ofNat 16 (b % 16) : W16).toNat : Nat) := by
        rw [wrapW, ← toW (by omega)]; omega
      have e3 := and15 hv
      have q1 := nib C (v := b / 16) (by omega)
      have l1 : ((C >>> 12) ^^^ BitVec.ofNat 16 (b / 16)).toNat < 16 := by
        have := List.getElem?_eq_some_iff.1 q1
        exact this.1
      obtain ⟨C1, hC1⟩ : ∃ C1, t4 (C ^^^ (BitVec.ofNat 16 (b / 16) <<< 12)) = C1 := ⟨_, rfl⟩
      have q2 := nib C1 (v := b % 16) (by omega)
      have l2 : ((C1 >>> 12) ^^^ BitVec.ofNat 16 (b % 16)).toNat < 16 := by
        have := List.getElem?_eq_some_iff.1 q2
        exact this.1
      have hst : stp C b = t4 (C1 ^^^ (BitVec.ofNat 16 (b % 16) <<< 12)) := by rw [stp_eq C hv, hC1]
      rw [hC1] at q1
      have x1 : (C <<< 4) ^^^ (C1 ^^^ (C <<< 4)) = C1 := by rw [show (C <<< 4) ^^^ (C1 ^^^ (C <<< 4)) = C1 ^^^ ((C <<< 4) ^^^ (C <<< 4)) by ac_rfl, BitVec.xor_self, BitVec.xor_zero]
      have x2 : (C1 <<< 4) ^^^ (t4 (C1 ^^^ (BitVec.ofNat 16 (b % 16) <<< 12)) ^^^ (C1 <<< 4)) = stp C b := by
        rw [hst, show ∀ P Q : W16, P ^^^ (Q ^^^ P) = Q ^^^ (P ^^^ P) from fun P Q => by ac_rfl, BitVec.xor_self, BitVec.xor_zero]
      have d1 : ∀ n : Nat, n < 16 → decide ((n : Int) < 16) = true := fun n h => decide_eq_true (by omega)
      have d1 := d1 _ l1
      have d2 : decide (((((C1 >>> 12) ^^^ BitVec.ofNat 16 (b % 16)).toNat : Nat) : Int) < 16) = true := decide_eq_true (by omega)
      have s1 := fun C => shlW C 4 (by omega)
      have s2 := fun C => shrW C 12 (by omega)
      have hm : decide (max 0 (max 0 (max 1 0)) ≤ 1) = true := by decide
      simp only [go_sem, Int.reduceToNat, Nat.reduceAdd, Nat.reduceBEq, Nat.reduceLeDiff, Nat.reduceLT, Nat.reduceMul, Nat.reduceSub, Int.reduceEq, Int.reduceLT, Int.reduceLE, Int.reduceNeg, hlt, hd, hs2, hC, hb, hu, e1, e2, e3, s1, s2, xorW, d1, d2, Int.toNat_natCast, Nat.mul_one, tblS_get, q1, q2, x1, x2, hm]
      exact ⟨trivial, trivial, trivial⟩
    · obtain rfl : i = s.size := by omega
      have hd : decide (s.size < s.size) = false := decide_eq_false (by omega)
      simp only [go_sem, Int.reduceToNat, Nat.reduceAdd, Nat.reduceBEq, Nat.reduceLeDiff, Nat.reduceLT, Nat.reduceMul, Nat.reduceSub, Int.reduceEq, Int.reduceLT, Int.reduceLE, Int.reduceNeg, hd]
end C13
end Go.Sh
namespace Go.Sh
set_option linter.unusedSectionVars false
set_option linter.unnecessarySimpa false
set_option linter.unusedVariables false
set_option linter.unusedSimpArgs false
set_option maxRecDepth 100000
set_option maxHeartbeats 4000000
namespace C13
def crcN (s : ByteArray) : W16 := upd 0#16 s s.size
def cr2 (C : W16) : ByteArray := ⟨#[UInt8.ofNat (C.toNat / 256), UInt8.ofNat (C.toNat % 256)]⟩
def prot (s : ByteArray) : ByteArray := s ++ cr2 (crcN s)
theorem cr2_size (C : W16) : (cr2 C).size = 2 := by rfl
theorem prot_size (s : ByteArray) : (prot s).size = s.size + 2 := by rw [prot, ByteArray.size_append, cr2_size]
theorem u8_hi (C : W16) : IntKind.u8.wrap ((C.toNat : Int).fdiv (2 ^ min 8 16)) = ((C.toNat / 256 : Nat) : Int) := by
  have := C.isLt
  rw [show min 8 16 = 8 from rfl, fdiv_nat]
  exact wrap8 (by omega) (by omega)
theorem u8_lo (C : W16) : IntKind.u8.wrap (C.toNat : Int) = ((C.toNat % 256 : Nat) : Int) := by
  have e : ∀ n : Int, IntKind.u8.wrap n = n % 256 := fun n => by simp [IntKind.wrap, IntKind.bits, IntKind.signed]
  rw [e]; omega
theorem toB_cons {n : Nat} (L : List (List SV)) : toBytes ([.int .u8 (n : Int)] :: L) = (toBytes L).map (fun l => UInt8.ofNat n :: l) := by
  simp only [toBytes, Int.toNat_natCast]
theorem toB_nil : toBytes [] = some [] := rfl
theorem s203 (n : Nat) (H : Heap) (s : ByteArray) (hs : s.size ≤ 1000) : call1 T (n + 5) (.fn 203) [.str s] H = some (.int .u16 ((crcN s).toNat : Nat), H) := by
  refine call_pure e203 (by rfl) ?_
  simp only [c203, heap0, go_sem, Int.reduceToNat, Nat.reduceAdd, Nat.reduceBEq, Nat.reduceLeDiff, Nat.reduceLT, Nat.reduceMul, Nat.reduceSub, Int.reduceEq, Int.reduceLT, Int.reduceLE, Int.reduceNeg, s222 _ _ _ hs, crcN]
theorem s178 (n : Nat) (H : Heap) (s : ByteArray) (hs : s.size ≤ 1000) : call1 T (n + 6) (.fn 178) [.str s] H = some (.str (prot s), H) := by
  refine call_pure e178 (by rfl) ?_
  obtain ⟨C, hC⟩ : ∃ C, crcN s = C := ⟨_, rfl⟩
  have h : ∀ H, call1 T (n + 5) (.fn 203) [.str s] H = some (.int .u16 (C.toNat : Nat), H) := fun H => hC ▸ s203 n H s hs
  have hz : decide (s.size + #[UInt8.ofNat (C.toNat / 256), UInt8.ofNat (C.toNat % 256)].size ≤ 4611686018427387904) = true := decide_eq_true (show s.size + 2 ≤ 4611686018427387904 by omega)
  simp only [c178, heap0, go_sem, Int.reduceToNat, Nat.reduceAdd, Nat.reduceBEq, Nat.reduceLeDiff, Nat.reduceLT, Nat.reduceMul, Nat.reduceSub, Int.reduceEq, Int.reduceLT, Int.reduceLE, Int.reduceNeg, h, u8_hi, u8_lo, prot, hC, cr2, toB_cons, toB_nil, Option.map_some, hz]
def pkB (bs : List Bool) : ByteArray := ⟨((List.range (nb bs.length)).map fun j => UInt8.ofNat (byteN bs j)).toArray⟩
theorem pkB_size (bs : List Bool) : (pkB bs).size = nb bs.length := by simp [pkB, ByteArray.size]
theorem toB_map (f : Nat → Nat) : ∀ l : List Nat, toBytes (l.map fun j => [.int .u8 (f j : Nat)]) = some (l.map fun j => UInt8.ofNat (f j))
  | [] => rfl
  | a :: l => by rw [List.map_cons, toB_cons, toB_map f l]; rfl
theorem toB_pkS (bs : List Bool) : toBytes (pkS bs) = some ((List.range (nb bs.length)).map fun j => UInt8.ofNat (byteN bs j)) := toB_map _ _
theorem s177 (n : Nat) (b0 : SBlk) (tl : List SBlk) (es : List (Nat × Nat)) (bs : List Bool) : call1 T (n + 1) (.fn 177) [.ptr 1 0 0 0] (wH b0 bs tl es) = some (.tup [.str (pkB bs), .int .i64 0], wH b0 bs tl es) := by
  refine call_in e177 (by rfl) ?_
  have l0 : decide (0 < tl.length + 1 + 1 + 1) = true := decide_eq_true (by omega)
  have l3 : decide (3 ≤ tl.length + 1 + 1 + 1) = true := decide_eq_true (by omega)
  have ht : List.take (nb bs.length) (pkS bs) = pkS bs := List.take_of_length_le (by rw [pkS_len]; exact Nat.le_refl _)
  have hl : decide (nb bs.length ≤ (pkS bs).length) = true := decide_eq_true (by rw [pkS_len]; exact Nat.le_refl _)
  have hl2 : decide (nb bs.length ≤ nb bs.length) = true := decide_eq_true (Nat.le_refl _)
  simp only [c177, go_sem, Int.reduceToNat, Nat.reduceAdd, Nat.reduceBEq, Nat.reduceLeDiff, Nat.reduceLT, Nat.reduceMul, Nat.reduceSub, Int.reduceEq, Int.reduceLT, Int.reduceLE, Int.reduceNeg, l0, l3, ht, hl, hl2, toB_pkS, pkB]
  trace_state
end C13
end Go.Sh
namespace Go.Sh
set_option linter.unusedSectionVars false
set_option linter.unnecessarySimpa false
set_option linter.unusedVariables false
set_option linter.unusedSimpArgs false
set_option maxRecDepth 100000
set_option maxHeartbeats 4000000
namespace C13
abbrev wE (bs : List Bool) : SBlk := .box [.slc 2 (nb bs.length) 0 (nb bs.length), .int .i64 bs.length, .int .i64 8]
abbrev wX (b0 : SBlk) (bs : List Bool) (tl : List SBlk) (es : List (Nat × Nat)) : Heap := ⟨b0 :: wE bs :: wA bs :: tl, es, 0⟩
section
variable (b0 : SBlk) (tl : List SBlk) (es : List (Nat × Nat)) (bs : List Bool)
theorem s93e (n : Nat) (x : ByteArray) (hx : 127 < x.size) :
    call1 T (n + 4) (.fn 229) [.ptr 1 0 0 0, .int .i64 127, .str x] (wH b0 bs tl es) = some (.tup [], wX b0 bs tl es) := by
  refine call_in e229 (by rfl) ?_
  have h101 := fun H => s239 (n + 2) H 127
  have x1 : decide ((127 : Int) < (x.size : Int)) = true := decide_eq_true (by omega)
  have l0 : decide (0 < tl.length + 1 + 1 + 1) = true := decide_eq_true (by omega)
  have l1 : decide (1 < tl.length + 1 + 1 + 1) = true := decide_eq_true (by omega)
  have l2 : decide (2 < tl.length + 1 + 1 + 1) = true := decide_eq_true (by omega)
  have l3' : decide (tl.length + 1 + 1 + 1 < 3) = false := decide_eq_false (by omega)
  have l3 : decide (3 ≤ tl.length + 1 + 1 + 1) = true := decide_eq_true (by omega)
  simp only [c229, go_sem, Int.reduceToNat, Nat.reduceAdd, Nat.reduceBEq, Nat.reduceLeDiff, Nat.reduceLT, Nat.reduceMul, Nat.reduceSub, Int.reduceEq, Int.reduceLT, Int.reduceLE, Int.reduceNeg, h101, x1, l0, l1, l2, l3, l3', List.filter_replicate, List.all_replicate, ite_self, if_true]
theorem s28e (n : Nat) : call1 T (n + 1) (.fn 177) [.ptr 1 0 0 0] (wX b0 bs tl es) = some (.tup [.str ⟨#[]⟩, .int .i64 8], wX b0 bs tl es) := by
  refine call_in e177 (by rfl) ?_
  have l3 : decide (3 ≤ tl.length + 1 + 1 + 1) = true := decide_eq_true (by omega)
  simp only [c177, go_sem, Int.reduceToNat, Nat.reduceAdd, Nat.reduceBEq, Nat.reduceLeDiff, Nat.reduceLT, Nat.reduceMul, Nat.reduceSub, Int.reduceEq, Int.reduceLT, Int.reduceLE, Int.reduceNeg, l3]
end
section
variable (n : Nat) (cs : List SV) (t1 t2 t3 : SBlk) (es : List (Nat × Nat)) (bs : List Bool)
theorem s82e (x : ByteArray) (j : Nat) (hj : cs[j]? = some (.str x)) (hx : 127 < x.size) :
    call1 T (n + 5) (.fn 215) [pW, .ptr 0 0 0 j] (wH (.box cs) bs [t1, t2, t3] es) = some (.tup [], wX (.box cs) bs [t1, t2, t3] es) := by
  refine call_in e215 (by rfl) ?_
  have h := fun t es => s93e (.box cs) [t1, t2, t3, t] es bs n x hx
  simp only [c215, go_sem, Int.reduceToNat, Nat.reduceAdd, Nat.reduceBEq, Nat.reduceLeDiff, Nat.reduceLT, Nat.reduceMul, Nat.reduceSub, Int.reduceEq, Int.reduceLT, Int.reduceLE, Int.reduceNeg, h, hj, List.length_cons, List.length_nil, List.filter_replicate, List.all_replicate, List.filter_append, List.all_append, Bool.and_self, List.append_assoc, ite_self, if_true]
theorem s57e (k s d q o c m e t u v : Int) (x : ByteArray) (hc : 0 ≤ c ∧ c ≤ 255) (hm : 0 ≤ m ∧ m ≤ 65535) (hx : 127 < x.size) (hb : bs.length ≤ 900) :
    call1 T (n + 6) (.fn 197) [pW, .ptr 0 0 0 0] (wH (.box (fr k s d q o c m e t u v x)) bs [t1, t2] es) = some (.tup [], wX (.box (fr k s d q o c m e t u v x)) (bs ++ (bits 8 c.toNat ++ (bits 16 m.toNat))) [t1, t2] (es ++ ek bs 24)) := by
  refine call_in e197 (by rfl) ?_
  have h0 : ∀ t' es, call1 T (n + 5) (.fn 201) [pW, .int .i64 8, .ptr 0 0 0 5] (wH (.box (fr k s d q o c m e t u v x)) bs [t1, t2, t'] es) = some (.tup [], wH (.box (fr k s d q o c m e t u v x)) (bs ++ (bits 8 c.toNat)) [t1, t2, t'] (es ++ ek bs 8)) := fun t' es => by
    have := s61b (n + 1) _ t1 t2 t' es bs 8 c.toNat 5 (show (fr k s d q o c m e t u v x)[5]? = _ by rw [Int.toNat_of_nonneg hc.1]; rfl) (by omega) (by omega) (by omega) (by omega)
    try simp only [List.append_assoc] at this
    exact this
  have l0 : (bs ++ (bits 8 c.toNat)).length = bs.length + 8 := by simp only [List.length_append, bits_len] <;> omega
  have h1 : ∀ t' es, call1 T (n + 5) (.fn 201) [pW, .int .i64 16, .ptr 0 0 0 6] (wH (.box (fr k s d q o c m e t u v x)) (bs ++ (bits 8 c.toNat)) [t1, t2, t'] es) = some (.tup [], wH (.box (fr k s d q o c m e t u v x)) (bs ++ (bits 8 c.toNat ++ (bits 16 m.toNat))) [t1, t2, t'] (es ++ ek (bs ++ (bits 8 c.toNat)) 16)) := fun t' es => by
    have := s61b (n + 1) _ t1 t2 t' es (bs ++ (bits 8 c.toNat)) 16 m.toNat 6 (show (fr k s d q o c m e t u v x)[6]? = _ by rw [Int.toNat_of_nonneg hm.1]; rfl) (by omega) (by omega) (by omega) (by rw [l0]; omega)
    try simp only [List.append_assoc] at this
    exact this
  have l1 : (bs ++ (bits 8 c.toNat ++ (bits 16 m.toNat))).length = bs.length + 24 := by simp only [List.length_append, bits_len] <;> omega
  have hT : ∀ t' es, call1 T (n + 5) (.fn 215) [pW, .ptr 0 0 0 11] (wH (.box (fr k s d q o c m e t u v x)) (bs ++ (bits 8 c.toNat ++ (bits 16 m.toNat))) [t1, t2, t'] es) = some (.tup [], wX (.box (fr k s d q o c m e t u v x)) (bs ++ (bits 8 c.toNat ++ (bits 16 m.toNat))) [t1, t2, t'] es) := fun t' es => s82e n (fr k s d q o c m e t u v x) t1 t2 t' es (bs ++ (bits 8 c.toNat ++ (bits 16 m.toNat))) x 11 rfl hx
  have hk : ek bs 24 = ek bs 8 ++ ek (bs ++ (bits 8 c.toNat)) 16 := by rw [ek_add l0]
  try simp only [List.append_assoc] at hk
  rw [hk]
  simp only [c197, go_sem, Int.reduceToNat, Nat.reduceAdd, Nat.reduceBEq, Nat.reduceLeDiff, Nat.reduceLT, Nat.reduceMul, Nat.reduceSub, Int.reduceEq, Int.reduceLT, Int.reduceLE, Int.reduceNeg, h0, h1, hT, List.length_cons, List.length_nil, List.filter_replicate, List.all_replicate, List.filter_append, List.all_append, Bool.and_self, List.append_assoc, ite_self, if_true]
theorem s59e (k s d q o c m e t u v : Int) (x : ByteArray) (ht : 0 ≤ t ∧ t ≤ 109951162) (hu : 0 ≤ u ∧ u ≤ 65535) (hv : 0 ≤ v ∧ v ≤ 65535) (hx : 127 < x.size) (hb : bs.length ≤ 900) :
    call1 T (n + 6) (.fn 199) [pW, .ptr 0 0 0 0] (wH (.box (fr k s d q o c m e t u v x)) bs [t1, t2] es) = some (.tup [], wX (.box (fr k s d q o c m e t u v x)) (bs ++ (bits 27 t.toNat ++ (bits 16 u.toNat ++ (bits 16 v.toNat)))) [t1, t2] (es ++ ek bs 59)) := by
  refine call_in e199 (by rfl) ?_
  have h0 : ∀ t' es, call1 T (n + 5) (.fn 201) [pW, .int .i64 27, .ptr 0 0 0 8] (wH (.box (fr k s d q o c m e t u v x)) bs [t1, t2, t'] es) = some (.tup [], wH (.box (fr k s d q o c m e t u v x)) (bs ++ (bits 27 t.toNat)) [t1, t2, t'] (es ++ ek bs 27)) := fun t' es => by
    have := s61b (n + 1) _ t1 t2 t' es bs 27 t.toNat 8 (show (fr k s d q o c m e t u v x)[8]? = _ by rw [Int.toNat_of_nonneg ht.1]; rfl) (by omega) (by omega) (by omega) (by omega)
    try simp only [List.append_assoc] at this
    exact this
  have l0 : (bs ++ (bits 27 t.toNat)).length = bs.length + 27 := by simp only [List.length_append, bits_len] <;> omega
  have h1 : ∀ t' es, call1 T (n + 5) (.fn 201) [pW, .int .i64 16, .ptr 0 0 0 9] (wH (.box (fr k s d q o c m e t u v x)) (bs ++ (bits 27 t.toNat)) [t1, t2, t'] es) = some (.tup [], wH (.box (fr k s d q o c m e t u v x)) (bs ++ (bits 27 t.toNat ++ (bits 16 u.toNat))) [t1, t2, t'] (es ++ ek (bs ++ (bits 27 t.toNat)) 16)) := fun t' es => by
    have := s61b (n + 1) _ t1 t2 t' es (bs ++ (bits 27 t.toNat)) 16 u.toNat 9 (show (fr k s d q o c m e t u v x)[9]? = _ by rw [Int.toNat_of_nonneg hu.1]; rfl) (by omega) (by omega) (by omega) (by rw [l0]; omega)
    try simp only [List.append_assoc] at this
    exact this
  have l1 : (bs ++ (bits 27 t.toNat ++ (bits 16 u.toNat))).length = bs.length + 43 := by simp only [List.length_append, bits_len] <;> omega
  have h2 : ∀ t' es, call1 T (n + 5) (.fn 201) [pW, .int .i64 16, .ptr 0 0 0 10] (wH (.box (fr k s d q o c m e t u v x)) (bs ++ (bits 27 t.toNat ++ (bits 16 u.toNat))) [t1, t2, t'] es) = some (.tup [], wH (.box (fr k s d q o c m e t u v x)) (bs ++ (bits 27 t.toNat ++ (bits 16 u.toNat ++ (bits 16 v.toNat)))) [t1, t2, t'] (es ++ ek (bs ++ (bits 27 t.toNat ++ (bits 16 u.toNat))) 16)) := fun t' es => by
    have := s61b (n + 1) _ t1 t2 t' es (bs ++ (bits 27 t.toNat ++ (bits 16 u.toNat))) 16 v.toNat 10 (show (fr k s d q o c m e t u v x)[10]? = _ by rw [Int.toNat_of_nonneg hv.1]; rfl) (by omega) (by omega) (by omega) (by rw [l1]; omega)
    try simp only [List.append_assoc] at this
    exact this
  have l2 : (bs ++ (bits 27 t.toNat ++ (bits 16 u.toNat ++ (bits 16 v.toNat)))).length = bs.length + 59 := by simp only [List.length_append, bits_len] <;> omega
  have hT : ∀ t' es, call1 T (n + 5) (.fn 215) [pW, .ptr 0 0 0 11] (wH (.box (fr k s d q o c m e t u v x)) (bs ++ (bits 27 t.toNat ++ (bits 16 u.toNat ++ (bits 16 v.toNat)))) [t1, t2, t'] es) = some (.tup [], wX (.box (fr k s d q o c m e t u v x)) (bs ++ (bits 27 t.toNat ++ (bits 16 u.toNat ++ (bits 16 v.toNat)))) [t1, t2, t'] es) := fun t' es => s82e n (fr k s d q o c m e t u v x) t1 t2 t' es (bs ++ (bits 27 t.toNat ++ (bits 16 u.toNat ++ (bits 16 v.toNat)))) x 11 rfl hx
  have hk : ek bs 59 = ek bs 27 ++ ek (bs ++ (bits 27 t.toNat)) 16 ++ ek (bs ++ (bits 27 t.toNat ++ (bits 16 u.toNat))) 16 := by rw [ek_add l0, ek_add l1]
  try simp only [List.append_assoc] at hk
  rw [hk]
  simp only [c199, go_sem, Int.reduceToNat, Nat.reduceAdd, Nat.reduceBEq, Nat.reduceLeDiff, Nat.reduceLT, Nat.reduceMul, Nat.reduceSub, Int.reduceEq, Int.reduceLT, Int.reduceLE, Int.reduceNeg, h0, h1, h2, hT, List.length_cons, List.length_nil, List.filter_replicate, List.all_replicate, List.filter_append, List.all_append, Bool.and_self, List.append_assoc, ite_self, if_true]
theorem s60e (k s d q o c m e t u v : Int) (x : ByteArray)  (hx : 127 < x.size) (hb : bs.length ≤ 900) :
    call1 T (n + 6) (.fn 200) [pW, .ptr 0 0 0 0] (wH (.box (fr k s d q o c m e t u v x)) bs [t1, t2] es) = some (.tup [], wX (.box (fr k s d q o c m e t u v x)) bs [t1, t2] es) := by
  refine call_in e200 (by rfl) ?_
  have hT : ∀ t' es, call1 T (n + 5) (.fn 215) [pW, .ptr 0 0 0 11] (wH (.box (fr k s d q o c m e t u v x)) bs [t1, t2, t'] es) = some (.tup [], wX (.box (fr k s d q o c m e t u v x)) bs [t1, t2, t'] es) := fun t' es => s82e n (fr k s d q o c m e t u v x) t1 t2 t' es bs x 11 rfl hx
  simp only [c200, go_sem, Int.reduceToNat, Nat.reduceAdd, Nat.reduceBEq, Nat.reduceLeDiff, Nat.reduceLT, Nat.reduceMul, Nat.reduceSub, Int.reduceEq, Int.reduceLT, Int.reduceLE, Int.reduceNeg, hT, List.length_cons, List.length_nil, List.filter_replicate, List.all_replicate, List.filter_append, List.all_append, Bool.and_self, List.append_assoc, ite_self, if_true]
theorem s27e_1 (s d q o c m e t u v : Int) (x : ByteArray) (hs : 0 ≤ s ∧ s ≤ 31) (hd : d < 32) (hd0 : d < 0 → d = -1) (hq : 0 ≤ q ∧ q ≤ 255) (ho : 0 ≤ o ∧ o ≤ 255) (hc : 0 ≤ c ∧ c ≤ 255) (hm : 0 ≤ m ∧ m ≤ 65535) (hx : 127 < x.size) (hb : bs.length ≤ 100) :
    ∃ bs' es', call1 T (n + 7) (.fn 176) [pW, .ptr 0 0 0 0] (wH (.box (fr 1 s d q o c m e t u v x)) bs [] es) = some (.bool true, wX (.box (fr 1 s d q o c m e t u v x)) bs' [] es') := by
  refine ⟨(bs ++ (bits 3 1 ++ (bits 5 s.toNat ++ (tgBits d ++ (bits 8 q.toNat ++ (bits 8 o.toNat ++ (bits 8 c.toNat ++ (bits 16 m.toNat)))))))), es ++ (ek bs 3 ++ (ek (bs ++ (bits 3 1)) 5 ++ (ek (bs ++ (bits 3 1 ++ (bits 5 s.toNat))) (tgLen d) ++ (ek (bs ++ (bits 3 1 ++ (bits 5 s.toNat ++ (tgBits d)))) 8 ++ (ek (bs ++ (bits 3 1 ++ (bits 5 s.toNat ++ (tgBits d ++ (bits 8 q.toNat))))) 8 ++ (ek (bs ++ (bits 3 1 ++ (bits 5 s.toNat ++ (tgBits d ++ (bits 8 q.toNat ++ (bits 8 o.toNat)))))) 24)))))), ?_⟩
  refine call_in e176 (by rfl) ?_
  have h0 : ∀ t1 t2 es, call1 T (n + 6) (.fn 201) [pW, .int .i64 3, .ptr 0 0 0 0] (wH (.box (fr 1 s d q o c m e t u v x)) bs [t1, t2] es) = some (.tup [], wH (.box (fr 1 s d q o c m e t u v x)) (bs ++ (bits 3 1)) [t1, t2] (es ++ ek bs 3)) := fun t1 t2 es => by
    have := s61a (n + 2) (fr 1 s d q o c m e t u v x) t1 t2 es bs 3 1 0 rfl (by omega) (by omega) (by omega) (by omega)
    try simp only [List.append_assoc] at this
    exact this
  have l0 : (bs ++ (bits 3 1)).length = bs.length + (3) := by simp only [List.length_append, bits_len, tgLen_eq] <;> omega
  have h1 : ∀ t1 t2 es, call1 T (n + 6) (.fn 201) [pW, .int .i64 5, .ptr 0 0 0 1] (wH (.box (fr 1 s d q o c m e t u v x)) (bs ++ (bits 3 1)) [t1, t2] es) = some (.tup [], wH (.box (fr 1 s d q o c m e t u v x)) (bs ++ (bits 3 1 ++ (bits 5 s.toNat))) [t1, t2] (es ++ ek (bs ++ (bits 3 1)) 5)) := fun t1 t2 es => by
    have := s61a (n + 2) (fr 1 s d q o c m e t u v x) t1 t2 es (bs ++ (bits 3 1)) 5 s.toNat 1 (show (fr 1 s d q o c m e t u v x)[1]? = _ by rw [Int.toNat_of_nonneg hs.1]; rfl) (by omega) (by omega) (by omega) (by have := tgLe d; rw [l0]; omega)
    try simp only [List.append_assoc] at this
    exact this
  have l1 : (bs ++ (bits 3 1 ++ (bits 5 s.toNat))).length = bs.length + (8) := by simp only [List.length_append, bits_len, tgLen_eq] <;> omega
  have h2 : ∀ t1 t2 es, call1 T (n + 6) (.fn 202) [pW, .ptr 0 0 0 2] (wH (.box (fr 1 s d q o c m e t u v x)) (bs ++ (bits 3 1 ++ (bits 5 s.toNat))) [t1, t2] es) = some (.tup [], wH (.box (fr 1 s d q o c m e t u v x)) (bs ++ (bits 3 1 ++ (bits 5 s.toNat ++ (tgBits d)))) [t1, t2] (es ++ ek (bs ++ (bits 3 1 ++ (bits 5 s.toNat))) (tgLen d))) := fun t1 t2 es => by
    have := s202 n t1 t2 es (bs ++ (bits 3 1 ++ (bits 5 s.toNat))) 1 s d q o c m e t u v x hd hd0 (by rw [l1]; omega)
    try simp only [List.append_assoc] at this
    exact this
  have l2 : (bs ++ (bits 3 1 ++ (bits 5 s.toNat ++ (tgBits d)))).length = bs.length + (8 + tgLen d) := by simp only [List.length_append, bits_len, tgLen_eq] <;> omega
  have h3 : ∀ t1 t2 es, call1 T (n + 6) (.fn 201) [pW, .int .i64 8, .ptr 0 0 0 3] (wH (.box (fr 1 s d q o c m e t u v x)) (bs ++ (bits 3 1 ++ (bits 5 s.toNat ++ (tgBits d)))) [t1, t2] es) = some (.tup [], wH (.box (fr 1 s d q o c m e t u v x)) (bs ++ (bits 3 1 ++ (bits 5 s.toNat ++ (tgBits d ++ (bits 8 q.toNat))))) [t1, t2] (es ++ ek (bs ++ (bits 3 1 ++ (bits 5 s.toNat ++ (tgBits d)))) 8)) := fun t1 t2 es => by
    have := s61a (n + 2) (fr 1 s d q o c m e t u v x) t1 t2 es (bs ++ (bits 3 1 ++ (bits 5 s.toNat ++ (tgBits d)))) 8 q.toNat 3 (show (fr 1 s d q o c m e t u v x)[3]? = _ by rw [Int.toNat_of_nonneg hq.1]; rfl) (by omega) (by omega) (by omega) (by have := tgLe d; rw [l2]; omega)
    try simp only [List.append_assoc] at this
    exact this
  have l3 : (bs ++ (bits 3 1 ++ (bits 5 s.toNat ++ (tgBits d ++ (bits 8 q.toNat))))).length = bs.length + (16 + tgLen d) := by simp only [List.length_append, bits_len, tgLen_eq] <;> omega
  have h4 : ∀ t1 t2 es, call1 T (n + 6) (.fn 201) [pW, .int .i64 8, .ptr 0 0 0 4] (wH (.box (fr 1 s d q o c m e t u v x)) (bs ++ (bits 3 1 ++ (bits 5 s.toNat ++ (tgBits d ++ (bits 8 q.toNat))))) [t1, t2] es) = some (.tup [], wH (.box (fr 1 s d q o c m e t u v x)) (bs ++ (bits 3 1 ++ (bits 5 s.toNat ++ (tgBits d ++ (bits 8 q.toNat ++ (bits 8 o.toNat)))))) [t1, t2] (es ++ ek (bs ++ (bits 3 1 ++ (bits 5 s.toNat ++ (tgBits d ++ (bits 8 q.toNat))))) 8)) := fun t1 t2 es => by
    have := s61a (n + 2) (fr 1 s d q o c m e t u v x) t1 t2 es (bs ++ (bits 3 1 ++ (bits 5 s.toNat ++ (tgBits d ++ (bits 8 q.toNat))))) 8 o.toNat 4 (show (fr 1 s d q o c m e t u v x)[4]? = _ by rw [Int.toNat_of_nonneg ho.1]; rfl) (by omega) (by omega) (by omega) (by have := tgLe d; rw [l3]; omega)
    try simp only [List.append_assoc] at this
    exact this
  have l4 : (bs ++ (bits 3 1 ++ (bits 5 s.toNat ++ (tgBits d ++ (bits 8 q.toNat ++ (bits 8 o.toNat)))))).length = bs.length + (24 + tgLen d) := by simp only [List.length_append, bits_len, tgLen_eq] <;> omega
  have hb1 : ∀ t1 t2 es, call1 T (n + 6) (.fn 197) [pW, .ptr 0 0 0 0] (wH (.box (fr 1 s d q o c m e t u v x)) (bs ++ (bits 3 1 ++ (bits 5 s.toNat ++ (tgBits d ++ (bits 8 q.toNat ++ (bits 8 o.toNat)))))) [t1, t2] es) = some (.tup [], wX (.box (fr 1 s d q o c m e t u v x)) (bs ++ (bits 3 1 ++ (bits 5 s.toNat ++ (tgBits d ++ (bits 8 q.toNat ++ (bits 8 o.toNat ++ (bits 8 c.toNat ++ (bits 16 m.toNat)))))))) [t1, t2] (es ++ ek (bs ++ (bits 3 1 ++ (bits 5 s.toNat ++ (tgBits d ++ (bits 8 q.toNat ++ (bits 8 o.toNat)))))) 24)) := fun t1 t2 es => by
    have := s57e n t1 t2 es (bs ++ (bits 3 1 ++ (bits 5 s.toNat ++ (tgBits d ++ (bits 8 q.toNat ++ (bits 8 o.toNat)))))) 1 s d q o c m e t u v x hc hm hx (by have := tgLe d; rw [l4]; omega)
    try simp only [List.append_assoc] at this
    exact this
  simp only [c176, go_sem, Int.reduceToNat, Nat.reduceAdd, Nat.reduceBEq, Nat.reduceLeDiff, Nat.reduceLT, Nat.reduceMul, Nat.reduceSub, Int.reduceEq, Int.reduceLT, Int.reduceLE, Int.reduceNeg, h0, h1, h2, h3, h4, hb1, List.length_cons, List.length_nil, List.filter_replicate, List.all_replicate, List.filter_append, List.all_append, Bool.and_self, List.append_assoc, ite_self, if_true]
theorem s27e_3 (s d q o c m e t u v : Int) (x : ByteArray) (hs : 0 ≤ s ∧ s ≤ 31) (hd : d < 32) (hd0 : d < 0 → d = -1) (hq : 0 ≤ q ∧ q ≤ 255) (ho : 0 ≤ o ∧ o ≤ 255) (ht : 0 ≤ t ∧ t ≤ 109951162) (hu : 0 ≤ u ∧ u ≤ 65535) (hv : 0 ≤ v ∧ v ≤ 65535) (hx : 127 < x.size) (hb : bs.length ≤ 100) :
    ∃ bs' es', call1 T (n + 7) (.fn 176) [pW, .ptr 0 0 0 0] (wH (.box (fr 3 s d q o c m e t u v x)) bs [] es) = some (.bool true, wX (.box (fr 3 s d q o c m e t u v x)) bs' [] es') := by
  refine ⟨(bs ++ (bits 3 3 ++ (bits 5 s.toNat ++ (tgBits d ++ (bits 8 q.toNat ++ (bits 8 o.toNat ++ (bits 27 t.toNat ++ (bits 16 u.toNat ++ (bits 16 v.toNat))))))))), es ++ (ek bs 3 ++ (ek (bs ++ (bits 3 3)) 5 ++ (ek (bs ++ (bits 3 3 ++ (bits 5 s.toNat))) (tgLen d) ++ (ek (bs ++ (bits 3 3 ++ (bits 5 s.toNat ++ (tgBits d)))) 8 ++ (ek (bs ++ (bits 3 3 ++ (bits 5 s.toNat ++ (tgBits d ++ (bits 8 q.toNat))))) 8 ++ (ek (bs ++ (bits 3 3 ++ (bits 5 s.toNat ++ (tgBits d ++ (bits 8 q.toNat ++ (bits 8 o.toNat)))))) 59)))))), ?_⟩
  refine call_in e176 (by rfl) ?_
  have h0 : ∀ t1 t2 es, call1 T (n + 6) (.fn 201) [pW, .int .i64 3, .ptr 0 0 0 0] (wH (.box (fr 3 s d q o c m e t u v x)) bs [t1, t2] es) = some (.tup [], wH (.box (fr 3 s d q o c m e t u v x)) (bs ++ (bits 3 3)) [t1, t2] (es ++ ek bs 3)) := fun t1 t2 es => by
    have := s61a (n + 2) (fr 3 s d q o c m e t u v x) t1 t2 es bs 3 3 0 rfl (by omega) (by omega) (by omega) (by omega)
    try simp only [List.append_assoc] at this
    exact this
  have l0 : (bs ++ (bits 3 3)).length = bs.length + (3) := by simp only [List.length_append, bits_len, tgLen_eq] <;> omega
  have h1 : ∀ t1 t2 es, call1 T (n + 6) (.fn 201) [pW, .int .i64 5, .ptr 0 0 0 1] (wH (.box (fr 3 s d q o c m e t u v x)) (bs ++ (bits 3 3)) [t1, t2] es) = some (.tup [], wH (.box (fr 3 s d q o c m e t u v x)) (bs ++ (bits 3 3 ++ (bits 5 s.toNat))) [t1, t2] (es ++ ek (bs ++ (bits 3 3)) 5)) := fun t1 t2 es => by
    have := s61a (n + 2) (fr 3 s d q o c m e t u v x) t1 t2 es (bs ++ (bits 3 3)) 5 s.toNat 1 (show (fr 3 s d q o c m e t u v x)[1]? = _ by rw [Int.toNat_of_nonneg hs.1]; rfl) (by omega) (by omega) (by omega) (by have := tgLe d; rw [l0]; omega)
    try simp only [List.append_assoc] at this
    exact this
  have l1 : (bs ++ (bits 3 3 ++ (bits 5 s.toNat))).length = bs.length + (8) := by simp only [List.length_append, bits_len, tgLen_eq] <;> omega
  have h2 : ∀ t1 t2 es, call1 T (n + 6) (.fn 202) [pW, .ptr 0 0 0 2] (wH (.box (fr 3 s d q o c m e t u v x)) (bs ++ (bits 3 3 ++ (bits 5 s.toNat))) [t1, t2] es) = some (.tup [], wH (.box (fr 3 s d q o c m e t u v x)) (bs ++ (bits 3 3 ++ (bits 5 s.toNat ++ (tgBits d)))) [t1, t2] (es ++ ek (bs ++ (bits 3 3 ++ (bits 5 s.toNat))) (tgLen d))) := fun t1 t2 es => by
    have := s202 n t1 t2 es (bs ++ (bits 3 3 ++ (bits 5 s.toNat))) 3 s d q o c m e t u v x hd hd0 (by rw [l1]; omega)
    try simp only [List.append_assoc] at this
    exact this
  have l2 : (bs ++ (bits 3 3 ++ (bits 5 s.toNat ++ (tgBits d)))).length = bs.length + (8 + tgLen d) := by simp only [List.length_append, bits_len, tgLen_eq] <;> omega
  have h3 : ∀ t1 t2 es, call1 T (n + 6) (.fn 201) [pW, .int .i64 8, .ptr 0 0 0 3] (wH (.box (fr 3 s d q o c m e t u v x)) (bs ++ (bits 3 3 ++ (bits 5 s.toNat ++ (tgBits d)))) [t1, t2] es) = some (.tup [], wH (.box (fr 3 s d q o c m e t u v x)) (bs ++ (bits 3 3 ++ (bits 5 s.toNat ++ (tgBits d ++ (bits 8 q.toNat))))) [t1, t2] (es ++ ek (bs ++ (bits 3 3 ++ (bits 5 s.toNat ++ (tgBits d)))) 8)) := fun t1 t2 es => by
    have := s61a (n + 2) (fr 3 s d q o c m e t u v x) t1 t2 es (bs ++ (bits 3 3 ++ (bits 5 s.toNat ++ (tgBits d)))) 8 q.toNat 3 (show (fr 3 s d q o c m e t u v x)[3]? = _ by rw [Int.toNat_of_nonneg hq.1]; rfl) (by omega) (by omega) (by omega) (by have := tgLe d; rw [l2]; omega)
    try simp only [List.append_assoc] at this
    exact this
  have l3 : (bs ++ (bits 3 3 ++ (bits 5 s.toNat ++ (tgBits d ++ (bits 8 q.toNat))))).length = bs.length + (16 + tgLen d) := by simp only [List.length_append, bits_len, tgLen_eq] <;> omega
  have h4 : ∀ t1 t2 es, call1 T (n + 6) (.fn 201) [pW, .int .i64 8, .ptr 0 0 0 4] (wH (.box (fr 3 s d q o c m e t u v x)) (bs ++ (bits 3 3 ++ (bits 5 s.toNat ++ (tgBits d ++ (bits 8 q.toNat))))) [t1, t2] es) = some (.tup [], wH (.box (fr 3 s d q o c m e t u v x)) (bs ++ (bits 3 3 ++ (bits 5 s.toNat ++ (tgBits d ++ (bits 8 q.toNat ++ (bits 8 o.toNat)))))) [t1, t2] (es ++ ek (bs ++ (bits 3 3 ++ (bits 5 s.toNat ++ (tgBits d ++ (bits 8 q.toNat))))) 8)) := fun t1 t2 es => by
    have := s61a (n + 2) (fr 3 s d q o c m e t u v x) t1 t2 es (bs ++ (bits 3 3 ++ (bits 5 s.toNat ++ (tgBits d ++ (bits 8 q.toNat))))) 8 o.toNat 4 (show (fr 3 s d q o c m e t u v x)[4]? = _ by rw [Int.toNat_of_nonneg ho.1]; rfl) (by omega) (by omega) (by omega) (by have := tgLe d; rw [l3]; omega)
    try simp only [List.append_assoc] at this
    exact this
  have l4 : (bs ++ (bits 3 3 ++ (bits 5 s.toNat ++ (tgBits d ++ (bits 8 q.toNat ++ (bits 8 o.toNat)))))).length = bs.length + (24 + tgLen d) := by simp only [List.length_append, bits_len, tgLen_eq] <;> omega
  have hb1 : ∀ t1 t2 es, call1 T (n + 6) (.fn 199) [pW, .ptr 0 0 0 0] (wH (.box (fr 3 s d q o c m e t u v x)) (bs ++ (bits 3 3 ++ (bits 5 s.toNat ++ (tgBits d ++ (bits 8 q.toNat ++ (bits 8 o.toNat)))))) [t1, t2] es) = some (.tup [], wX (.box (fr 3 s d q o c m e t u v x)) (bs ++ (bits 3 3 ++ (bits 5 s.toNat ++ (tgBits d ++ (bits 8 q.toNat ++ (bits 8 o.toNat ++ (bits 27 t.toNat ++ (bits 16 u.toNat ++ (bits 16 v.toNat))))))))) [t1, t2] (es ++ ek (bs ++ (bits 3 3 ++ (bits 5 s.toNat ++ (tgBits d ++ (bits 8 q.toNat ++ (bits 8 o.toNat)))))) 59)) := fun t1 t2 es => by
    have := s59e n t1 t2 es (bs ++ (bits 3 3 ++ (bits 5 s.toNat ++ (tgBits d ++ (bits 8 q.toNat ++ (bits 8 o.toNat)))))) 3 s d q o c m e t u v x ht hu hv hx (by have := tgLe d; rw [l4]; omega)
    try simp only [List.append_assoc] at this
    exact this
  simp only [c176, go_sem, Int.reduceToNat, Nat.reduceAdd, Nat.reduceBEq, Nat.reduceLeDiff, Nat.reduceLT, Nat.reduceMul, Nat.reduceSub, Int.reduceEq, Int.reduceLT, Int.reduceLE, Int.reduceNeg, h0, h1, h2, h3, h4, hb1, List.length_cons, List.length_nil, List.filter_replicate, List.all_replicate, List.filter_append, List.all_append, Bool.and_self, List.append_assoc, ite_self, if_true]
theorem s27e_4 (s d q o c m e t u v : Int) (x : ByteArray) (hs : 0 ≤ s ∧ s ≤ 31) (hd : d < 32) (hd0 : d < 0 → d = -1) (hq : 0 ≤ q ∧ q ≤ 255) (ho : 0 ≤ o ∧ o ≤ 255)  (hx : 127 < x.size) (hb : bs.length ≤ 100) :
    ∃ bs' es', call1 T (n + 7) (.fn 176) [pW, .ptr 0 0 0 0] (wH (.box (fr 4 s d q o c m e t u v x)) bs [] es) = some (.bool true, wX (.box (fr 4 s d q o c m e t u v x)) bs' [] es') := by
  refine ⟨(bs ++ (bits 3 4 ++ (bits 5 s.toNat ++ (tgBits d ++ (bits 8 q.toNat ++ (bits 8 o.toNat)))))), es ++ (ek bs 3 ++ (ek (bs ++ (bits 3 4)) 5 ++ (ek (bs ++ (bits 3 4 ++ (bits 5 s.toNat))) (tgLen d) ++ (ek (bs ++ (bits 3 4 ++ (bits 5 s.toNat ++ (tgBits d)))) 8 ++ (ek (bs ++ (bits 3 4 ++ (bits 5 s.toNat ++ (tgBits d ++ (bits 8 q.toNat))))) 8))))), ?_⟩
  refine call_in e176 (by rfl) ?_
  have h0 : ∀ t1 t2 es, call1 T (n + 6) (.fn 201) [pW, .int .i64 3, .ptr 0 0 0 0] (wH (.box (fr 4 s d q o c m e t u v x)) bs [t1, t2] es) = some (.tup [], wH (.box (fr 4 s d q o c m e t u v x)) (bs ++ (bits 3 4)) [t1, t2] (es ++ ek bs 3)) := fun t1 t2 es => by
    have := s61a (n + 2) (fr 4 s d q o c m e t u v x) t1 t2 es bs 3 4 0 rfl (by omega) (by omega) (by omega) (by omega)
    try simp only [List.append_assoc] at this
    exact this
  have l0 : (bs ++ (bits 3 4)).length = bs.length + (3) := by simp only [List.length_append, bits_len, tgLen_eq] <;> omega
  have h1 : ∀ t1 t2 es, call1 T (n + 6) (.fn 201) [pW, .int .i64 5, .ptr 0 0 0 1] (wH (.box (fr 4 s d q o c m e t u v x)) (bs ++ (bits 3 4)) [t1, t2] es) = some (.tup [], wH (.box (fr 4 s d q o c m e t u v x)) (bs ++ (bits 3 4 ++ (bits 5 s.toNat))) [t1, t2] (es ++ ek (bs ++ (bits 3 4)) 5)) := fun t1 t2 es => by
    have := s61a (n + 2) (fr 4 s d q o c m e t u v x) t1 t2 es (bs ++ (bits 3 4)) 5 s.toNat 1 (show (fr 4 s d q o c m e t u v x)[1]? = _ by rw [Int.toNat_of_nonneg hs.1]; rfl) (by omega) (by omega) (by omega) (by have := tgLe d; rw [l0]; omega)
    try simp only [List.append_assoc] at this
    exact this
  have l1 : (bs ++ (bits 3 4 ++ (bits 5 s.toNat))).length = bs.length + (8) := by simp only [List.length_append, bits_len, tgLen_eq] <;> omega
  have h2 : ∀ t1 t2 es, call1 T (n + 6) (.fn 202) [pW, .ptr 0 0 0 2] (wH (.box (fr 4 s d q o c m e t u v x)) (bs ++ (bits 3 4 ++ (bits 5 s.toNat))) [t1, t2] es) = some (.tup [], wH (.box (fr 4 s d q o c m e t u v x)) (bs ++ (bits 3 4 ++ (bits 5 s.toNat ++ (tgBits d)))) [t1, t2] (es ++ ek (bs ++ (bits 3 4 ++ (bits 5 s.toNat))) (tgLen d))) := fun t1 t2 es => by
    have := s202 n t1 t2 es (bs ++ (bits 3 4 ++ (bits 5 s.toNat))) 4 s d q o c m e t u v x hd hd0 (by rw [l1]; omega)
    try simp only [List.append_assoc] at this
    exact this
  have l2 : (bs ++ (bits 3 4 ++ (bits 5 s.toNat ++ (tgBits d)))).length = bs.length + (8 + tgLen d) := by simp only [List.length_append, bits_len, tgLen_eq] <;> omega
  have h3 : ∀ t1 t2 es, call1 T (n + 6) (.fn 201) [pW, .int .i64 8, .ptr 0 0 0 3] (wH (.box (fr 4 s d q o c m e t u v x)) (bs ++ (bits 3 4 ++ (bits 5 s.toNat ++ (tgBits d)))) [t1, t2] es) = some (.tup [], wH (.box (fr 4 s d q o c m e t u v x)) (bs ++ (bits 3 4 ++ (bits 5 s.toNat ++ (tgBits d ++ (bits 8 q.toNat))))) [t1, t2] (es ++ ek (bs ++ (bits 3 4 ++ (bits 5 s.toNat ++ (tgBits d)))) 8)) := fun t1 t2 es => by
    have := s61a (n + 2) (fr 4 s d q o c m e t u v x) t1 t2 es (bs ++ (bits 3 4 ++ (bits 5 s.toNat ++ (tgBits d)))) 8 q.toNat 3 (show (fr 4 s d q o c m e t u v x)[3]? = _ by rw [Int.toNat_of_nonneg hq.1]; rfl) (by omega) (by omega) (by omega) (by have := tgLe d; rw [l2]; omega)
    try simp only [List.append_assoc] at this
    exact this
  have l3 : (bs ++ (bits 3 4 ++ (bits 5 s.toNat ++ (tgBits d ++ (bits 8 q.toNat))))).length = bs.length + (16 + tgLen d) := by simp only [List.length_append, bits_len, tgLen_eq] <;> omega
  have h4 : ∀ t1 t2 es, call1 T (n + 6) (.fn 201) [pW, .int .i64 8, .ptr 0 0 0 4] (wH (.box (fr 4 s d q o c m e t u v x)) (bs ++ (bits 3 4 ++ (bits 5 s.toNat ++ (tgBits d ++ (bits 8 q.toNat))))) [t1, t2] es) = some (.tup [], wH (.box (fr 4 s d q o c m e t u v x)) (bs ++ (bits 3 4 ++ (bits 5 s.toNat ++ (tgBits d ++ (bits 8 q.toNat ++ (bits 8 o.toNat)))))) [t1, t2] (es ++ ek (bs ++ (bits 3 4 ++ (bits 5 s.toNat ++ (tgBits d ++ (bits 8 q.toNat))))) 8)) := fun t1 t2 es => by
    have := s61a (n + 2) (fr 4 s d q o c m e t u v x) t1 t2 es (bs ++ (bits 3 4 ++ (bits 5 s.toNat ++ (tgBits d ++ (bits 8 q.toNat))))) 8 o.toNat 4 (show (fr 4 s d q o c m e t u v x)[4]? = _ by rw [Int.toNat_of_nonneg ho.1]; rfl) (by omega) (by omega) (by omega) (by have := tgLe d; rw [l3]; omega)
    try simp only [List.append_assoc] at this
    exact this
  have l4 : (bs ++ (bits 3 4 ++ (bits 5 s.toNat ++ (tgBits d ++ (bits 8 q.toNat ++ (bits 8 o.toNat)))))).length = bs.length + (24 + tgLen d) := by simp only [List.length_append, bits_len, tgLen_eq] <;> omega
  have hb1 : ∀ t1 t2 es, call1 T (n + 6) (.fn 200) [pW, .ptr 0 0 0 0] (wH (.box (fr 4 s d q o c m e t u v x)) (bs ++ (bits 3 4 ++ (bits 5 s.toNat ++ (tgBits d ++ (bits 8 q.toNat ++ (bits 8 o.toNat)))))) [t1, t2] es) = some (.tup [], wX (.box (fr 4 s d q o c m e t u v x)) (bs ++ (bits 3 4 ++ (bits 5 s.toNat ++ (tgBits d ++ (bits 8 q.toNat ++ (bits 8 o.toNat)))))) [t1, t2] es) := fun t1 t2 es => by
    have := s60e n t1 t2 es (bs ++ (bits 3 4 ++ (bits 5 s.toNat ++ (tgBits d ++ (bits 8 q.toNat ++ (bits 8 o.toNat)))))) 4 s d q o c m e t u v x  hx (by have := tgLe d; rw [l4]; omega)
    try simp only [List.append_assoc] at this
    exact this
  simp only [c176, go_sem, Int.reduceToNat, Nat.reduceAdd, Nat.reduceBEq, Nat.reduceLeDiff, Nat.reduceLT, Nat.reduceMul, Nat.reduceSub, Int.reduceEq, Int.reduceLT, Int.reduceLE, Int.reduceNeg, h0, h1, h2, h3, h4, hb1, List.length_cons, List.length_nil, List.filter_replicate, List.all_replicate, List.filter_append, List.all_append, Bool.and_self, List.append_assoc, ite_self, if_true]
end
end C13
end Go.Sh
namespace Go.Sh
set_option linter.unusedSectionVars false
set_option linter.unnecessarySimpa false
set_option linter.unusedVariables false
set_option linter.unusedSimpArgs false
set_option maxRecDepth 100000
set_option maxHeartbeats 4000000
namespace C13
def bdBits (k c m e t u v : Int) (x : ByteArray) : List Bool :=
  bif decide (k = 1) then bits 8 c.toNat ++ (bits 16 m.toNat ++ (bits 7 x.size ++ txB x x.size))
  else bif decide (k = 2) then bits 16 (sgN e)
  else bif decide (k = 3) then bits 27 t.toNat ++ (bits 16 u.toNat ++ (bits 16 v.toNat ++ (bits 7 x.size ++ txB x x.size)))
  else bits 7 x.size ++ txB x x.size
def enBits (k s d q o c m e t u v : Int) (x : ByteArray) : List Bool :=
  bits 3 k.toNat ++ (bits 5 s.toNat ++ (tgBits d ++ (bits 8 q.toNat ++ (bits 8 o.toNat ++ bdBits k c m e t u v x))))
def enV (k s d q o c m e t u v : Int) (x : ByteArray) : SV :=
  bif !chB k s d q o c m e t u v x then .tup [.str ⟨#[]⟩, .int .i64 1]
  else bif decide (127 < x.size) || decide (127 < (pkB (enBits k s d q o c m e t u v x)).size + 2) then .tup [.str ⟨#[]⟩, .int .i64 8]
  else .tup [.str (prot (pkB (enBits k s d q o c m e t u v x))), .int .i64 0]
theorem s175 (n : Nat) (es : List (Nat × Nat)) (b0 : SBlk) : call1 T (n + 1) (.kfn 175) [] ⟨[b0], es, 0⟩ = some (.ptr 1 0 0 0, ⟨[b0, .box [.lst 0 [] true, .int .i64 0, .int .i64 0]], es, 0⟩) := by
  refine kcall_in e175 ?_
  simp only [c175, go_sem, Int.reduceToNat, Nat.reduceAdd, Nat.reduceBEq, Nat.reduceLeDiff, Nat.reduceLT, Nat.reduceMul, Nat.reduceSub, Int.reduceEq, Int.reduceLT, Int.reduceLE, Int.reduceNeg]
theorem chB_k {k s d q o c m e t u v : Int} {x : ByteArray} (h : chB k s d q o c m e t u v x = true) :
    (0 ≤ s ∧ s ≤ 31) ∧ d < 32 ∧ (d < 0 → d = -1) ∧ (0 ≤ q ∧ q ≤ 255) ∧ (0 ≤ o ∧ o ≤ 255) ∧
      ((k = 1 ∧ (0 ≤ c ∧ c ≤ 255) ∧ (0 ≤ m ∧ m ≤ 65535)) ∨ (k = 2 ∧ (-32768 ≤ e ∧ e ≤ 32767) ∧ x = ⟨#[]⟩) ∨ (k = 3 ∧ (0 ≤ t ∧ t ≤ 109951162) ∧ (0 ≤ u ∧ u ≤ 65535) ∧ (0 ≤ v ∧ v ≤ 65535)) ∨ k = 4) := by
  unfold chB tgB at h
  simp only [inB, erB, Bool.and_eq_true, decide_eq_true_eq] at h
  obtain ⟨h1, hs, hq, ho⟩ := h
  by_cases k1 : k = 1
  · rw [decide_eq_true k1] at h1
    simp only [cond_true, Bool.and_eq_true, decide_eq_true_eq, Bool.not_eq_true', decide_eq_false_iff_not] at h1
    exact ⟨hs, by omega, by omega, hq, ho, .inl ⟨k1, h1.1.1.2, h1.1.2⟩⟩
  · rw [decide_eq_false k1] at h1
    by_cases k2 : k = 2
    · rw [decide_eq_true k2] at h1
      simp only [cond_true, cond_false, Bool.and_eq_true, decide_eq_true_eq, Bool.not_eq_true', decide_eq_false_iff_not] at h1
      exact ⟨hs, by omega, by omega, hq, ho, .inr (.inl ⟨k2, h1.1.2, h1.2.2.2.2.2.2⟩)⟩
    · rw [decide_eq_false k2] at h1
      by_cases k3 : k = 3
      · rw [decide_eq_true k3] at h1
        simp only [cond_true, cond_false, Bool.and_eq_true, decide_eq_true_eq, Bool.not_eq_true', decide_eq_false_iff_not] at h1
        exact ⟨hs, by omega, by omega, hq, ho, .inr (.inr (.inl ⟨k3, h1.1.1.1.2, h1.1.1.2, h1.1.2⟩))⟩
      · rw [decide_eq_false k3] at h1
        by_cases k4 : k = 4
        · rw [decide_eq_true k4] at h1
          simp only [cond_true, cond_false, Bool.and_eq_true, Bool.or_eq_true, decide_eq_true_eq, Bool.not_eq_true', decide_eq_false_iff_not] at h1
          exact ⟨hs, by omega, by omega, hq, ho, .inr (.inr (.inr k4))⟩
        · rw [decide_eq_false k4] at h1
          simp at h1
end C13
end Go.Sh
namespace Go.Sh
set_option linter.unusedSectionVars false
set_option linter.unnecessarySimpa false
set_option linter.unusedVariables false
set_option linter.unusedSimpArgs false
set_option maxRecDepth 100000
set_option maxHeartbeats 4000000
namespace C13
section
variable {k s d q o c m e t u v : Int} {x : ByteArray}
theorem s27w (n : Nat) (es : List (Nat × Nat)) (h : chB k s d q o c m e t u v x = true) (hx : x.size ≤ 127) :
    ∃ es', call1 T (n + 7) (.fn 176) [pW, .ptr 0 0 0 0] (wH (.box (fr k s d q o c m e t u v x)) [] [] es) = some (.bool true, wH (.box (fr k s d q o c m e t u v x)) (enBits k s d q o c m e t u v x) [] es') := by
  obtain ⟨hs, hd, hd0, hq, ho, h⟩ := chB_k h
  rcases h with ⟨rfl, hc, hm⟩ | ⟨rfl, he, rfl⟩ | ⟨rfl, ht, hu, hv⟩ | rfl
  · exact ⟨_, s27_1 n es [] s d q o c m e t u v x hs hd hd0 hq ho hc hm hx (by simp)⟩
  · exact ⟨_, s27_2 n es [] s d q o c m e t u v _ hs hd hd0 hq ho he (by simp)⟩
  · exact ⟨_, s27_3 n es [] s d q o c m e t u v x hs hd hd0 hq ho ht hu hv hx (by simp)⟩
  · exact ⟨_, s27_4 n es [] s d q o c m e t u v x hs hd hd0 hq ho hx (by simp)⟩
theorem s27x (n : Nat) (es : List (Nat × Nat)) (h : chB k s d q o c m e t u v x = true) (hx : 127 < x.size) :
    ∃ bs' es', call1 T (n + 7) (.fn 176) [pW, .ptr 0 0 0 0] (wH (.box (fr k s d q o c m e t u v x)) [] [] es) = some (.bool true, wX (.box (fr k s d q o c m e t u v x)) bs' [] es') := by
  obtain ⟨hs, hd, hd0, hq, ho, h⟩ := chB_k h
  rcases h with ⟨rfl, hc, hm⟩ | ⟨rfl, he, rfl⟩ | ⟨rfl, ht, hu, hv⟩ | rfl
  · exact s27e_1 n es [] s d q o c m e t u v x hs hd hd0 hq ho hc hm hx (by simp)
  · exact absurd hx (by decide)
  · exact s27e_3 n es [] s d q o c m e t u v x hs hd hd0 hq ho ht hu hv hx (by simp)
  · exact s27e_4 n es [] s d q o c m e t u v x hs hd hd0 hq ho hx (by simp)
end
theorem s133 (n : Nat) (H : Heap) (k s d q o c m e t u v : Int) (x : ByteArray) (hX : x.size ≤ 10000) : call1 T (n + 8) (.fn 133) [.agg (fr k s d q o c m e t u v x)] H = some (enV k s d q o c m e t u v x, H) := by
  refine call_pure e133 (by rfl) ?_
  have h17 := fun H => s174 (n + 3) H k s d q o c m e t u v x
  unfold enV
  cases hch : chB k s d q o c m e t u v x with
  | false =>
    rw [hch] at h17
    simp only [c133, heap0, go_sem, Int.reduceToNat, Nat.reduceAdd, Nat.reduceBEq, Nat.reduceLeDiff, Nat.reduceLT, Nat.reduceMul, Nat.reduceSub, Int.reduceEq, Int.reduceLT, Int.reduceLE, Int.reduceNeg, h17]
  | true =>
    rw [hch] at h17
    have h26 := fun es b0 => s175 (n + 6) es b0
    rcases Nat.lt_or_ge 127 x.size with hx | hx
    · obtain ⟨bs', es', h27⟩ := s27x n [(1, 3)] hch hx
      have h27 : call1 T (n + 7) (.fn 176) [.agg [.ptr 1 0 0 0, .nilPtr], .ptr 0 0 0 0] ⟨[.box (fr k s d q o c m e t u v x), .box [.slc 2 0 0 0, .int .i64 0, .int .i64 0], .arr 0 1 [] false], [(1, 3)], 0⟩ = _ := h27
      have h28 := s28e (.box (fr k s d q o c m e t u v x)) [] es' bs' (n + 6)
      have hd : decide (127 < x.size) = true := decide_eq_true hx
      simp only [c133, heap0, go_sem, Int.reduceToNat, Nat.reduceAdd, Nat.reduceBEq, Nat.reduceLeDiff, Nat.reduceLT, Nat.reduceMul, Nat.reduceSub, Int.reduceEq, Int.reduceLT, Int.reduceLE, Int.reduceNeg, h17, h26, h27, h28, hd, Nat.reduceMod, Nat.reduceDiv]
    · obtain ⟨es', h27⟩ := s27w n [(1, 3)] hch hx
      have h27 : call1 T (n + 7) (.fn 176) [.agg [.ptr 1 0 0 0, .nilPtr], .ptr 0 0 0 0] ⟨[.box (fr k s d q o c m e t u v x), .box [.slc 2 0 0 0, .int .i64 0, .int .i64 0], .arr 0 1 [] false], [(1, 3)], 0⟩ = _ := h27
      have h28 := s177 (n + 6) (.box (fr k s d q o c m e t u v x)) [] es' (enBits k s d q o c m e t u v x)
      obtain ⟨P, hP⟩ : ∃ P, pkB (enBits k s d q o c m e t u v x) = P := ⟨_, rfl⟩
      rw [hP] at h28 ⊢
      have hd : decide (127 < x.size) = false := decide_eq_false (by omega)
      have hs : P.size ≤ 1000 := by
        rw [← hP, pkB_size]
        have hl : (enBits k s d q o c m e t u v x).length ≤ 2000 := by
          have := tgLe d
          unfold enBits bdBits
          simp only [List.length_append, bits_len, tgLen_eq]
          cases decide (k = 1) <;> cases decide (k = 2) <;> cases decide (k = 3) <;> simp only [cond_true, cond_false, List.length_append, bits_len, txB_len] <;> omega
        unfold nb; omega
      have h25 := fun H => s178 (n + 1) H P hs
      have hw : w64 ((P.size : Int) + 2) = (P.size : Int) + 2 := w64_id (by omega) (by omega)
      cases hp : decide (127 < P.size + 2) with
      | false =>
        have hp2 : decide ((127 : Int) < (P.size : Int) + 2) = false := by simp only [decide_eq_false_iff_not] at hp ⊢; omega
        simp only [c133, heap0, go_sem, Int.reduceToNat, Nat.reduceAdd, Nat.reduceBEq, Nat.reduceLeDiff, Nat.reduceLT, Nat.reduceMul, Nat.reduceSub, Int.reduceEq, Int.reduceLT, Int.reduceLE, Int.reduceNeg, h17, h26, h27, h28, hd, hw, hp2, h25, Nat.reduceMod, Nat.reduceDiv]
      | true =>
        have hp2 : decide ((127 : Int) < (P.size : Int) + 2) = true := by simp only [decide_eq_true_eq] at hp ⊢; omega
        simp only [c133, heap0, go_sem, Int.reduceToNat, Nat.reduceAdd, Nat.reduceBEq, Nat.reduceLeDiff, Nat.reduceLT, Nat.reduceMul, Nat.reduceSub, Int.reduceEq, Int.reduceLT, Int.reduceLE, Int.reduceNeg, h17, h26, h27, h28, hd, hw, hp2, h25, Nat.reduceMod, Nat.reduceDiv]
end C13
end Go.Sh
namespace Go.Sh
set_option linter.unusedSectionVars false
set_option linter.unnecessarySimpa false
set_option linter.unusedVariables false
set_option linter.unusedSimpArgs false
set_option maxRecDepth 100000
set_option maxHeartbeats 4000000
namespace C13
theorem inB_t {x h : Int} : inB x h = true ↔ 0 ≤ x ∧ x ≤ h := by simp [inB]
theorem inB_f {x h : Int} : inB x h = false ↔ ¬ (0 ≤ x ∧ x ≤ h) := by rw [← inB_t, Bool.not_eq_true]
theorem chB_1 {s d q o c m e t u v : Int} {x : ByteArray} : chB 1 s d q o c m e t u v x = decide (((0 ≤ d ∧ d ≤ 31) ∧ d ≠ s) ∧ (0 ≤ c ∧ c ≤ 255) ∧ (0 ≤ m ∧ m ≤ 65535) ∧ e = 0 ∧ t = 0 ∧ u = 0 ∧ v = 0 ∧ (0 ≤ s ∧ s ≤ 31) ∧ (0 ≤ q ∧ q ≤ 255) ∧ (0 ≤ o ∧ o ≤ 255)) := by
  rw [Bool.eq_iff_iff]
  simp only [chB, tgB, inB, erB, decide_true, cond_true, cond_false, Bool.and_eq_true, Bool.or_eq_true, decide_eq_true_eq, Bool.not_eq_true', decide_eq_false_iff_not]
  constructor <;> intro h <;> omega
theorem chB_2 {s d q o c m e t u v : Int} {x : ByteArray} : chB 2 s d q o c m e t u v x = (decide (x = ⟨#[]⟩) && decide (((0 ≤ d ∧ d ≤ 31) ∧ d ≠ s) ∧ (-32768 ≤ e ∧ e ≤ 32767) ∧ c = 0 ∧ m = 0 ∧ t = 0 ∧ u = 0 ∧ v = 0 ∧ (0 ≤ s ∧ s ≤ 31) ∧ (0 ≤ q ∧ q ≤ 255) ∧ (0 ≤ o ∧ o ≤ 255))) := by
  have k1 : decide ((2 : Int) = 1) = false := rfl
  rw [Bool.eq_iff_iff]
  simp only [chB, tgB, inB, erB, k1, decide_true, cond_true, cond_false, Bool.and_eq_true, Bool.or_eq_true, decide_eq_true_eq, Bool.not_eq_true', decide_eq_false_iff_not]
  constructor
  · intro h
    exact ⟨h.1.2.2.2.2.2.2, by omega⟩
  · intro ⟨h1, h⟩
    refine ⟨⟨by omega, by omega, by omega, by omega, by omega, by omega, h1⟩, by omega⟩
theorem chB_3 {s d q o c m e t u v : Int} {x : ByteArray} : chB 3 s d q o c m e t u v x = decide (d = -1 ∧ (0 ≤ t ∧ t ≤ 109951162) ∧ (0 ≤ u ∧ u ≤ 65535) ∧ (0 ≤ v ∧ v ≤ 65535) ∧ c = 0 ∧ m = 0 ∧ e = 0 ∧ (0 ≤ s ∧ s ≤ 31) ∧ (0 ≤ q ∧ q ≤ 255) ∧ (0 ≤ o ∧ o ≤ 255)) := by
  have k1 : decide ((3 : Int) = 1) = false := rfl
  have k2 : decide ((3 : Int) = 2) = false := rfl
  rw [Bool.eq_iff_iff]
  simp only [chB, tgB, inB, erB, k1, k2, decide_true, cond_true, cond_false, Bool.and_eq_true, Bool.or_eq_true, decide_eq_true_eq, Bool.not_eq_true', decide_eq_false_iff_not]
  constructor <;> intro h <;> omega
theorem chB_4 {s d q o c m e t u v : Int} {x : ByteArray} : chB 4 s d q o c m e t u v x = decide ((d = -1 ∨ ((0 ≤ d ∧ d ≤ 31) ∧ d ≠ s)) ∧ c = 0 ∧ m = 0 ∧ e = 0 ∧ t = 0 ∧ u = 0 ∧ v = 0 ∧ (0 ≤ s ∧ s ≤ 31) ∧ (0 ≤ q ∧ q ≤ 255) ∧ (0 ≤ o ∧ o ≤ 255)) := by
  have k1 : decide ((4 : Int) = 1) = false := rfl
  have k2 : decide ((4 : Int) = 2) = false := rfl
  have k3 : decide ((4 : Int) = 3) = false := rfl
  rw [Bool.eq_iff_iff]
  simp only [chB, tgB, inB, erB, k1, k2, k3, decide_true, cond_true, cond_false, Bool.and_eq_true, Bool.or_eq_true, decide_eq_true_eq, Bool.not_eq_true', decide_eq_false_iff_not]
  constructor <;> intro h <;> omega
theorem s18_1 (n : Nat) (H : Heap) (s d q o c m e t u v : Int) (x : ByteArray) : call1 T (n + 2) (.fn 89) [.agg (fr 1 s d q o c m e t u v x)] H = some (.int .i64 (bif chB 1 s d q o c m e t u v x then 0 else 1), H) := by
  refine call_pure e89 (by rfl) ?_
  rw [chB_1]
  simp only [c89, heap0, go_sem, Int.reduceToNat, Nat.reduceAdd, Nat.reduceBEq, Nat.reduceLeDiff, Nat.reduceLT, Nat.reduceMul, Nat.reduceSub, Int.reduceEq, Int.reduceLT, Int.reduceLE, Int.reduceNeg, s142]
  repeat' (with_reducible refine fork_split (fun _ => ?_) (fun _ => ?_) <;> simp only [*, go_sem, Int.reduceToNat, Nat.reduceAdd, Nat.reduceBEq, Nat.reduceLeDiff, Nat.reduceLT, Nat.reduceMul, Nat.reduceSub, Int.reduceEq, Int.reduceLT, Int.reduceLE, Int.reduceNeg, s142])
  all_goals (simp only [inB_t, inB_f, decide_eq_true_eq, decide_eq_false_iff_not] at *; refine congrArg some (congrArg (SV.int .i64) ?_); first | (rw [decide_eq_false (by omega)]; rfl) | (rw [decide_eq_true (by omega)]; rfl))
theorem s18_2 (n : Nat) (H : Heap) (s d q o c m e t u v : Int) (x : ByteArray) : call1 T (n + 2) (.fn 89) [.agg (fr 2 s d q o c m e t u v x)] H = some (.int .i64 (bif chB 2 s d q o c m e t u v x then 0 else 1), H) := by
  refine call_pure e89 (by rfl) ?_
  rw [chB_2]
  cases hx : decide (x = ⟨#[]⟩) <;> simp only [c89, heap0, go_sem, Int.reduceToNat, Nat.reduceAdd, Nat.reduceBEq, Nat.reduceLeDiff, Nat.reduceLT, Nat.reduceMul, Nat.reduceSub, Int.reduceEq, Int.reduceLT, Int.reduceLE, Int.reduceNeg, s142, hx]
  all_goals repeat' (with_reducible refine fork_split (fun _ => ?_) (fun _ => ?_) <;> simp only [*, go_sem, Int.reduceToNat, Nat.reduceAdd, Nat.reduceBEq, Nat.reduceLeDiff, Nat.reduceLT, Nat.reduceMul, Nat.reduceSub, Int.reduceEq, Int.reduceLT, Int.reduceLE, Int.reduceNeg, s142])
  all_goals (simp only [inB_t, inB_f, decide_eq_true_eq, decide_eq_false_iff_not] at *; refine congrArg some (congrArg (SV.int .i64) ?_); first | (rw [decide_eq_false (by omega)]; rfl) | (rw [decide_eq_true (by omega)]; rfl))
theorem s18_3 (n : Nat) (H : Heap) (s d q o c m e t u v : Int) (x : ByteArray) : call1 T (n + 2) (.fn 89) [.agg (fr 3 s d q o c m e t u v x)] H = some (.int .i64 (bif chB 3 s d q o c m e t u v x then 0 else 1), H) := by
  refine call_pure e89 (by rfl) ?_
  rw [chB_3]
  simp only [c89, heap0, go_sem, Int.reduceToNat, Nat.reduceAdd, Nat.reduceBEq, Nat.reduceLeDiff, Nat.reduceLT, Nat.reduceMul, Nat.reduceSub, Int.reduceEq, Int.reduceLT, Int.reduceLE, Int.reduceNeg, s142]
  repeat' (with_reducible refine fork_split (fun _ => ?_) (fun _ => ?_) <;> simp only [*, go_sem, Int.reduceToNat, Nat.reduceAdd, Nat.reduceBEq, Nat.reduceLeDiff, Nat.reduceLT, Nat.reduceMul, Nat.reduceSub, Int.reduceEq, Int.reduceLT, Int.reduceLE, Int.reduceNeg, s142])
  all_goals (simp only [inB_t, inB_f, decide_eq_true_eq, decide_eq_false_iff_not] at *; refine congrArg some (congrArg (SV.int .i64) ?_); first | (rw [decide_eq_false (by omega)]; rfl) | (rw [decide_eq_true (by omega)]; rfl))
theorem s18_4 (n : Nat) (H : Heap) (s d q o c m e t u v : Int) (x : ByteArray) : call1 T (n + 2) (.fn 89) [.agg (fr 4 s d q o c m e t u v x)] H = some (.int .i64 (bif chB 4 s d q o c m e t u v x then 0 else 1), H) := by
  refine call_pure e89 (by rfl) ?_
  rw [chB_4]
  simp only [c89, heap0, go_sem, Int.reduceToNat, Nat.reduceAdd, Nat.reduceBEq, Nat.reduceLeDiff, Nat.reduceLT, Nat.reduceMul, Nat.reduceSub, Int.reduceEq, Int.reduceLT, Int.reduceLE, Int.reduceNeg, s142]
  repeat' (with_reducible refine fork_split (fun _ => ?_) (fun _ => ?_) <;> simp only [*, go_sem, Int.reduceToNat, Nat.reduceAdd, Nat.reduceBEq, Nat.reduceLeDiff, Nat.reduceLT, Nat.reduceMul, Nat.reduceSub, Int.reduceEq, Int.reduceLT, Int.reduceLE, Int.reduceNeg, s142])
  all_goals (simp only [inB_t, inB_f, decide_eq_true_eq, decide_eq_false_iff_not] at *; refine congrArg some (congrArg (SV.int .i64) ?_); first | (rw [decide_eq_false (by omega)]; rfl) | (rw [decide_eq_true (by omega)]; rfl))
theorem s89 (n : Nat) (H : Heap) (k s d q o c m e t u v : Int) (x : ByteArray) : call1 T (n + 2) (.fn 89) [.agg (fr k s d q o c m e t u v x)] H = some (.int .i64 (bif chB k s d q o c m e t u v x then 0 else 1), H) := by
  by_cases h1 : k = 1
  · subst h1; exact s18_1 n H s d q o c m e t u v x
  · by_cases h2 : k = 2
    · subst h2; exact s18_2 n H s d q o c m e t u v x
    · by_cases h3 : k = 3
      · subst h3; exact s18_3 n H s d q o c m e t u v x
      · by_cases h4 : k = 4
        · subst h4; exact s18_4 n H s d q o c m e t u v x
        · have hc : chB k s d q o c m e t u v x = false := by
            unfold chB; rw [decide_eq_false h1, decide_eq_false h2, decide_eq_false h3, decide_eq_false h4]; rfl
          have d1 := decide_eq_false h1
          have d2 := decide_eq_false h2
          have d3 := decide_eq_false h3
          have d4 := decide_eq_false h4
          refine call_pure e89 (by rfl) ?_
          rw [hc]
          simp only [c89, heap0, go_sem, Int.reduceToNat, Nat.reduceAdd, Nat.reduceBEq, Nat.reduceLeDiff, Nat.reduceLT, Nat.reduceMul, Nat.reduceSub, Int.reduceEq, Int.reduceLT, Int.reduceLE, Int.reduceNeg, s142, d1, d2, d3, d4]
end C13
end Go.Sh
namespace Go.Sh
set_option linter.unusedSectionVars false
set_option linter.unnecessarySimpa false
set_option linter.unusedVariables false
set_option linter.unusedSimpArgs false
set_option maxRecDepth 100000
set_option maxHeartbeats 4000000
namespace C13
def b8S (bs : List Bool) : List (List SV) := bs.map fun b => [.int .u8 (bt b : Nat)]
@[go_sem] theorem b8S_len {bs : List Bool} : (b8S bs).length = bs.length := by simp [b8S]
@[go_sem] theorem b8S_get (bs : List Bool) (i : Nat) : (b8S bs)[i]? = (bs[i]?).map (fun b => [.int .u8 (bt b : Nat)]) := by simp [b8S]
theorem b8S_app (bs : List Bool) (b : Bool) : b8S bs ++ [[.int .u8 (bt b : Nat)]] = b8S (bs ++ [b]) := by simp [b8S]
abbrev rB (bs : List Bool) : SBlk := .box [.slc 2 bs.length 0 bs.length, .int .i64 0]
abbrev rA (bs : List Bool) : SBlk := .arr bs.length 1 (b8S bs) false
abbrev rH (b0 : SBlk) (bs : List Bool) (tl : List SBlk) (es : List (Nat × Nat)) : Heap := ⟨b0 :: rB bs :: rA bs :: tl, es, 0⟩
abbrev rk (w : Nat) : List (Nat × Nat) := List.replicate w (1, 3)
def andI (a b : Int) : Int := IntKind.wrap .i64 ((BitVec.ofInt 64 a &&& BitVec.ofInt 64 b).toNat)
@[go_sem high] theorem sb_and64 (a b : Int) : sbin .and (.int .i64 a) (.int .i64 b) = some (.int .i64 (andI a b)) := by
  simp only [sbin, beq_self_eq_true, cond_true]; rfl
theorem andI_one (a : Int) : andI a 1 = a % 2 := by
  unfold andI
  have h3 : (BitVec.ofInt 64 1).toNat = 1 := by decide
  rw [BitVec.toNat_and, h3, Nat.and_one_is_mod, BitVec.toNat_ofInt]
  have hw : IntKind.wrap .i64 (((a % (2 ^ 64 : Nat)).toNat % 2 : Nat) : Int) = (((a % (2 ^ 64 : Nat)).toNat % 2 : Nat) : Int) := w64_id (by omega) (by omega)
  rw [hw]
  omega
def BitsOf (w : Nat) (v' : Int) (v : Nat) : Prop := ∀ i, i < w → IntKind.u8.wrap (andI (v'.fdiv (2 ^ min i 64)) 1) = (bt (v.testBit i) : Nat)
theorem bitsOf_nat (w v : Nat) (hw : w ≤ 63) : BitsOf w (v : Int) v := by
  intro i hi
  rw [Nat.min_eq_left (by omega), fdiv_nat, andI_one, bt_bit]
  rw [wrap8 (by omega) (by omega)]
  rfl
theorem bitsOf_sg (x : Int) : BitsOf 16 x (sgN x) := by
  intro i hi
  have hp : (0 : Int) ≤ 2 ^ i := Int.pow_nonneg (by decide)
  rw [Nat.min_eq_left (by omega), andI_one, bt_bit, Int.fdiv_eq_ediv_of_nonneg _ hp]
  rw [wrap8 (by omega) (by omega)]
  unfold sgN
  have : i = 0 ∨ i = 1 ∨ i = 2 ∨ i = 3 ∨ i = 4 ∨ i = 5 ∨ i = 6 ∨ i = 7 ∨ i = 8 ∨ i = 9 ∨ i = 10 ∨ i = 11 ∨ i = 12 ∨ i = 13 ∨ i = 14 ∨ i = 15 := by omega
  rcases this with rfl | rfl | rfl | rfl | rfl | rfl | rfl | rfl | rfl | rfl | rfl | rfl | rfl | rfl | rfl | rfl <;> omega
section
variable (b0 : SBlk) (tl : List SBlk) (es : List (Nat × Nat)) (bs : List Bool)
theorem s143 (n : Nat) (w : Nat) (hb : bs.length + w ≤ 524288) : call1 T (n + 1) (.fn 143) [.ptr 1 0 0 0, .int .i64 w] (rH b0 bs tl es) = some (.bool true, rH b0 bs tl es) := by
  refine call_in e143 (by rfl) ?_
  have hs : w64 ((bs.length : Int) + w) = bs.length + w := w64_id (by omega) (by omega)
  have hx2 : decide ((524288 : Int) < (bs.length : Int) + w) = false := decide_eq_false (by omega)
  have l3 : decide (3 ≤ tl.length + 1 + 1 + 1) = true := decide_eq_true (by omega)
  simp only [c143, go_sem, Int.reduceToNat, Nat.reduceAdd, Nat.reduceBEq, Nat.reduceLeDiff, Nat.reduceLT, Nat.reduceMul, Nat.reduceSub, Int.reduceEq, Int.reduceLT, Int.reduceLE, Int.reduceNeg, hs, hx2, l3]
theorem s144 (n : Nat) (w v : Nat) (v' : Int) (hw : w ≤ 63) (hv : BitsOf w v' v) (hb : bs.length + w ≤ 600000) : call1 T (n + 1) (.fn 144) [.ptr 1 0 0 0, .int .i64 w, .int .i64 v'] (rH b0 bs tl es) = some (.tup [], rH b0 (bs ++ bits w v) tl (es ++ rk w)) := by
  refine call_in e144 (by rfl) ?_
  have hw1 : w64 ((w : Int) - 1) = (w : Int) - 1 := w64_id (by omega) (by omega)
  have hN : decide (max 2 0 ≤ tl.length + 1 + 1 + 1) = true := decide_eq_true (by omega)
  have l0 : decide (0 < tl.length + 1 + 1 + 1) = true := decide_eq_true (by omega)
  have l1 : decide (1 < tl.length + 1 + 1 + 1) = true := decide_eq_true (by omega)
  have l2 : decide (2 < tl.length + 1 + 1 + 1) = true := decide_eq_true (by omega)
  have l3' : decide (tl.length + 1 + 1 + 1 < 3) = false := decide_eq_false (by omega)
  have l3 : decide (3 ≤ tl.length + 1 + 1 + 1) = true := decide_eq_true (by omega)
  simp only [c144, go_sem, Int.reduceToNat, Nat.reduceAdd, Nat.reduceBEq, Nat.reduceLeDiff, Nat.reduceLT, Nat.reduceMul, Nat.reduceSub, Int.reduceEq, Int.reduceLT, Int.reduceLE, Int.reduceNeg]
  refine loop_rule (fun j => ([(0, .ptr 1 0 0 0), (2, .int .i64 v'), (6, .int .i64 ((w : Int) - 1 - (j : Int)))], ⟨b0 :: rB (bs ++ (bits w v).take j) :: rA (bs ++ (bits w v).take j) :: tl, rk j, 0⟩)) (fun _ => True) w ?_ trivial ?_
  · simp only [go_sem, Int.reduceToNat, Nat.reduceAdd, Nat.reduceBEq, Nat.reduceLeDiff, Nat.reduceLT, Nat.reduceMul, Nat.reduceSub, Int.reduceEq, Int.reduceLT, Int.reduceLE, Int.reduceNeg, hw1, List.take_zero, List.append_nil, Int.sub_zero, hN, Int.natCast_zero, Int.ofNat_zero]
    try rfl
  · intro j hj _
    rcases Nat.lt_or_ge j w with hlt | hge
    · have hx : decide ((0 : Int) ≤ (w : Int) - 1 - j) = true := decide_eq_true (by omega)
      have hs : w64 ((w : Int) - 1 - j - 1) = (w : Int) - 1 - (j + 1 : Nat) := by rw [w64_id (by omega) (by omega)]; omega
      have hB : (bs ++ (bits w v).take j).length = bs.length + j := by rw [List.length_append, List.length_take, bits_len]; omega
      have hB' : bs ++ (bits w v).take (j + 1) = (bs ++ (bits w v).take j) ++ [v.testBit (w - 1 - j)] := by rw [bits_take hlt, List.append_assoc]
      have hi : ((w : Int) - 1 - j).toNat = w - 1 - j := by omega
      have hE := hv (w - 1 - j) (by omega)
      obtain ⟨b, hb'⟩ : ∃ b, v.testBit (w - 1 - j) = b := ⟨_, rfl⟩
      obtain ⟨B, hBd⟩ : ∃ B, bs ++ (bits w v).take j = B := ⟨_, rfl⟩
      rw [hb', hBd] at hB'
      rw [hBd] at hB
      rw [hb'] at hE
      have hl1 : (B ++ [b]).length = B.length + 1 := by simp
      have gb := fun H => apB_grow 1 H 2 B.length B.length [[.int .u8 (bt b : Nat)]] (b8S B) b8S_len
      have hr : decide ((B.length + 1) * 1 ≤ mostLen) = true := decide_eq_true (Nat.le_trans (show (B.length + 1) * 1 ≤ 1000000 by omega) (by decide))
      have ha := b8S_app B b
      simp only [go_sem, Int.reduceToNat, Nat.reduceAdd, Nat.reduceBEq, Nat.reduceLeDiff, Nat.reduceLT, Nat.reduceMul, Nat.reduceSub, Int.reduceEq, Int.reduceLT, Int.reduceLE, Int.reduceNeg, hx, hi, hE, hBd, gb, hr, l0, l1, l2, l3, l3', hN, hs, hB', hl1, ha, List.replicate_succ, List.filter_replicate, List.all_replicate, ite_self, if_true]
      refine ⟨by first | trivial | omega, by simp only [rB, rA, hl1], trivial⟩
    · obtain rfl : j = w := by omega
      have hx : decide ((0 : Int) ≤ (j : Int) - 1 - j) = false := decide_eq_false (by omega)
      have ht : (bits j v).take j = bits j v := List.take_of_length_le (by rw [bits_len]; exact Nat.le_refl _)
      simp only [go_sem, Int.reduceToNat, Nat.reduceAdd, Nat.reduceBEq, Nat.reduceLeDiff, Nat.reduceLT, Nat.reduceMul, Nat.reduceSub, Int.reduceEq, Int.reduceLT, Int.reduceLE, Int.reduceNeg, hx, ht, hN, l0, l1, l2, l3, l3', List.filter_replicate, List.all_replicate, ite_self, if_true]
theorem s91 (n : Nat) (w v : Nat) (h1 : 1 ≤ w) (hw : w ≤ 62) (hv : v < 2 ^ w) (hb : bs.length + w ≤ 524288) : call1 T (n + 2) (.fn 91) [.ptr 1 0 0 0, .int .i64 w, .int .i64 v] (rH b0 bs tl es) = some (.tup [], rH b0 (bs ++ bits w v) tl (es ++ rk w)) := by
  refine call_in e91 (by rfl) ?_
  have h63 := fun es => s143 b0 tl es bs n w hb
  have h64 := fun es => s144 b0 tl es bs n w v v (by omega) (bitsOf_nat w v (by omega)) (by omega)
  have h62 : 2 ^ w ≤ 2 ^ 62 := Nat.pow_le_pow_right (by decide) hw
  have x1 : decide ((w : Int) < 1) = false := decide_eq_false (by omega)
  have x2 : decide ((63 : Int) < (w : Int)) = false := decide_eq_false (by omega)
  have x3 : decide ((v : Int) < 0) = false := decide_eq_false (by omega)
  have x4 : decide ((w : Int) < 63) = true := decide_eq_true (by omega)
  have x5 : w64 (1 * 2 ^ min w 64) = ((2 ^ w : Nat) : Int) := by
    rw [Nat.min_eq_left (by omega), show ((1 : Int) * 2 ^ w) = ((2 ^ w : Nat) : Int) by rw [Int.one_mul, Int.natCast_pow]; rfl]
    exact w64_id (by omega) (by omega)
  have x6 : decide ((((2 ^ w : Nat)) : Int) ≤ (v : Int)) = false := decide_eq_false (by omega)
  have x7 : decide ((0 : Int) ≤ (w : Int)) = true := decide_eq_true (by omega)
  have l0 : decide (0 < tl.length + 1 + 1 + 1) = true := decide_eq_true (by omega)
  have l1 : decide (1 < tl.length + 1 + 1 + 1) = true := decide_eq_true (by omega)
  have l2 : decide (2 < tl.length + 1 + 1 + 1) = true := decide_eq_true (by omega)
  have l3' : decide (tl.length + 1 + 1 + 1 < 3) = false := decide_eq_false (by omega)
  have l3 : decide (3 ≤ tl.length + 1 + 1 + 1) = true := decide_eq_true (by omega)
  simp only [c91, go_sem, Int.reduceToNat, Nat.reduceAdd, Nat.reduceBEq, Nat.reduceLeDiff, Nat.reduceLT, Nat.reduceMul, Nat.reduceSub, Int.reduceEq, Int.reduceLT, Int.reduceLE, Int.reduceNeg, h63, h64, x1, x2, x3, x4, x5, x6, Int.toNat_natCast, l0, l1, l2, l3, l3', List.filter_replicate, List.all_replicate, List.filter_append, List.all_append, Bool.and_self, ite_self, if_true, List.append_assoc]
theorem s92 (n : Nat) (f : Bool) (hb : bs.length + 1 ≤ 524288) : call1 T (n + 2) (.fn 92) [.ptr 1 0 0 0, .bool f] (rH b0 bs tl es) = some (.tup [], rH b0 (bs ++ bits 1 (bt f)) tl (es ++ rk 1)) := by
  refine call_in e92 (by rfl) ?_
  have h63 : ∀ es, call1 T (n + 1) (.fn 143) [.ptr 1 0 0 0, .int .i64 1] (rH b0 bs tl es) = some (.bool true, rH b0 bs tl es) := fun es => s143 b0 tl es bs n 1 hb
  have hl1 : ∀ b : Bool, (bs ++ [b]).length = bs.length + 1 := fun b => by simp
  have hr : decide ((bs.length + 1) * 1 ≤ mostLen) = true := decide_eq_true (Nat.le_trans (show (bs.length + 1) * 1 ≤ 1000000 by omega) (by decide))
  have hb1 : bits 1 1 = [true] := by rfl
  have hb0 : bits 1 0 = [false] := by rfl
  have l0 : decide (0 < tl.length + 1 + 1 + 1) = true := decide_eq_true (by omega)
  have l1 : decide (1 < tl.length + 1 + 1 + 1) = true := decide_eq_true (by omega)
  have l2 : decide (2 < tl.length + 1 + 1 + 1) = true := decide_eq_true (by omega)
  have l3' : decide (tl.length + 1 + 1 + 1 < 3) = false := decide_eq_false (by omega)
  have l3 : decide (3 ≤ tl.length + 1 + 1 + 1) = true := decide_eq_true (by omega)
  cases f with
  | true =>
    have gb := fun H => apB_grow 1 H 2 bs.length bs.length [[.int .u8 1]] (b8S bs) b8S_len
    have ha : b8S bs ++ [[SV.int .u8 1]] = b8S (bs ++ [true]) := b8S_app bs true
    simp only [c92, go_sem, Int.reduceToNat, Nat.reduceAdd, Nat.reduceBEq, Nat.reduceLeDiff, Nat.reduceLT, Nat.reduceMul, Nat.reduceSub, Int.reduceEq, Int.reduceLT, Int.reduceLE, Int.reduceNeg, h63, gb, hr, ha, bt, hb1, hl1, List.replicate_succ, List.replicate_zero, rH, rB, rA, l0, l1, l2, l3, l3', List.filter_replicate, List.all_replicate, List.filter_append, List.all_append, Bool.and_self, ite_self, if_true, List.append_assoc]
  | false =>
    have gb := fun H => apB_grow 1 H 2 bs.length bs.length [[.int .u8 0]] (b8S bs) b8S_len
    have ha : b8S bs ++ [[SV.int .u8 0]] = b8S (bs ++ [false]) := b8S_app bs false
    simp only [c92, go_sem, Int.reduceToNat, Nat.reduceAdd, Nat.reduceBEq, Nat.reduceLeDiff, Nat.reduceLT, Nat.reduceMul, Nat.reduceSub, Int.reduceEq, Int.reduceLT, Int.reduceLE, Int.reduceNeg, h63, gb, hr, ha, bt, hb0, hl1, List.replicate_succ, List.replicate_zero, rH, rB, rA, l0, l1, l2, l3, l3', List.filter_replicate, List.all_replicate, List.filter_append, List.all_append, Bool.and_self, ite_self, if_true, List.append_assoc]
theorem s93 (n : Nat) (x : Int) (h0 : -32768 ≤ x) (h1 : x ≤ 32767) (hb : bs.length + 16 ≤ 524288) : call1 T (n + 2) (.fn 93) [.ptr 1 0 0 0, .int .i64 16, .int .i64 x] (rH b0 bs tl es) = some (.tup [], rH b0 (bs ++ bits 16 (sgN x)) tl (es ++ rk 16)) := by
  refine call_in e93 (by rfl) ?_
  have h63 : ∀ es, call1 T (n + 1) (.fn 143) [.ptr 1 0 0 0, .int .i64 16] (rH b0 bs tl es) = some (.bool true, rH b0 bs tl es) := fun es => s143 b0 tl es bs n 16 hb
  have h64 : ∀ es, call1 T (n + 1) (.fn 144) [.ptr 1 0 0 0, .int .i64 16, .int .i64 x] (rH b0 bs tl es) = some (.tup [], rH b0 (bs ++ bits 16 (sgN x)) tl (es ++ rk 16)) := fun es => s144 b0 tl es bs n 16 (sgN x) x (by omega) (bitsOf_sg x) (by omega)
  have m2 : w64 (16 - 1) = 15 := by decide
  have m3 : w64 (1 * 2 ^ min 15 64) = 32768 := by decide
  have m4 : w64 (-32768) = -32768 := by decide
  have m5 : w64 (32768 - 1) = 32767 := by decide
  have m6 : w64 (0 - 32768) = -32768 := by decide
  have x1 : decide (x < -32768) = false := decide_eq_false (by omega)
  have x2 : decide (32767 < x) = false := decide_eq_false (by omega)
  have l0 : decide (0 < tl.length + 1 + 1 + 1) = true := decide_eq_true (by omega)
  have l1 : decide (1 < tl.length + 1 + 1 + 1) = true := decide_eq_true (by omega)
  have l2 : decide (2 < tl.length + 1 + 1 + 1) = true := decide_eq_true (by omega)
  have l3' : decide (tl.length + 1 + 1 + 1 < 3) = false := decide_eq_false (by omega)
  have l3 : decide (3 ≤ tl.length + 1 + 1 + 1) = true := decide_eq_true (by omega)
  simp only [c93, go_sem, Int.reduceToNat, Nat.reduceAdd, Nat.reduceBEq, Nat.reduceLeDiff, Nat.reduceLT, Nat.reduceMul, Nat.reduceSub, Int.reduceEq, Int.reduceLT, Int.reduceLE, Int.reduceNeg, h63, h64, m2, m3, m4, m5, m6, x1, x2, l0, l1, l2, l3, l3', List.filter_replicate, List.all_replicate, List.filter_append, List.all_append, Bool.and_self, ite_self, if_true, List.append_assoc]
end
theorem s145 (n : Nat) (H : Heap) : call1 T (n + 1) (.fn 145) [.int .i64 127] H = some (.int .i64 7, H) := pure_any e145 (by rfl) (callB_up (T := T) 100 (n + 1) (.fn 145) [.int .i64 127] heap0 (.int .i64 7, heap0) (by kernel_rfl))
end C13
end Go.Sh
namespace Go.Sh
set_option linter.unusedSectionVars false
set_option linter.unnecessarySimpa false
set_option linter.unusedVariables false
set_option linter.unusedSimpArgs false
set_option maxRecDepth 100000
set_option maxHeartbeats 4000000
namespace C13
section
variable (b0 : SBlk) (tl : List SBlk) (es : List (Nat × Nat)) (bs : List Bool)
theorem rk_add (a b : Nat) : rk a ++ rk b = rk (a + b) := List.replicate_append_replicate
theorem s94 (n : Nat) (x : ByteArray) (hx : x.size ≤ 127) (hb : bs.length ≤ 1000) :
    call1 T (n + 2) (.fn 94) [.ptr 1 0 0 0, .int .i64 127, .str x] (rH b0 bs tl es) = some (.tup [], rH b0 (bs ++ bits 7 x.size ++ txB x x.size) tl (es ++ rk (7 + 8 * x.size))) := by
  refine call_in e94 (by rfl) ?_
  have h65 := fun H => s145 n H
  have h63 : ∀ es, call1 T (n + 1) (.fn 143) [.ptr 1 0 0 0, .int .i64 (7 + 8 * (x.size : Int))] (rH b0 bs tl es) = some (.bool true, rH b0 bs tl es) := fun es => by
    have := s143 b0 tl es bs n (7 + 8 * x.size) (by omega)
    rw [show (((7 + 8 * x.size : Nat)) : Int) = 7 + 8 * (x.size : Int) by omega] at this
    exact this
  have x1 : decide ((127 : Int) < (x.size : Int)) = false := decide_eq_false (by omega)
  have w2 : w64 (8 * (x.size : Int)) = 8 * (x.size : Int) := w64_id (by omega) (by omega)
  have w3 : w64 (7 + 8 * (x.size : Int)) = 7 + 8 * (x.size : Int) := w64_id (by omega) (by omega)
  have h64 : ∀ es, call1 T (n + 1) (.fn 144) [.ptr 1 0 0 0, .int .i64 7, .int .i64 x.size] (rH b0 bs tl es) = some (.tup [], rH b0 (bs ++ bits 7 x.size) tl (es ++ rk 7)) := fun es => s144 b0 tl es bs n 7 x.size x.size (by omega) (bitsOf_nat 7 _ (by omega)) (by omega)
  have l0 : decide (0 < tl.length + 1 + 1 + 1) = true := decide_eq_true (by omega)
  have l1 : decide (1 < tl.length + 1 + 1 + 1) = true := decide_eq_true (by omega)
  have l2 : decide (2 < tl.length + 1 + 1 + 1) = true := decide_eq_true (by omega)
  have l3' : decide (tl.length + 1 + 1 + 1 < 3) = false := decide_eq_false (by omega)
  have l3 : decide (3 ≤ tl.length + 1 + 1 + 1) = true := decide_eq_true (by omega)
  have hN : decide (max 2 0 ≤ tl.length + 1 + 1 + 1) = true := decide_eq_true (by omega)
  simp only [c94, go_sem, Int.reduceToNat, Nat.reduceAdd, Nat.reduceBEq, Nat.reduceLeDiff, Nat.reduceLT, Nat.reduceMul, Nat.reduceSub, Int.reduceEq, Int.reduceLT, Int.reduceLE, Int.reduceNeg, h65, h63, x1, w2, w3, h64, l0, l1, l2, l3, l3', List.filter_replicate, List.all_replicate, ite_self, if_true]
  have hP : (bs ++ bits 7 x.size).length = bs.length + 7 := by rw [List.length_append, bits_len]
  obtain ⟨P, hPd⟩ : ∃ P, bs ++ bits 7 x.size = P := ⟨_, rfl⟩
  rw [hPd] at hP ⊢
  rw [← rk_add, ← List.append_assoc]
  have hx2 : x.size ≤ maxLen := Nat.le_trans hx (by decide)
  refine loop_rule (fun i => ([(0, .ptr 1 0 0 0), (2, .str x), (6, .int .i64 i)], ⟨b0 :: rB (P ++ txB x i) :: rA (P ++ txB x i) :: tl, rk (8 * i), 0⟩)) (fun _ => True) x.size ?_ trivial ?_
  · simp only [go_sem, Int.reduceToNat, Nat.reduceAdd, Nat.reduceBEq, Nat.reduceLeDiff, Nat.reduceLT, Nat.reduceMul, Nat.reduceSub, Int.reduceEq, Int.reduceLT, Int.reduceLE, Int.reduceNeg, hN, l0, l1, l2, l3, l3', txB, List.append_nil, Nat.mul_zero, List.replicate_zero]
    try rfl
  · intro i hi _
    rcases Nat.lt_or_ge i x.size with hlt | hge
    · have hs := w64_suc hlt hx2
      have hd : x.data[i]? = some x.data[i] := Array.getElem?_eq_getElem (by exact hlt)
      have hv := UInt8.toNat_lt x.data[i]
      have hu8 : w64 ((x.data[i].toNat : Nat) : Int) = (x.data[i].toNat : Nat) := w64_id (by omega) (by omega)
      have h1 : ∀ es, call1 T (n + 1) (.fn 144) [.ptr 1 0 0 0, .int .i64 8, .int .i64 (x.data[i].toNat : Nat)] (rH b0 (P ++ txB x i) tl es) = some (.tup [], rH b0 (P ++ txB x i ++ bits 8 x.data[i].toNat) tl (es ++ rk 8)) :=
        fun es => s144 b0 tl es (P ++ txB x i) n 8 x.data[i].toNat x.data[i].toNat (by omega) (bitsOf_nat 8 _ (by omega)) (by rw [List.length_append, txB_len]; omega)
      have hB : P ++ txB x i ++ bits 8 x.data[i].toNat = P ++ txB x (i + 1) := by simp only [txB, hd, Option.getD_some, List.append_assoc]
      have hE : rk (8 * i) ++ rk 8 = rk (8 * (i + 1)) := by rw [rk_add]; rfl
      rw [hB] at h1
      have h1 := h1 (rk (8 * i))
      rw [hE] at h1
      simp only [go_sem, Int.reduceToNat, Nat.reduceAdd, Nat.reduceBEq, Nat.reduceLeDiff, Nat.reduceLT, Nat.reduceMul, Nat.reduceSub, Int.reduceEq, Int.reduceLT, Int.reduceLE, Int.reduceNeg, hlt, hd, hu8, h1, hs, hN, l0, l1, l2, l3, l3', List.filter_replicate, List.all_replicate, ite_self, if_true]
      refine ⟨by first | trivial | omega, by first | trivial | rfl, trivial⟩
    · obtain rfl : i = x.size := by omega
      have hd : decide (x.size < x.size) = false := decide_eq_false (by omega)
      simp only [go_sem, Int.reduceToNat, Nat.reduceAdd, Nat.reduceBEq, Nat.reduceLeDiff, Nat.reduceLT, Nat.reduceMul, Nat.reduceSub, Int.reduceEq, Int.reduceLT, Int.reduceLE, Int.reduceNeg, hd, hN, l0, l1, l2, l3, l3', List.filter_replicate, List.all_replicate, List.filter_append, List.all_append, ite_self, if_true, Bool.and_self, List.append_assoc]
end
def orI8 (a b : Int) : Int := IntKind.u8.wrap ((BitVec.ofInt 8 a ||| BitVec.ofInt 8 b).toNat)
@[go_sem high] theorem sb_or8 (a b : Int) : sbin .or (.int .u8 a) (.int .u8 b) = some (.int .u8 (orI8 a b)) := by
  simp only [sbin, beq_self_eq_true, cond_true]; rfl
theorem or_bit (B : List Bool) (b : Bool) : orI8 (byteN B (B.length / 8) : Nat) (IntKind.u8.wrap ((bt b : Nat) * 2 ^ min (7 - B.length % 8) 8)) = (byteN (B ++ [b]) (B.length / 8) : Nat) := by
  have hb := bt_le b
  have h1 := bt_pow b (B.length % 8) (Nat.mod_lt _ (by decide))
  have h2 : 2 ^ (8 - B.length % 8) ≤ 2 ^ 8 := Nat.pow_le_pow_right (by decide) (by omega)
  have h3 : bt b * 2 ^ (7 - B.length % 8) < 256 := by omega
  have h4 := byteN_lt B (B.length / 8)
  have h5 := byteN_lt (B ++ [b]) (B.length / 8)
  have h6 : ((bt b : Nat) : Int) * 2 ^ (7 - B.length % 8) = ((bt b * 2 ^ (7 - B.length % 8) : Nat) : Int) := by rw [Int.natCast_mul, Int.natCast_pow]; rfl
  unfold orI8
  rw [Nat.min_eq_left (by omega), h6, wrap8 (n := ((bt b * 2 ^ (7 - B.length % 8) : Nat) : Int)) (by omega) (by omega), BitVec.toNat_or, ofInt_nat8 _ h4, ofInt_nat8 _ h3, byteN_or]
  exact wrap8 (by omega) (by omega)
def pkZ (bs : List Bool) (i : Nat) : List (List SV) := (List.range (nb bs.length)).map fun j => [.int .u8 (byteN (bs.take i) j : Nat)]
theorem pkZ_zero (bs : List Bool) : pkZ bs 0 = List.replicate (nb bs.length) [.int .u8 0] := by
  apply List.ext_getElem?
  intro j
  simp only [pkZ, List.take_zero, List.getElem?_map, List.getElem?_replicate]
  by_cases h : j < nb bs.length
  · rw [List.getElem?_range h, if_pos h]; rfl
  · rw [List.getElem?_eq_none (by simp; omega), if_neg h]; rfl
theorem pkZ_full (bs : List Bool) : pkZ bs bs.length = pkS bs := by simp [pkZ, pkS]
theorem pkZ_get {bs : List Bool} {i : Nat} (h : i < bs.length) : (pkZ bs i)[i / 8]? = some [.int .u8 (byteN (bs.take i) (i / 8) : Nat)] := by
  simp only [pkZ, List.getElem?_map]
  rw [List.getElem?_range (by unfold nb; omega)]; rfl
theorem pkZ_set {bs : List Bool} {i : Nat} {b : Bool} (h : bs[i]? = some b) : (pkZ bs i).set (i / 8) [.int .u8 (byteN (bs.take i ++ [b]) (i / 8) : Nat)] = pkZ bs (i + 1) := by
  have hlt : i < bs.length := (List.getElem?_eq_some_iff.1 h).1
  have hl : (bs.take i).length = i := by rw [List.length_take]; omega
  have ht : bs.take (i + 1) = bs.take i ++ [b] := by rw [List.take_add_one, h]; rfl
  apply List.ext_getElem?
  intro j
  rw [List.getElem?_set]
  simp only [pkZ, List.getElem?_map, List.length_map, List.length_range]
  by_cases hj : i / 8 = j
  · subst hj
    rw [if_pos rfl, if_pos (by unfold nb; omega), List.getElem?_range (by unfold nb; omega), ht]; rfl
  · rw [if_neg hj]
    by_cases h2 : j < nb bs.length
    · rw [List.getElem?_range h2, ht]
      simp only [Option.map_some]
      rw [byteN_ne (by rw [hl]; exact fun h => hj h.symm)]
    · rw [List.getElem?_eq_none (by simp; omega)]; rfl
end C13
end Go.Sh
namespace Go.Sh
set_option linter.unusedSectionVars false
set_option linter.unnecessarySimpa false
set_option linter.unusedVariables false
set_option linter.unusedSimpArgs false
set_option maxRecDepth 100000
set_option maxHeartbeats 4000000
namespace C13
theorem mkU (H : Heap) (m : Nat) (h : m ≤ 100000) : smake 1 [.int .u8 0] 1 H (.int .i64 m) (.int .i64 m) = some (.slc H.bl.length 0 0 m, hnew H (.arr 0 1 (List.replicate m [.int .u8 0]) true)) := by
  have h1 : decide ((0 : Int) ≤ (m : Int)) = true := decide_eq_true (by omega)
  have h2 : decide ((m : Int) ≤ (m : Int)) = true := decide_eq_true (by omega)
  have h3 : decide ((m : Int) * ((1 : Nat) : Int) ≤ (mostLen : Int)) = true := decide_eq_true (by have : (mostLen : Int) = 1099511627776 := rfl; omega)
  simp only [smake, h1, h2, h3, Bool.and_self, cond_true, Int.toNat_natCast]
theorem s95 (n : Nat) (b0 : SBlk) (es : List (Nat × Nat)) (bs : List Bool) (hb : bs.length ≤ 600000) : call1 T (n + 1) (.fn 95) [.ptr 1 0 0 0] (rH b0 bs [] es) = some (.tup [.str (pkB bs), .int .i64 0], rH b0 bs [] es) := by
  refine call_in e95 (by rfl) ?_
  have w1 : w64 ((bs.length : Int) + 7) = ((bs.length + 7 : Nat) : Int) := by rw [w64_id (by omega) (by omega)]; omega
  have w2 : w64 (((bs.length + 7) / 8 : Nat) : Int) = ((nb bs.length : Nat) : Int) := by rw [w64_id (by omega) (by omega)]; rfl
  have hL : bs.length ≤ maxLen := Nat.le_trans hb (by decide)
  simp only [c95, go_sem, Int.reduceToNat, Nat.reduceAdd, Nat.reduceBEq, Nat.reduceLeDiff, Nat.reduceLT, Nat.reduceMul, Nat.reduceSub, Int.reduceEq, Int.reduceLT, Int.reduceLE, Int.reduceNeg, w1, w2, mkU _ _ (show nb bs.length ≤ 100000 by unfold nb; omega), List.length_cons, List.length_nil, ← pkZ_zero]
  refine loop_rule (fun i => ([(0, .ptr 1 0 0 0), (4, .slc 3 0 0 (nb bs.length)), (5, .int .i64 i)], ⟨[b0, rB bs, rA bs, .arr 0 1 (pkZ bs i) true], [], 0⟩)) (fun _ => True) bs.length ?_ trivial ?_
  · simp only [go_sem, Int.reduceToNat, Nat.reduceAdd, Nat.reduceBEq, Nat.reduceLeDiff, Nat.reduceLT, Nat.reduceMul, Nat.reduceSub, Int.reduceEq, Int.reduceLT, Int.reduceLE, Int.reduceNeg]
    try rfl
  · intro i hi _
    rcases Nat.lt_or_ge i bs.length with hlt | hge
    · obtain ⟨b, hbi⟩ := getS hlt
      have hs := w64_suc hlt hL
      have hw8 : w64 ((i / 8 : Nat) : Int) = ((i / 8 : Nat) : Int) := w64_id (by omega) (by omega)
      have hw7 : w64 (7 - ((i % 8 : Nat) : Int)) = ((7 - i % 8 : Nat) : Int) := by rw [w64_id (by omega) (by omega)]; omega
      have hlt1 : decide (i / 8 < nb bs.length) = true := decide_eq_true (by unfold nb; omega)
      have hg := pkZ_get hlt
      have hl : (bs.take i).length = i := by rw [List.length_take]; omega
      have hE := or_bit (bs.take i) b
      rw [hl] at hE
      have hset := pkZ_set hbi
      simp only [go_sem, Int.reduceToNat, Nat.reduceAdd, Nat.reduceBEq, Nat.reduceLeDiff, Nat.reduceLT, Nat.reduceMul, Nat.reduceSub, Int.reduceEq, Int.reduceLT, Int.reduceLE, Int.reduceNeg, hlt, hbi, hw8, hw7, hlt1, hg, hE, hset, hs, Int.toNat_natCast]
      refine ⟨by first | trivial | omega, by first | trivial | rfl, trivial⟩
    · obtain rfl : i = bs.length := by omega
      have hd : decide (bs.length < bs.length) = false := decide_eq_false (by omega)
      have ht : List.take (nb bs.length) (pkS bs) = pkS bs := List.take_of_length_le (by rw [pkS_len]; exact Nat.le_refl _)
      have hl : decide (nb bs.length ≤ (pkS bs).length) = true := decide_eq_true (by rw [pkS_len]; exact Nat.le_refl _)
      have hl2 : decide (nb bs.length ≤ nb bs.length) = true := decide_eq_true (Nat.le_refl _)
      simp only [go_sem, Int.reduceToNat, Nat.reduceAdd, Nat.reduceBEq, Nat.reduceLeDiff, Nat.reduceLT, Nat.reduceMul, Nat.reduceSub, Int.reduceEq, Int.reduceLT, Int.reduceLE, Int.reduceNeg, hd, pkZ_full, ht, hl, hl2, toB_pkS, pkB]
end C13
end Go.Sh
namespace Go.Sh
set_option linter.unusedSectionVars false
set_option linter.unnecessarySimpa false
set_option linter.unusedVariables false
set_option linter.unusedSimpArgs false
set_option maxRecDepth 100000
set_option maxHeartbeats 4000000
namespace C13
theorem tm_ge {C : W16} (h : 32768 ≤ C.toNat) : tm C = (C <<< 1) ^^^ poly := by
  unfold tm
  rw [show C.msb = true by rw [BitVec.msb_eq_decide]; exact decide_eq_true h]; rfl
theorem tm_lt {C : W16} (h : ¬ 32768 ≤ C.toNat) : tm C = C <<< 1 := by
  apply tm_low
  rw [BitVec.msb_eq_decide]; exact decide_eq_false h
theorem s212 (n : Nat) (H : Heap) (C : W16) : call1 T (n + 1) (.fn 212) [.int .u16 (C.toNat : Nat)] H = some (.int .u16 ((tm C).toNat : Nat), H) := by
  refine call_pure e212 (by rfl) ?_
  have s1 := shlW C 1 (by omega)
  have hp := xorW (C <<< 1) poly
  have hp : xorI ((C <<< 1).toNat : Nat) 4129 = ((C <<< 1 ^^^ poly).toNat : Nat) := hp
  by_cases h : 32768 ≤ C.toNat
  · have hd : decide ((32768 : Int) ≤ (C.toNat : Int)) = true := decide_eq_true (by omega)
    rw [tm_ge h]
    simp only [c212, heap0, go_sem, Int.reduceToNat, Nat.reduceAdd, Nat.reduceBEq, Nat.reduceLeDiff, Nat.reduceLT, Nat.reduceMul, Nat.reduceSub, Int.reduceEq, Int.reduceLT, Int.reduceLE, Int.reduceNeg, hd, s1, hp]
  · have hd : decide ((32768 : Int) ≤ (C.toNat : Int)) = false := decide_eq_false (by omega)
    rw [tm_lt h]
    simp only [c212, heap0, go_sem, Int.reduceToNat, Nat.reduceAdd, Nat.reduceBEq, Nat.reduceLeDiff, Nat.reduceLT, Nat.reduceMul, Nat.reduceSub, Int.reduceEq, Int.reduceLT, Int.reduceLE, Int.reduceNeg, hd, s1, hp]
def tmN (C : W16) : Nat → W16
  | 0 => C
  | j + 1 => tm (tmN C j)
theorem s187 (n : Nat) (H : Heap) (s : ByteArray) (hs : s.size ≤ 1000) : call1 T (n + 2) (.fn 187) [.int .u16 0, .str s] H = some (.int .u16 ((upd 0#16 s s.size).toNat : Nat), H) := by
  refine call_pure e187 (by rfl) ?_
  simp only [c187, heap0, go_sem, Int.reduceToNat, Nat.reduceAdd, Nat.reduceBEq, Nat.reduceLeDiff, Nat.reduceLT, Nat.reduceMul, Nat.reduceSub, Int.reduceEq, Int.reduceLT, Int.reduceLE, Int.reduceNeg]
  have hL : s.size ≤ maxLen := Nat.le_trans hs (by decide)
  refine loop_rule (fun i => ([(0, .int .u16 ((upd 0#16 s i).toNat : Nat)), (1, .str s), (5, .int .i64 i)], ⟨[], [], 0⟩)) (fun _ => True) s.size ?_ trivial ?_
  · simp only [go_sem, Int.reduceToNat, Nat.reduceAdd, Nat.reduceBEq, Nat.reduceLeDiff, Nat.reduceLT, Nat.reduceMul, Nat.reduceSub, Int.reduceEq, Int.reduceLT, Int.reduceLE, Int.reduceNeg] <;> rfl
  · intro i hi _
    rcases Nat.lt_or_ge i s.size with hlt | hge
    · have hs2 := w64_suc hlt hL
      have hd : s.data[i]? = some s.data[i] := Array.getElem?_eq_getElem (by exact hlt)
      have hu : upd 0#16 s (i + 1) = stp (upd 0#16 s i) s.data[i].toNat := by simp only [upd, hd, Option.getD_some]
      have hv := UInt8.toNat_lt s.data[i]
      obtain ⟨C, hC⟩ : ∃ C, upd 0#16 s i = C := ⟨_, rfl⟩
      obtain ⟨b, hb⟩ : ∃ b, s.data[i].toNat = b := ⟨_, rfl⟩
      rw [hC, hb] at hu
      rw [hb] at hv
      have e1 : IntKind.u16.wrap (b : Int) = ((BitVec.ofNat 16 b : W16).toNat : Nat) := by rw [wrapW, ← toW (by omega)]; omega
      have s1 := shlW (BitVec.ofNat 16 b) 8 (by omega)
      simp only [go_sem, Int.reduceToNat, Nat.reduceAdd, Nat.reduceBEq, Nat.reduceLeDiff, Nat.reduceLT, Nat.reduceMul, Nat.reduceSub, Int.reduceEq, Int.reduceLT, Int.reduceLE, Int.reduceNeg, hlt, hd, hC, hb, e1, s1, xorW]
      refine loop_post (fun j => ([(0, .int .u16 ((tmN (C ^^^ (BitVec.ofNat 16 b <<< 8)) j).toNat : Nat)), (1, .str s), (5, .int .i64 i), (6, .int .i64 j)], ⟨[], [], 0⟩)) (fun _ => True) 8 ?_ trivial ?_
      · simp only [go_sem, Int.reduceToNat, Nat.reduceAdd, Nat.reduceBEq, Nat.reduceLeDiff, Nat.reduceLT, Nat.reduceMul, Nat.reduceSub, Int.reduceEq, Int.reduceLT, Int.reduceLE, Int.reduceNeg] <;> rfl
      · intro j hj _
        rcases Nat.lt_or_ge j 8 with hlj | hgj
        · have hxj : decide ((j : Int) < 8) = true := decide_eq_true (by omega)
          have hsj : w64 ((j : Int) + 1) = ((j + 1 : Nat) : Int) := by rw [w64_id (by omega) (by omega)]; omega
          have h98 := fun H => s212 n H (tmN (C ^^^ (BitVec.ofNat 16 b <<< 8)) j)
          simp only [go_sem, Int.reduceToNat, Nat.reduceAdd, Nat.reduceBEq, Nat.reduceLeDiff, Nat.reduceLT, Nat.reduceMul, Nat.reduceSub, Int.reduceEq, Int.reduceLT, Int.reduceLE, Int.reduceNeg, hxj, hsj, h98]
          refine ⟨by first | trivial | omega, by first | trivial | rfl, trivial⟩
        · obtain rfl : j = 8 := by omega
          have ht : tmN (C ^^^ (BitVec.ofNat 16 b <<< 8)) 8 = stp C b := rfl
          have hxj : decide (((8 : Nat) : Int) < 8) = false := by decide
          simp only [go_sem, Int.reduceToNat, Nat.reduceAdd, Nat.reduceBEq, Nat.reduceLeDiff, Nat.reduceLT, Nat.reduceMul, Nat.reduceSub, Int.reduceEq, Int.reduceLT, Int.reduceLE, Int.reduceNeg, hxj, ht, hs2, hu]
          refine ⟨by first | trivial | omega, by first | trivial | rfl, trivial⟩
    · obtain rfl : i = s.size := by omega
      have hd : decide (s.size < s.size) = false := decide_eq_false (by omega)
      simp only [go_sem, Int.reduceToNat, Nat.reduceAdd, Nat.reduceBEq, Nat.reduceLeDiff, Nat.reduceLT, Nat.reduceMul, Nat.reduceSub, Int.reduceEq, Int.reduceLT, Int.reduceLE, Int.reduceNeg, hd]
theorem s146 (n : Nat) (H : Heap) (s : ByteArray) (hs : s.size ≤ 1000) : call1 T (n + 3) (.fn 146) [.str s] H = some (.int .u16 ((crcN s).toNat : Nat), H) := by
  refine call_pure e146 (by rfl) ?_
  simp only [c146, heap0, go_sem, Int.reduceToNat, Nat.reduceAdd, Nat.reduceBEq, Nat.reduceLeDiff, Nat.reduceLT, Nat.reduceMul, Nat.reduceSub, Int.reduceEq, Int.reduceLT, Int.reduceLE, Int.reduceNeg, s187 _ _ _ hs, crcN]
theorem s96 (n : Nat) (H : Heap) (s : ByteArray) (hs : s.size ≤ 1000) : call1 T (n + 4) (.fn 96) [.str s] H = some (.str (prot s), H) := by
  refine call_pure e96 (by rfl) ?_
  obtain ⟨C, hC⟩ : ∃ C, crcN s = C := ⟨_, rfl⟩
  have h : ∀ H, call1 T (n + 3) (.fn 146) [.str s] H = some (.int .u16 (C.toNat : Nat), H) := fun H => hC ▸ s146 n H s hs
  have hz : decide (s.size + #[UInt8.ofNat (C.toNat / 256), UInt8.ofNat (C.toNat % 256)].size ≤ 4611686018427387904) = true := decide_eq_true (show s.size + 2 ≤ 4611686018427387904 by omega)
  simp only [c96, heap0, go_sem, Int.reduceToNat, Nat.reduceAdd, Nat.reduceBEq, Nat.reduceLeDiff, Nat.reduceLT, Nat.reduceMul, Nat.reduceSub, Int.reduceEq, Int.reduceLT, Int.reduceLE, Int.reduceNeg, h, u8_hi, u8_lo, prot, hC, cr2, toB_cons, toB_nil, Option.map_some, hz]
end C13
end Go.Sh
namespace Go.Sh
set_option linter.unusedSectionVars false
set_option linter.unnecessarySimpa false
set_option linter.unusedVariables false
set_option linter.unusedSimpArgs false
set_option maxRecDepth 100000
set_option maxHeartbeats 4000000
namespace C13
theorem s90 (n : Nat) (es : List (Nat × Nat)) (b0 : SBlk) : call1 T (n + 1) (.kfn 90) [] ⟨[b0], es, 0⟩ = some (.ptr 1 0 0 0, ⟨[b0, .box [.lst 0 [] true, .int .i64 0]], es, 0⟩) := by
  refine kcall_in e90 ?_
  simp only [c90, go_sem, Int.reduceToNat, Nat.reduceAdd, Nat.reduceBEq, Nat.reduceLeDiff, Nat.reduceLT, Nat.reduceMul, Nat.reduceSub, Int.reduceEq, Int.reduceLT, Int.reduceLE, Int.reduceNeg]
theorem s12_1a (n : Nat) (H : Heap) (s d q o c m e t u v : Int) (x : ByteArray) (hch : chB 1 s d q o c m e t u v x = true) (hx : x.size ≤ 127) (hd : 0 ≤ d) : call1 T (n + 5) (.fn 51) [.agg (fr 1 s d q o c m e t u v x)] H = some (enV 1 s d q o c m e t u v x, H) := by
  refine call_pure e51 (by rfl) ?_
  have h18 := fun H => s89 (n + 2) H 1 s d q o c m e t u v x
  rw [hch] at h18
  obtain ⟨hs, hd1, hd0, hq, ho, hk⟩ := chB_k hch
  obtain ⟨hcc, hmm⟩ : (0 ≤ c ∧ c ≤ 255) ∧ (0 ≤ m ∧ m ≤ 65535) := by rcases hk with h | h | h | h <;> first | exact h.2 | (exfalso; omega)
  have h29 := fun es b0 => s90 (n + 3) es b0
  obtain ⟨B0, hB0⟩ : ∃ B, B = [] ++ bits 3 1 := ⟨_, rfl⟩
  have lB0 : B0.length = 3 := by rw [hB0, List.length_append, bits_len] <;> rfl
  have h0 : ∀ es, call1 T (n + 4) (.fn 91) [.ptr 1 0 0 0, .int .i64 3, .int .i64 1] (⟨[.box (fr 1 s d q o c m e t u v x), .box [.slc 2 0 0 0, .int .i64 0], .arr 0 1 [] false], es, 0⟩) = some (.tup [], rH (.box (fr 1 s d q o c m e t u v x)) B0 [] (es ++ rk 3)) := fun es => by
    have := s91 (.box (fr 1 s d q o c m e t u v x)) [] es [] (n + 2) 3 1 (by omega) (by omega) (by omega) (by rw [List.length_nil]; omega)
    rw [hB0]; exact this
  obtain ⟨B1, hB1⟩ : ∃ B, B = B0 ++ bits 5 s.toNat := ⟨_, rfl⟩
  have lB1 : B1.length = 8 := by rw [hB1, List.length_append, bits_len, lB0]
  have h1 : ∀ es, call1 T (n + 4) (.fn 91) [.ptr 1 0 0 0, .int .i64 5, .int .i64 s] (rH (.box (fr 1 s d q o c m e t u v x)) B0 [] es) = some (.tup [], rH (.box (fr 1 s d q o c m e t u v x)) B1 [] (es ++ rk 5)) := fun es => by
    have := s91 (.box (fr 1 s d q o c m e t u v x)) [] es B0 (n + 2) 5 s.toNat (by omega) (by omega) (by omega) (by rw [lB0]; omega)
    rw [Int.toNat_of_nonneg hs.1] at this
    rw [hB1]; exact this
  obtain ⟨B2, hB2⟩ : ∃ B, B = B1 ++ bits 1 (bt true) := ⟨_, rfl⟩
  have lB2 : B2.length = 9 := by rw [hB2, List.length_append, bits_len, lB1]
  have h2 : ∀ es, call1 T (n + 4) (.fn 92) [.ptr 1 0 0 0, .bool true] (rH (.box (fr 1 s d q o c m e t u v x)) B1 [] es) = some (.tup [], rH (.box (fr 1 s d q o c m e t u v x)) B2 [] (es ++ rk 1)) := fun es => by
    have := s92 (.box (fr 1 s d q o c m e t u v x)) [] es B1 (n + 2) true (by rw [lB1]; omega)
    rw [hB2]; exact this
  obtain ⟨B3, hB3⟩ : ∃ B, B = B2 ++ bits 5 d.toNat := ⟨_, rfl⟩
  have lB3 : B3.length = 14 := by rw [hB3, List.length_append, bits_len, lB2]
  have h3 : ∀ es, call1 T (n + 4) (.fn 91) [.ptr 1 0 0 0, .int .i64 5, .int .i64 d] (rH (.box (fr 1 s d q o c m e t u v x)) B2 [] es) = some (.tup [], rH (.box (fr 1 s d q o c m e t u v x)) B3 [] (es ++ rk 5)) := fun es => by
    have := s91 (.box (fr 1 s d q o c m e t u v x)) [] es B2 (n + 2) 5 d.toNat (by omega) (by omega) (by omega) (by rw [lB2]; omega)
    rw [Int.toNat_of_nonneg hd] at this
    rw [hB3]; exact this
  obtain ⟨B4, hB4⟩ : ∃ B, B = B3 ++ bits 8 q.toNat := ⟨_, rfl⟩
  have lB4 : B4.length = 22 := by rw [hB4, List.length_append, bits_len, lB3]
  have h4 : ∀ es, call1 T (n + 4) (.fn 91) [.ptr 1 0 0 0, .int .i64 8, .int .i64 q] (rH (.box (fr 1 s d q o c m e t u v x)) B3 [] es) = some (.tup [], rH (.box (fr 1 s d q o c m e t u v x)) B4 [] (es ++ rk 8)) := fun es => by
    have := s91 (.box (fr 1 s d q o c m e t u v x)) [] es B3 (n + 2) 8 q.toNat (by omega) (by omega) (by omega) (by rw [lB3]; omega)
    rw [Int.toNat_of_nonneg hq.1] at this
    rw [hB4]; exact this
  obtain ⟨B5, hB5⟩ : ∃ B, B = B4 ++ bits 8 o.toNat := ⟨_, rfl⟩
  have lB5 : B5.length = 30 := by rw [hB5, List.length_append, bits_len, lB4]
  have h5 : ∀ es, call1 T (n + 4) (.fn 91) [.ptr 1 0 0 0, .int .i64 8, .int .i64 o] (rH (.box (fr 1 s d q o c m e t u v x)) B4 [] es) = some (.tup [], rH (.box (fr 1 s d q o c m e t u v x)) B5 [] (es ++ rk 8)) := fun es => by
    have := s91 (.box (fr 1 s d q o c m e t u v x)) [] es B4 (n + 2) 8 o.toNat (by omega) (by omega) (by omega) (by rw [lB4]; omega)
    rw [Int.toNat_of_nonneg ho.1] at this
    rw [hB5]; exact this
  obtain ⟨B6, hB6⟩ : ∃ B, B = B5 ++ bits 8 c.toNat := ⟨_, rfl⟩
  have lB6 : B6.length = 38 := by rw [hB6, List.length_append, bits_len, lB5]
  have h6 : ∀ es, call1 T (n + 4) (.fn 91) [.ptr 1 0 0 0, .int .i64 8, .int .i64 c] (rH (.box (fr 1 s d q o c m e t u v x)) B5 [] es) = some (.tup [], rH (.box (fr 1 s d q o c m e t u v x)) B6 [] (es ++ rk 8)) := fun es => by
    have := s91 (.box (fr 1 s d q o c m e t u v x)) [] es B5 (n + 2) 8 c.toNat (by omega) (by omega) (by omega) (by rw [lB5]; omega)
    rw [Int.toNat_of_nonneg hcc.1] at this
    rw [hB6]; exact this
  obtain ⟨B7, hB7⟩ : ∃ B, B = B6 ++ bits 16 m.toNat := ⟨_, rfl⟩
  have lB7 : B7.length = 54 := by rw [hB7, List.length_append, bits_len, lB6]
  have h7 : ∀ es, call1 T (n + 4) (.fn 91) [.ptr 1 0 0 0, .int .i64 16, .int .i64 m] (rH (.box (fr 1 s d q o c m e t u v x)) B6 [] es) = some (.tup [], rH (.box (fr 1 s d q o c m e t u v x)) B7 [] (es ++ rk 16)) := fun es => by
    have := s91 (.box (fr 1 s d q o c m e t u v x)) [] es B6 (n + 2) 16 m.toNat (by omega) (by omega) (by omega) (by rw [lB6]; omega)
    rw [Int.toNat_of_nonneg hmm.1] at this
    rw [hB7]; exact this
  obtain ⟨B8, hB8⟩ : ∃ B, B = B7 ++ bits 7 x.size ++ txB x x.size := ⟨_, rfl⟩
  have lB8 : B8.length = 61 + 8 * x.size := by rw [hB8, List.length_append, List.length_append, bits_len, lB7, txB_len]
  have h8 : ∀ es, call1 T (n + 4) (.fn 94) [.ptr 1 0 0 0, .int .i64 127, .str x] (rH (.box (fr 1 s d q o c m e t u v x)) B7 [] es) = some (.tup [], rH (.box (fr 1 s d q o c m e t u v x)) B8 [] (es ++ rk (7 + 8 * x.size))) := fun es => by
    rw [hB8]; exact s94 (.box (fr 1 s d q o c m e t u v x)) [] es B7 (n + 2) x hx (by rw [lB7]; omega)
  have hE : enBits 1 s d q o c m e t u v x = B8 := by
    have kd1 : decide ((1 : Int) = 1) = true := rfl
    have kd2 : decide ((1 : Int) = 2) = false := rfl
    have kd3 : decide ((1 : Int) = 3) = false := rfl
    have hd2 : decide (0 ≤ d) = true := decide_eq_true (by omega)
    rw [hB8, hB7, hB6, hB5, hB4, hB3, hB2, hB1, hB0]
    have h3 : ((1 : Int)).toNat = 1 := rfl
    simp only [enBits, bdBits, tgBits, kd1, kd2, kd3, hd2, h3, decide_true, decide_false, cond_true, cond_false, List.append_assoc, List.nil_append, List.append_nil]
  have h34 := fun es => s95 (n + 3) (.box (fr 1 s d q o c m e t u v x)) es B8 (by rw [lB8]; omega)
  have hps : (pkB B8).size ≤ 1000 := by rw [pkB_size, lB8]; unfold nb; omega
  obtain ⟨P, hP⟩ : ∃ P, pkB B8 = P := ⟨_, rfl⟩
  have h35 := fun H => s96 n H (pkB B8) hps
  have hsz : (prot P).size = P.size + 2 := prot_size _
  unfold enV
  rw [hE, hch, decide_eq_false (show ¬ 127 < x.size by omega)]
  rw [hP] at h34 h35 ⊢
  have xx : decide ((127 : Int) < (x.size : Int)) = false := decide_eq_false (by omega)
  have xd : decide ((0 : Int) ≤ d) = true := decide_eq_true (by omega)
  cases hp : decide (127 < P.size + 2) with
  | false =>
    have hp2 : decide ((127 : Int) < ((P.size + 2 : Nat) : Int)) = false := by simp only [decide_eq_false_iff_not] at hp ⊢; omega
    simp only [c51, heap0, go_sem, Int.reduceToNat, Nat.reduceAdd, Nat.reduceBEq, Nat.reduceLeDiff, Nat.reduceLT, Nat.reduceMul, Nat.reduceSub, Int.reduceEq, Int.reduceLT, Int.reduceLE, Int.reduceNeg, h18, h29, h0, h1, h2, h3, h4, h5, h6, h7, h8, h34, h35, xx, xd, hsz, hp, hp2, Nat.reduceMod, Nat.reduceDiv, List.length_cons, List.length_nil, List.filter_replicate, List.all_replicate, List.filter_append, List.all_append, Bool.and_self, ite_self, if_true]
  | true =>
    have hp2 : decide ((127 : Int) < ((P.size + 2 : Nat) : Int)) = true := by simp only [decide_eq_true_eq] at hp ⊢; omega
    simp only [c51, heap0, go_sem, Int.reduceToNat, Nat.reduceAdd, Nat.reduceBEq, Nat.reduceLeDiff, Nat.reduceLT, Nat.reduceMul, Nat.reduceSub, Int.reduceEq, Int.reduceLT, Int.reduceLE, Int.reduceNeg, h18, h29, h0, h1, h2, h3, h4, h5, h6, h7, h8, h34, h35, xx, xd, hsz, hp, hp2, Nat.reduceMod, Nat.reduceDiv, List.length_cons, List.length_nil, List.filter_replicate, List.all_replicate, List.filter_append, List.all_append, Bool.and_self, ite_self, if_true]
theorem s12_2a (n : Nat) (H : Heap) (s d q o c m e t u v : Int) (x : ByteArray) (hch : chB 2 s d q o c m e t u v x = true) (hx : x.size ≤ 127) (hd : 0 ≤ d) : call1 T (n + 5) (.fn 51) [.agg (fr 2 s d q o c m e t u v x)] H = some (enV 2 s d q o c m e t u v x, H) := by
  refine call_pure e51 (by rfl) ?_
  have h18 := fun H => s89 (n + 2) H 2 s d q o c m e t u v x
  rw [hch] at h18
  obtain ⟨hs, hd1, hd0, hq, ho, hk⟩ := chB_k hch
  obtain ⟨hee, hx0⟩ : (-32768 ≤ e ∧ e ≤ 32767) ∧ x = ⟨#[]⟩ := by rcases hk with h | h | h | h <;> first | exact h.2 | (exfalso; omega)
  have h29 := fun es b0 => s90 (n + 3) es b0
  obtain ⟨B0, hB0⟩ : ∃ B, B = [] ++ bits 3 2 := ⟨_, rfl⟩
  have lB0 : B0.length = 3 := by rw [hB0, List.length_append, bits_len] <;> rfl
  have h0 : ∀ es, call1 T (n + 4) (.fn 91) [.ptr 1 0 0 0, .int .i64 3, .int .i64 2] (⟨[.box (fr 2 s d q o c m e t u v x), .box [.slc 2 0 0 0, .int .i64 0], .arr 0 1 [] false], es, 0⟩) = some (.tup [], rH (.box (fr 2 s d q o c m e t u v x)) B0 [] (es ++ rk 3)) := fun es => by
    have := s91 (.box (fr 2 s d q o c m e t u v x)) [] es [] (n + 2) 3 2 (by omega) (by omega) (by omega) (by rw [List.length_nil]; omega)
    rw [hB0]; exact this
  obtain ⟨B1, hB1⟩ : ∃ B, B = B0 ++ bits 5 s.toNat := ⟨_, rfl⟩
  have lB1 : B1.length = 8 := by rw [hB1, List.length_append, bits_len, lB0]
  have h1 : ∀ es, call1 T (n + 4) (.fn 91) [.ptr 1 0 0 0, .int .i64 5, .int .i64 s] (rH (.box (fr 2 s d q o c m e t u v x)) B0 [] es) = some (.tup [], rH (.box (fr 2 s d q o c m e t u v x)) B1 [] (es ++ rk 5)) := fun es => by
    have := s91 (.box (fr 2 s d q o c m e t u v x)) [] es B0 (n + 2) 5 s.toNat (by omega) (by omega) (by omega) (by rw [lB0]; omega)
    rw [Int.toNat_of_nonneg hs.1] at this
    rw [hB1]; exact this
  obtain ⟨B2, hB2⟩ : ∃ B, B = B1 ++ bits 1 (bt true) := ⟨_, rfl⟩
  have lB2 : B2.length = 9 := by rw [hB2, List.length_append, bits_len, lB1]
  have h2 : ∀ es, call1 T (n + 4) (.fn 92) [.ptr 1 0 0 0, .bool true] (rH (.box (fr 2 s d q o c m e t u v x)) B1 [] es) = some (.tup [], rH (.box (fr 2 s d q o c m e t u v x)) B2 [] (es ++ rk 1)) := fun es => by
    have := s92 (.box (fr 2 s d q o c m e t u v x)) [] es B1 (n + 2) true (by rw [lB1]; omega)
    rw [hB2]; exact this
  obtain ⟨B3, hB3⟩ : ∃ B, B = B2 ++ bits 5 d.toNat := ⟨_, rfl⟩
  have lB3 : B3.length = 14 := by rw [hB3, List.length_append, bits_len, lB2]
  have h3 : ∀ es, call1 T (n + 4) (.fn 91) [.ptr 1 0 0 0, .int .i64 5, .int .i64 d] (rH (.box (fr 2 s d q o c m e t u v x)) B2 [] es) = some (.tup [], rH (.box (fr 2 s d q o c m e t u v x)) B3 [] (es ++ rk 5)) := fun es => by
    have := s91 (.box (fr 2 s d q o c m e t u v x)) [] es B2 (n + 2) 5 d.toNat (by omega) (by omega) (by omega) (by rw [lB2]; omega)
    rw [Int.toNat_of_nonneg hd] at this
    rw [hB3]; exact this
  obtain ⟨B4, hB4⟩ : ∃ B, B = B3 ++ bits 8 q.toNat := ⟨_, rfl⟩
  have lB4 : B4.length = 22 := by rw [hB4, List.length_append, bits_len, lB3]
  have h4 : ∀ es, call1 T (n + 4) (.fn 91) [.ptr 1 0 0 0, .int .i64 8, .int .i64 q] (rH (.box (fr 2 s d q o c m e t u v x)) B3 [] es) = some (.tup [], rH (.box (fr 2 s d q o c m e t u v x)) B4 [] (es ++ rk 8)) := fun es => by
    have := s91 (.box (fr 2 s d q o c m e t u v x)) [] es B3 (n + 2) 8 q.toNat (by omega) (by omega) (by omega) (by rw [lB3]; omega)
    rw [Int.toNat_of_nonneg hq.1] at this
    rw [hB4]; exact this
  obtain ⟨B5, hB5⟩ : ∃ B, B = B4 ++ bits 8 o.toNat := ⟨_, rfl⟩
  have lB5 : B5.length = 30 := by rw [hB5, List.length_append, bits_len, lB4]
  have h5 : ∀ es, call1 T (n + 4) (.fn 91) [.ptr 1 0 0 0, .int .i64 8, .int .i64 o] (rH (.box (fr 2 s d q o c m e t u v x)) B4 [] es) = some (.tup [], rH (.box (fr 2 s d q o c m e t u v x)) B5 [] (es ++ rk 8)) := fun es => by
    have := s91 (.box (fr 2 s d q o c m e t u v x)) [] es B4 (n + 2) 8 o.toNat (by omega) (by omega) (by omega) (by rw [lB4]; omega)
    rw [Int.toNat_of_nonneg ho.1] at this
    rw [hB5]; exact this
  obtain ⟨B6, hB6⟩ : ∃ B, B = B5 ++ bits 16 (sgN e) := ⟨_, rfl⟩
  have lB6 : B6.length = 46 := by rw [hB6, List.length_append, bits_len, lB5]
  have h6 : ∀ es, call1 T (n + 4) (.fn 93) [.ptr 1 0 0 0, .int .i64 16, .int .i64 e] (rH (.box (fr 2 s d q o c m e t u v x)) B5 [] es) = some (.tup [], rH (.box (fr 2 s d q o c m e t u v x)) B6 [] (es ++ rk 16)) := fun es => by
    have := s93 (.box (fr 2 s d q o c m e t u v x)) [] es B5 (n + 2) e hee.1 hee.2 (by rw [lB5]; omega)
    rw [hB6]; exact this
  have hE : enBits 2 s d q o c m e t u v x = B6 := by
    have kd1 : decide ((2 : Int) = 1) = false := rfl
    have kd2 : decide ((2 : Int) = 2) = true := rfl
    have kd3 : decide ((2 : Int) = 3) = false := rfl
    have hd2 : decide (0 ≤ d) = true := decide_eq_true (by omega)
    rw [hB6, hB5, hB4, hB3, hB2, hB1, hB0]
    have h3 : ((2 : Int)).toNat = 2 := rfl
    simp only [enBits, bdBits, tgBits, kd1, kd2, kd3, hd2, h3, decide_true, decide_false, cond_true, cond_false, List.append_assoc, List.nil_append, List.append_nil]
  have h34 := fun es => s95 (n + 3) (.box (fr 2 s d q o c m e t u v x)) es B6 (by rw [lB6]; omega)
  have hps : (pkB B6).size ≤ 1000 := by rw [pkB_size, lB6]; unfold nb; omega
  obtain ⟨P, hP⟩ : ∃ P, pkB B6 = P := ⟨_, rfl⟩
  have h35 := fun H => s96 n H (pkB B6) hps
  have hsz : (prot P).size = P.size + 2 := prot_size _
  unfold enV
  rw [hE, hch, decide_eq_false (show ¬ 127 < x.size by omega)]
  rw [hP] at h34 h35 ⊢
  have xx : decide ((127 : Int) < (x.size : Int)) = false := decide_eq_false (by omega)
  have xd : decide ((0 : Int) ≤ d) = true := decide_eq_true (by omega)
  cases hp : decide (127 < P.size + 2) with
  | false =>
    have hp2 : decide ((127 : Int) < ((P.size + 2 : Nat) : Int)) = false := by simp only [decide_eq_false_iff_not] at hp ⊢; omega
    simp only [c51, heap0, go_sem, Int.reduceToNat, Nat.reduceAdd, Nat.reduceBEq, Nat.reduceLeDiff, Nat.reduceLT, Nat.reduceMul, Nat.reduceSub, Int.reduceEq, Int.reduceLT, Int.reduceLE, Int.reduceNeg, h18, h29, h0, h1, h2, h3, h4, h5, h6, h34, h35, xx, xd, hsz, hp, hp2, Nat.reduceMod, Nat.reduceDiv, List.length_cons, List.length_nil, List.filter_replicate, List.all_replicate, List.filter_append, List.all_append, Bool.and_self, ite_self, if_true]
  | true =>
    have hp2 : decide ((127 : Int) < ((P.size + 2 : Nat) : Int)) = true := by simp only [decide_eq_true_eq] at hp ⊢; omega
    simp only [c51, heap0, go_sem, Int.reduceToNat, Nat.reduceAdd, Nat.reduceBEq, Nat.reduceLeDiff, Nat.reduceLT, Nat.reduceMul, Nat.reduceSub, Int.reduceEq, Int.reduceLT, Int.reduceLE, Int.reduceNeg, h18, h29, h0, h1, h2, h3, h4, h5, h6, h34, h35, xx, xd, hsz, hp, hp2, Nat.reduceMod, Nat.reduceDiv, List.length_cons, List.length_nil, List.filter_replicate, List.all_replicate, List.filter_append, List.all_append, Bool.and_self, ite_self, if_true]
theorem s12_3b (n : Nat) (H : Heap) (s d q o c m e t u v : Int) (x : ByteArray) (hch : chB 3 s d q o c m e t u v x = true) (hx : x.size ≤ 127) (hd : d = -1) : call1 T (n + 5) (.fn 51) [.agg (fr 3 s d q o c m e t u v x)] H = some (enV 3 s d q o c m e t u v x, H) := by
  refine call_pure e51 (by rfl) ?_
  have h18 := fun H => s89 (n + 2) H 3 s d q o c m e t u v x
  rw [hch] at h18
  obtain ⟨hs, hd1, hd0, hq, ho, hk⟩ := chB_k hch
  obtain ⟨htt, huu, hvv⟩ : (0 ≤ t ∧ t ≤ 109951162) ∧ (0 ≤ u ∧ u ≤ 65535) ∧ (0 ≤ v ∧ v ≤ 65535) := by rcases hk with h | h | h | h <;> first | exact h.2 | (exfalso; omega)
  have h29 := fun es b0 => s90 (n + 3) es b0
  obtain ⟨B0, hB0⟩ : ∃ B, B = [] ++ bits 3 3 := ⟨_, rfl⟩
  have lB0 : B0.length = 3 := by rw [hB0, List.length_append, bits_len] <;> rfl
  have h0 : ∀ es, call1 T (n + 4) (.fn 91) [.ptr 1 0 0 0, .int .i64 3, .int .i64 3] (⟨[.box (fr 3 s d q o c m e t u v x), .box [.slc 2 0 0 0, .int .i64 0], .arr 0 1 [] false], es, 0⟩) = some (.tup [], rH (.box (fr 3 s d q o c m e t u v x)) B0 [] (es ++ rk 3)) := fun es => by
    have := s91 (.box (fr 3 s d q o c m e t u v x)) [] es [] (n + 2) 3 3 (by omega) (by omega) (by omega) (by rw [List.length_nil]; omega)
    rw [hB0]; exact this
  obtain ⟨B1, hB1⟩ : ∃ B, B = B0 ++ bits 5 s.toNat := ⟨_, rfl⟩
  have lB1 : B1.length = 8 := by rw [hB1, List.length_append, bits_len, lB0]
  have h1 : ∀ es, call1 T (n + 4) (.fn 91) [.ptr 1 0 0 0, .int .i64 5, .int .i64 s] (rH (.box (fr 3 s d q o c m e t u v x)) B0 [] es) = some (.tup [], rH (.box (fr 3 s d q o c m e t u v x)) B1 [] (es ++ rk 5)) := fun es => by
    have := s91 (.box (fr 3 s d q o c m e t u v x)) [] es B0 (n + 2) 5 s.toNat (by omega) (by omega) (by omega) (by rw [lB0]; omega)
    rw [Int.toNat_of_nonneg hs.1] at this
    rw [hB1]; exact this
  obtain ⟨B2, hB2⟩ : ∃ B, B = B1 ++ bits 1 (bt false) := ⟨_, rfl⟩
  have lB2 : B2.length = 9 := by rw [hB2, List.length_append, bits_len, lB1]
  have h2 : ∀ es, call1 T (n + 4) (.fn 92) [.ptr 1 0 0 0, .bool false] (rH (.box (fr 3 s d q o c m e t u v x)) B1 [] es) = some (.tup [], rH (.box (fr 3 s d q o c m e t u v x)) B2 [] (es ++ rk 1)) := fun es => by
    have := s92 (.box (fr 3 s d q o c m e t u v x)) [] es B1 (n + 2) false (by rw [lB1]; omega)
    rw [hB2]; exact this
  obtain ⟨B3, hB3⟩ : ∃ B, B = B2 ++ bits 8 q.toNat := ⟨_, rfl⟩
  have lB3 : B3.length = 17 := by rw [hB3, List.length_append, bits_len, lB2]
  have h3 : ∀ es, call1 T (n + 4) (.fn 91) [.ptr 1 0 0 0, .int .i64 8, .int .i64 q] (rH (.box (fr 3 s d q o c m e t u v x)) B2 [] es) = some (.tup [], rH (.box (fr 3 s d q o c m e t u v x)) B3 [] (es ++ rk 8)) := fun es => by
    have := s91 (.box (fr 3 s d q o c m e t u v x)) [] es B2 (n + 2) 8 q.toNat (by omega) (by omega) (by omega) (by rw [lB2]; omega)
    rw [Int.toNat_of_nonneg hq.1] at this
    rw [hB3]; exact this
  obtain ⟨B4, hB4⟩ : ∃ B, B = B3 ++ bits 8 o.toNat := ⟨_, rfl⟩
  have lB4 : B4.length = 25 := by rw [hB4, List.length_append, bits_len, lB3]
  have h4 : ∀ es, call1 T (n + 4) (.fn 91) [.ptr 1 0 0 0, .int .i64 8, .int .i64 o] (rH (.box (fr 3 s d q o c m e t u v x)) B3 [] es) = some (.tup [], rH (.box (fr 3 s d q o c m e t u v x)) B4 [] (es ++ rk 8)) := fun es => by
    have := s91 (.box (fr 3 s d q o c m e t u v x)) [] es B3 (n + 2) 8 o.toNat (by omega) (by omega) (by omega) (by rw [lB3]; omega)
    rw [Int.toNat_of_nonneg ho.1] at this
    rw [hB4]; exact this
  obtain ⟨B5, hB5⟩ : ∃ B, B = B4 ++ bits 27 t.toNat := ⟨_, rfl⟩
  have lB5 : B5.length = 52 := by rw [hB5, List.length_append, bits_len, lB4]
  have h5 : ∀ es, call1 T (n + 4) (.fn 91) [.ptr 1 0 0 0, .int .i64 27, .int .i64 t] (rH (.box (fr 3 s d q o c m e t u v x)) B4 [] es) = some (.tup [], rH (.box (fr 3 s d q o c m e t u v x)) B5 [] (es ++ rk 27)) := fun es => by
    have := s91 (.box (fr 3 s d q o c m e t u v x)) [] es B4 (n + 2) 27 t.toNat (by omega) (by omega) (by omega) (by rw [lB4]; omega)
    rw [Int.toNat_of_nonneg htt.1] at this
    rw [hB5]; exact this
  obtain ⟨B6, hB6⟩ : ∃ B, B = B5 ++ bits 16 u.toNat := ⟨_, rfl⟩
  have lB6 : B6.length = 68 := by rw [hB6, List.length_append, bits_len, lB5]
  have h6 : ∀ es, call1 T (n + 4) (.fn 91) [.ptr 1 0 0 0, .int .i64 16, .int .i64 u] (rH (.box (fr 3 s d q o c m e t u v x)) B5 [] es) = some (.tup [], rH (.box (fr 3 s d q o c m e t u v x)) B6 [] (es ++ rk 16)) := fun es => by
    have := s91 (.box (fr 3 s d q o c m e t u v x)) [] es B5 (n + 2) 16 u.toNat (by omega) (by omega) (by omega) (by rw [lB5]; omega)
    rw [Int.toNat_of_nonneg huu.1] at this
    rw [hB6]; exact this
  obtain ⟨B7, hB7⟩ : ∃ B, B = B6 ++ bits 16 v.toNat := ⟨_, rfl⟩
  have lB7 : B7.length = 84 := by rw [hB7, List.length_append, bits_len, lB6]
  have h7 : ∀ es, call1 T (n + 4) (.fn 91) [.ptr 1 0 0 0, .int .i64 16, .int .i64 v] (rH (.box (fr 3 s d q o c m e t u v x)) B6 [] es) = some (.tup [], rH (.box (fr 3 s d q o c m e t u v x)) B7 [] (es ++ rk 16)) := fun es => by
    have := s91 (.box (fr 3 s d q o c m e t u v x)) [] es B6 (n + 2) 16 v.toNat (by omega) (by omega) (by omega) (by rw [lB6]; omega)
    rw [Int.toNat_of_nonneg hvv.1] at this
    rw [hB7]; exact this
  obtain ⟨B8, hB8⟩ : ∃ B, B = B7 ++ bits 7 x.size ++ txB x x.size := ⟨_, rfl⟩
  have lB8 : B8.length = 91 + 8 * x.size := by rw [hB8, List.length_append, List.length_append, bits_len, lB7, txB_len]
  have h8 : ∀ es, call1 T (n + 4) (.fn 94) [.ptr 1 0 0 0, .int .i64 127, .str x] (rH (.box (fr 3 s d q o c m e t u v x)) B7 [] es) = some (.tup [], rH (.box (fr 3 s d q o c m e t u v x)) B8 [] (es ++ rk (7 + 8 * x.size))) := fun es => by
    rw [hB8]; exact s94 (.box (fr 3 s d q o c m e t u v x)) [] es B7 (n + 2) x hx (by rw [lB7]; omega)
  have hE : enBits 3 s d q o c m e t u v x = B8 := by
    have kd1 : decide ((3 : Int) = 1) = false := rfl
    have kd2 : decide ((3 : Int) = 2) = false := rfl
    have kd3 : decide ((3 : Int) = 3) = true := rfl
    have hd2 : decide (0 ≤ d) = false := decide_eq_false (by omega)
    rw [hB8, hB7, hB6, hB5, hB4, hB3, hB2, hB1, hB0]
    have h3 : ((3 : Int)).toNat = 3 := rfl
    simp only [enBits, bdBits, tgBits, kd1, kd2, kd3, hd2, h3, decide_true, decide_false, cond_true, cond_false, List.append_assoc, List.nil_append, List.append_nil]
  have h34 := fun es => s95 (n + 3) (.box (fr 3 s d q o c m e t u v x)) es B8 (by rw [lB8]; omega)
  have hps : (pkB B8).size ≤ 1000 := by rw [pkB_size, lB8]; unfold nb; omega
  obtain ⟨P, hP⟩ : ∃ P, pkB B8 = P := ⟨_, rfl⟩
  have h35 := fun H => s96 n H (pkB B8) hps
  have hsz : (prot P).size = P.size + 2 := prot_size _
  unfold enV
  rw [hE, hch, decide_eq_false (show ¬ 127 < x.size by omega)]
  rw [hP] at h34 h35 ⊢
  have xx : decide ((127 : Int) < (x.size : Int)) = false := decide_eq_false (by omega)
  have xd : decide ((0 : Int) ≤ d) = false := decide_eq_false (by omega)
  cases hp : decide (127 < P.size + 2) with
  | false =>
    have hp2 : decide ((127 : Int) < ((P.size + 2 : Nat) : Int)) = false := by simp only [decide_eq_false_iff_not] at hp ⊢; omega
    simp only [c51, heap0, go_sem, Int.reduceToNat, Nat.reduceAdd, Nat.reduceBEq, Nat.reduceLeDiff, Nat.reduceLT, Nat.reduceMul, Nat.reduceSub, Int.reduceEq, Int.reduceLT, Int.reduceLE, Int.reduceNeg, h18, h29, h0, h1, h2, h3, h4, h5, h6, h7, h8, h34, h35, xx, xd, hsz, hp, hp2, Nat.reduceMod, Nat.reduceDiv, List.length_cons, List.length_nil, List.filter_replicate, List.all_replicate, List.filter_append, List.all_append, Bool.and_self, ite_self, if_true]
  | true =>
    have hp2 : decide ((127 : Int) < ((P.size + 2 : Nat) : Int)) = true := by simp only [decide_eq_true_eq] at hp ⊢; omega
    simp only [c51, heap0, go_sem, Int.reduceToNat, Nat.reduceAdd, Nat.reduceBEq, Nat.reduceLeDiff, Nat.reduceLT, Nat.reduceMul, Nat.reduceSub, Int.reduceEq, Int.reduceLT, Int.reduceLE, Int.reduceNeg, h18, h29, h0, h1, h2, h3, h4, h5, h6, h7, h8, h34, h35, xx, xd, hsz, hp, hp2, Nat.reduceMod, Nat.reduceDiv, List.length_cons, List.length_nil, List.filter_replicate, List.all_replicate, List.filter_append, List.all_append, Bool.and_self, ite_self, if_true]
theorem s12_4a (n : Nat) (H : Heap) (s d q o c m e t u v : Int) (x : ByteArray) (hch : chB 4 s d q o c m e t u v x = true) (hx : x.size ≤ 127) (hd : 0 ≤ d) : call1 T (n + 5) (.fn 51) [.agg (fr 4 s d q o c m e t u v x)] H = some (enV 4 s d q o c m e t u v x, H) := by
  refine call_pure e51 (by rfl) ?_
  have h18 := fun H => s89 (n + 2) H 4 s d q o c m e t u v x
  rw [hch] at h18
  obtain ⟨hs, hd1, hd0, hq, ho, hk⟩ := chB_k hch
  have h29 := fun es b0 => s90 (n + 3) es b0
  obtain ⟨B0, hB0⟩ : ∃ B, B = [] ++ bits 3 4 := ⟨_, rfl⟩
  have lB0 : B0.length = 3 := by rw [hB0, List.length_append, bits_len] <;> rfl
  have h0 : ∀ es, call1 T (n + 4) (.fn 91) [.ptr 1 0 0 0, .int .i64 3, .int .i64 4] (⟨[.box (fr 4 s d q o c m e t u v x), .box [.slc 2 0 0 0, .int .i64 0], .arr 0 1 [] false], es, 0⟩) = some (.tup [], rH (.box (fr 4 s d q o c m e t u v x)) B0 [] (es ++ rk 3)) := fun es => by
    have := s91 (.box (fr 4 s d q o c m e t u v x)) [] es [] (n + 2) 3 4 (by omega) (by omega) (by omega) (by rw [List.length_nil]; omega)
    rw [hB0]; exact this
  obtain ⟨B1, hB1⟩ : ∃ B, B = B0 ++ bits 5 s.toNat := ⟨_, rfl⟩
  have lB1 : B1.length = 8 := by rw [hB1, List.length_append, bits_len, lB0]
  have h1 : ∀ es, call1 T (n + 4) (.fn 91) [.ptr 1 0 0 0, .int .i64 5, .int .i64 s] (rH (.box (fr 4 s d q o c m e t u v x)) B0 [] es) = some (.tup [], rH (.box (fr 4 s d q o c m e t u v x)) B1 [] (es ++ rk 5)) := fun es => by
    have := s91 (.box (fr 4 s d q o c m e t u v x)) [] es B0 (n + 2) 5 s.toNat (by omega) (by omega) (by omega) (by rw [lB0]; omega)
    rw [Int.toNat_of_nonneg hs.1] at this
    rw [hB1]; exact this
  obtain ⟨B2, hB2⟩ : ∃ B, B = B1 ++ bits 1 (bt true) := ⟨_, rfl⟩
  have lB2 : B2.length = 9 := by rw [hB2, List.length_append, bits_len, lB1]
  have h2 : ∀ es, call1 T (n + 4) (.fn 92) [.ptr 1 0 0 0, .bool true] (rH (.box (fr 4 s d q o c m e t u v x)) B1 [] es) = some (.tup [], rH (.box (fr 4 s d q o c m e t u v x)) B2 [] (es ++ rk 1)) := fun es => by
    have := s92 (.box (fr 4 s d q o c m e t u v x)) [] es B1 (n + 2) true (by rw [lB1]; omega)
    rw [hB2]; exact this
  obtain ⟨B3, hB3⟩ : ∃ B, B = B2 ++ bits 5 d.toNat := ⟨_, rfl⟩
  have lB3 : B3.length = 14 := by rw [hB3, List.length_append, bits_len, lB2]
  have h3 : ∀ es, call1 T (n + 4) (.fn 91) [.ptr 1 0 0 0, .int .i64 5, .int .i64 d] (rH (.box (fr 4 s d q o c m e t u v x)) B2 [] es) = some (.tup [], rH (.box (fr 4 s d q o c m e t u v x)) B3 [] (es ++ rk 5)) := fun es => by
    have := s91 (.box (fr 4 s d q o c m e t u v x)) [] es B2 (n + 2) 5 d.toNat (by omega) (by omega) (by omega) (by rw [lB2]; omega)
    rw [Int.toNat_of_nonneg hd] at this
    rw [hB3]; exact this
  obtain ⟨B4, hB4⟩ : ∃ B, B = B3 ++ bits 8 q.toNat := ⟨_, rfl⟩
  have lB4 : B4.length = 22 := by rw [hB4, List.length_append, bits_len, lB3]
  have h4 : ∀ es, call1 T (n + 4) (.fn 91) [.ptr 1 0 0 0, .int .i64 8, .int .i64 q] (rH (.box (fr 4 s d q o c m e t u v x)) B3 [] es) = some (.tup [], rH (.box (fr 4 s d q o c m e t u v x)) B4 [] (es ++ rk 8)) := fun es => by
    have := s91 (.box (fr 4 s d q o c m e t u v x)) [] es B3 (n + 2) 8 q.toNat (by omega) (by omega) (by omega) (by rw [lB3]; omega)
    rw [Int.toNat_of_nonneg hq.1] at this
    rw [hB4]; exact this
  obtain ⟨B5, hB5⟩ : ∃ B, B = B4 ++ bits 8 o.toNat := ⟨_, rfl⟩
  have lB5 : B5.length = 30 := by rw [hB5, List.length_append, bits_len, lB4]
  have h5 : ∀ es, call1 T (n + 4) (.fn 91) [.ptr 1 0 0 0, .int .i64 8, .int .i64 o] (rH (.box (fr 4 s d q o c m e t u v x)) B4 [] es) = some (.tup [], rH (.box (fr 4 s d q o c m e t u v x)) B5 [] (es ++ rk 8)) := fun es => by
    have := s91 (.box (fr 4 s d q o c m e t u v x)) [] es B4 (n + 2) 8 o.toNat (by omega) (by omega) (by omega) (by rw [lB4]; omega)
    rw [Int.toNat_of_nonneg ho.1] at this
    rw [hB5]; exact this
  obtain ⟨B6, hB6⟩ : ∃ B, B = B5 ++ bits 7 x.size ++ txB x x.size := ⟨_, rfl⟩
  have lB6 : B6.length = 37 + 8 * x.size := by rw [hB6, List.length_append, List.length_append, bits_len, lB5, txB_len]
  have h6 : ∀ es, call1 T (n + 4) (.fn 94) [.ptr 1 0 0 0, .int .i64 127, .str x] (rH (.box (fr 4 s d q o c m e t u v x)) B5 [] es) = some (.tup [], rH (.box (fr 4 s d q o c m e t u v x)) B6 [] (es ++ rk (7 + 8 * x.size))) := fun es => by
    rw [hB6]; exact s94 (.box (fr 4 s d q o c m e t u v x)) [] es B5 (n + 2) x hx (by rw [lB5]; omega)
  have hE : enBits 4 s d q o c m e t u v x = B6 := by
    have kd1 : decide ((4 : Int) = 1) = false := rfl
    have kd2 : decide ((4 : Int) = 2) = false := rfl
    have kd3 : decide ((4 : Int) = 3) = false := rfl
    have hd2 : decide (0 ≤ d) = true := decide_eq_true (by omega)
    rw [hB6, hB5, hB4, hB3, hB2, hB1, hB0]
    have h3 : ((4 : Int)).toNat = 4 := rfl
    simp only [enBits, bdBits, tgBits, kd1, kd2, kd3, hd2, h3, decide_true, decide_false, cond_true, cond_false, List.append_assoc, List.nil_append, List.append_nil]
  have h34 := fun es => s95 (n + 3) (.box (fr 4 s d q o c m e t u v x)) es B6 (by rw [lB6]; omega)
  have hps : (pkB B6).size ≤ 1000 := by rw [pkB_size, lB6]; unfold nb; omega
  obtain ⟨P, hP⟩ : ∃ P, pkB B6 = P := ⟨_, rfl⟩
  have h35 := fun H => s96 n H (pkB B6) hps
  have hsz : (prot P).size = P.size + 2 := prot_size _
  unfold enV
  rw [hE, hch, decide_eq_false (show ¬ 127 < x.size by omega)]
  rw [hP] at h34 h35 ⊢
  have xx : decide ((127 : Int) < (x.size : Int)) = false := decide_eq_false (by omega)
  have xd : decide ((0 : Int) ≤ d) = true := decide_eq_true (by omega)
  cases hp : decide (127 < P.size + 2) with
  | false =>
    have hp2 : decide ((127 : Int) < ((P.size + 2 : Nat) : Int)) = false := by simp only [decide_eq_false_iff_not] at hp ⊢; omega
    simp only [c51, heap0, go_sem, Int.reduceToNat, Nat.reduceAdd, Nat.reduceBEq, Nat.reduceLeDiff, Nat.reduceLT, Nat.reduceMul, Nat.reduceSub, Int.reduceEq, Int.reduceLT, Int.reduceLE, Int.reduceNeg, h18, h29, h0, h1, h2, h3, h4, h5, h6, h34, h35, xx, xd, hsz, hp, hp2, Nat.reduceMod, Nat.reduceDiv, List.length_cons, List.length_nil, List.filter_replicate, List.all_replicate, List.filter_append, List.all_append, Bool.and_self, ite_self, if_true]
  | true =>
    have hp2 : decide ((127 : Int) < ((P.size + 2 : Nat) : Int)) = true := by simp only [decide_eq_true_eq] at hp ⊢; omega
    simp only [c51, heap0, go_sem, Int.reduceToNat, Nat.reduceAdd, Nat.reduceBEq, Nat.reduceLeDiff, Nat.reduceLT, Nat.reduceMul, Nat.reduceSub, Int.reduceEq, Int.reduceLT, Int.reduceLE, Int.reduceNeg, h18, h29, h0, h1, h2, h3, h4, h5, h6, h34, h35, xx, xd, hsz, hp, hp2, Nat.reduceMod, Nat.reduceDiv, List.length_cons, List.length_nil, List.filter_replicate, List.all_replicate, List.filter_append, List.all_append, Bool.and_self, ite_self, if_true]
theorem s12_4b (n : Nat) (H : Heap) (s d q o c m e t u v : Int) (x : ByteArray) (hch : chB 4 s d q o c m e t u v x = true) (hx : x.size ≤ 127) (hd : d = -1) : call1 T (n + 5) (.fn 51) [.agg (fr 4 s d q o c m e t u v x)] H = some (enV 4 s d q o c m e t u v x, H) := by
  refine call_pure e51 (by rfl) ?_
  have h18 := fun H => s89 (n + 2) H 4 s d q o c m e t u v x
  rw [hch] at h18
  obtain ⟨hs, hd1, hd0, hq, ho, hk⟩ := chB_k hch
  have h29 := fun es b0 => s90 (n + 3) es b0
  obtain ⟨B0, hB0⟩ : ∃ B, B = [] ++ bits 3 4 := ⟨_, rfl⟩
  have lB0 : B0.length = 3 := by rw [hB0, List.length_append, bits_len] <;> rfl
  have h0 : ∀ es, call1 T (n + 4) (.fn 91) [.ptr 1 0 0 0, .int .i64 3, .int .i64 4] (⟨[.box (fr 4 s d q o c m e t u v x), .box [.slc 2 0 0 0, .int .i64 0], .arr 0 1 [] false], es, 0⟩) = some (.tup [], rH (.box (fr 4 s d q o c m e t u v x)) B0 [] (es ++ rk 3)) := fun es => by
    have := s91 (.box (fr 4 s d q o c m e t u v x)) [] es [] (n + 2) 3 4 (by omega) (by omega) (by omega) (by rw [List.length_nil]; omega)
    rw [hB0]; exact this
  obtain ⟨B1, hB1⟩ : ∃ B, B = B0 ++ bits 5 s.toNat := ⟨_, rfl⟩
  have lB1 : B1.length = 8 := by rw [hB1, List.length_append, bits_len, lB0]
  have h1 : ∀ es, call1 T (n + 4) (.fn 91) [.ptr 1 0 0 0, .int .i64 5, .int .i64 s] (rH (.box (fr 4 s d q o c m e t u v x)) B0 [] es) = some (.tup [], rH (.box (fr 4 s d q o c m e t u v x)) B1 [] (es ++ rk 5)) := fun es => by
    have := s91 (.box (fr 4 s d q o c m e t u v x)) [] es B0 (n + 2) 5 s.toNat (by omega) (by omega) (by omega) (by rw [lB0]; omega)
    rw [Int.toNat_of_nonneg hs.1] at this
    rw [hB1]; exact this
  obtain ⟨B2, hB2⟩ : ∃ B, B = B1 ++ bits 1 (bt false) := ⟨_, rfl⟩
  have lB2 : B2.length = 9 := by rw [hB2, List.length_append, bits_len, lB1]
  have h2 : ∀ es, call1 T (n + 4) (.fn 92) [.ptr 1 0 0 0, .bool false] (rH (.box (fr 4 s d q o c m e t u v x)) B1 [] es) = some (.tup [], rH (.box (fr 4 s d q o c m e t u v x)) B2 [] (es ++ rk 1)) := fun es => by
    have := s92 (.box (fr 4 s d q o c m e t u v x)) [] es B1 (n + 2) false (by rw [lB1]; omega)
    rw [hB2]; exact this
  obtain ⟨B3, hB3⟩ : ∃ B, B = B2 ++ bits 8 q.toNat := ⟨_, rfl⟩
  have lB3 : B3.length = 17 := by rw [hB3, List.length_append, bits_len, lB2]
  have h3 : ∀ es, call1 T (n + 4) (.fn 91) [.ptr 1 0 0 0, .int .i64 8, .int .i64 q] (rH (.box (fr 4 s d q o c m e t u v x)) B2 [] es) = some (.tup [], rH (.box (fr 4 s d q o c m e t u v x)) B3 [] (es ++ rk 8)) := fun es => by
    have := s91 (.box (fr 4 s d q o c m e t u v x)) [] es B2 (n + 2) 8 q.toNat (by omega) (by omega) (by omega) (by rw [lB2]; omega)
    rw [Int.toNat_of_nonneg hq.1] at this
    rw [hB3]; exact this
  obtain ⟨B4, hB4⟩ : ∃ B, B = B3 ++ bits 8 o.toNat := ⟨_, rfl⟩
  have lB4 : B4.length = 25 := by rw [hB4, List.length_append, bits_len, lB3]
  have h4 : ∀ es, call1 T (n + 4) (.fn 91) [.ptr 1 0 0 0, .int .i64 8, .int .i64 o] (rH (.box (fr 4 s d q o c m e t u v x)) B3 [] es) = some (.tup [], rH (.box (fr 4 s d q o c m e t u v x)) B4 [] (es ++ rk 8)) := fun es => by
    have := s91 (.box (fr 4 s d q o c m e t u v x)) [] es B3 (n + 2) 8 o.toNat (by omega) (by omega) (by omega) (by rw [lB3]; omega)
    rw [Int.toNat_of_nonneg ho.1] at this
    rw [hB4]; exact this
  obtain ⟨B5, hB5⟩ : ∃ B, B = B4 ++ bits 7 x.size ++ txB x x.size := ⟨_, rfl⟩
  have lB5 : B5.length = 32 + 8 * x.size := by rw [hB5, List.length_append, List.length_append, bits_len, lB4, txB_len]
  have h5 : ∀ es, call1 T (n + 4) (.fn 94) [.ptr 1 0 0 0, .int .i64 127, .str x] (rH (.box (fr 4 s d q o c m e t u v x)) B4 [] es) = some (.tup [], rH (.box (fr 4 s d q o c m e t u v x)) B5 [] (es ++ rk (7 + 8 * x.size))) := fun es => by
    rw [hB5]; exact s94 (.box (fr 4 s d q o c m e t u v x)) [] es B4 (n + 2) x hx (by rw [lB4]; omega)
  have hE : enBits 4 s d q o c m e t u v x = B5 := by
    have kd1 : decide ((4 : Int) = 1) = false := rfl
    have kd2 : decide ((4 : Int) = 2) = false := rfl
    have kd3 : decide ((4 : Int) = 3) = false := rfl
    have hd2 : decide (0 ≤ d) = false := decide_eq_false (by omega)
    rw [hB5, hB4, hB3, hB2, hB1, hB0]
    have h3 : ((4 : Int)).toNat = 4 := rfl
    simp only [enBits, bdBits, tgBits, kd1, kd2, kd3, hd2, h3, decide_true, decide_false, cond_true, cond_false, List.append_assoc, List.nil_append, List.append_nil]
  have h34 := fun es => s95 (n + 3) (.box (fr 4 s d q o c m e t u v x)) es B5 (by rw [lB5]; omega)
  have hps : (pkB B5).size ≤ 1000 := by rw [pkB_size, lB5]; unfold nb; omega
  obtain ⟨P, hP⟩ : ∃ P, pkB B5 = P := ⟨_, rfl⟩
  have h35 := fun H => s96 n H (pkB B5) hps
  have hsz : (prot P).size = P.size + 2 := prot_size _
  unfold enV
  rw [hE, hch, decide_eq_false (show ¬ 127 < x.size by omega)]
  rw [hP] at h34 h35 ⊢
  have xx : decide ((127 : Int) < (x.size : Int)) = false := decide_eq_false (by omega)
  have xd : decide ((0 : Int) ≤ d) = false := decide_eq_false (by omega)
  cases hp : decide (127 < P.size + 2) with
  | false =>
    have hp2 : decide ((127 : Int) < ((P.size + 2 : Nat) : Int)) = false := by simp only [decide_eq_false_iff_not] at hp ⊢; omega
    simp only [c51, heap0, go_sem, Int.reduceToNat, Nat.reduceAdd, Nat.reduceBEq, Nat.reduceLeDiff, Nat.reduceLT, Nat.reduceMul, Nat.reduceSub, Int.reduceEq, Int.reduceLT, Int.reduceLE, Int.reduceNeg, h18, h29, h0, h1, h2, h3, h4, h5, h34, h35, xx, xd, hsz, hp, hp2, Nat.reduceMod, Nat.reduceDiv, List.length_cons, List.length_nil, List.filter_replicate, List.all_replicate, List.filter_append, List.all_append, Bool.and_self, ite_self, if_true]
  | true =>
    have hp2 : decide ((127 : Int) < ((P.size + 2 : Nat) : Int)) = true := by simp only [decide_eq_true_eq] at hp ⊢; omega
    simp only [c51, heap0, go_sem, Int.reduceToNat, Nat.reduceAdd, Nat.reduceBEq, Nat.reduceLeDiff, Nat.reduceLT, Nat.reduceMul, Nat.reduceSub, Int.reduceEq, Int.reduceLT, Int.reduceLE, Int.reduceNeg, h18, h29, h0, h1, h2, h3, h4, h5, h34, h35, xx, xd, hsz, hp, hp2, Nat.reduceMod, Nat.reduceDiv, List.length_cons, List.length_nil, List.filter_replicate, List.all_replicate, List.filter_append, List.all_append, Bool.and_self, ite_self, if_true]
end C13
end Go.Sh
namespace Go.Sh
set_option linter.unusedSectionVars false
set_option linter.unnecessarySimpa false
set_option linter.unusedVariables false
set_option linter.unusedSimpArgs false
set_option maxRecDepth 100000
set_option maxHeartbeats 4000000
namespace C13
section
variable (k s d q o c m e t u v : Int) (x : ByteArray)
theorem s51 (n : Nat) (H : Heap) : call1 T (n + 5) (.fn 51) [.agg (fr k s d q o c m e t u v x)] H = some (enV k s d q o c m e t u v x, H) := by
  cases hch : chB k s d q o c m e t u v x with
  | false =>
    refine call_pure e51 (by rfl) ?_
    have h18 := fun H => s89 (n + 2) H k s d q o c m e t u v x
    unfold enV
    rw [hch] at h18
    rw [hch]
    simp only [c51, heap0, go_sem, Int.reduceToNat, Nat.reduceAdd, Nat.reduceBEq, Nat.reduceLeDiff, Nat.reduceLT, Nat.reduceMul, Nat.reduceSub, Int.reduceEq, Int.reduceLT, Int.reduceLE, Int.reduceNeg, h18]
  | true =>
    rcases Nat.lt_or_ge 127 x.size with hx | hx
    · refine call_pure e51 (by rfl) ?_
      have h18 := fun H => s89 (n + 2) H k s d q o c m e t u v x
      unfold enV
      rw [hch] at h18
      rw [hch, decide_eq_true hx]
      have hd : decide ((127 : Int) < (x.size : Int)) = true := decide_eq_true (by omega)
      simp only [c51, heap0, go_sem, Int.reduceToNat, Nat.reduceAdd, Nat.reduceBEq, Nat.reduceLeDiff, Nat.reduceLT, Nat.reduceMul, Nat.reduceSub, Int.reduceEq, Int.reduceLT, Int.reduceLE, Int.reduceNeg, h18, hd]
    · obtain ⟨hs, hd1, hd0, hq, ho, hk⟩ := chB_k hch
      rcases hk with ⟨rfl, _, _⟩ | ⟨rfl, _, _⟩ | ⟨rfl, _, _⟩ | rfl
      · have hdd : 0 ≤ d := by rw [chB_1, decide_eq_true_eq] at hch; omega
        exact s12_1a n H s d q o c m e t u v x hch hx hdd
      · have hdd : 0 ≤ d := by rw [chB_2, Bool.and_eq_true, decide_eq_true_eq, decide_eq_true_eq] at hch; have := hch.2; omega
        exact s12_2a n H s d q o c m e t u v x hch hx hdd
      · have hdd : d = -1 := by rw [chB_3, decide_eq_true_eq] at hch; omega
        exact s12_3b n H s d q o c m e t u v x hch hx hdd
      · by_cases hdd : 0 ≤ d
        · exact s12_4a n H s d q o c m e t u v x hch hx hdd
        · exact s12_4b n H s d q o c m e t u v x hch hx (by omega)
end
end C13
end Go.Sh
namespace Go.Sh
set_option linter.unusedSectionVars false
set_option linter.unnecessarySimpa false
set_option linter.unusedVariables false
set_option linter.unusedSimpArgs false
set_option maxRecDepth 100000
set_option maxHeartbeats 4000000
structure Ac where
  kd : Int
  of : Int
  k : Int
  s : Int
  d : Int
  q : Int
  o : Int
  c : Int
  m : Int
  e : Int
  t : Int
  u : Int
  v : Int
  x : ByteArray
abbrev acC (a : Ac) : List SV := [.int .i64 a.kd, .int .i64 a.of, .int .i64 a.k, .int .i64 a.s, .int .i64 a.d, .int .i64 a.q, .int .i64 a.o, .int .i64 a.c, .int .i64 a.m, .int .i64 a.e, .int .i64 a.t, .int .i64 a.u, .int .i64 a.v, .str a.x]
def acS (L : List Ac) : List (List SV) := L.map acC
@[go_sem] theorem acS_len {L : List Ac} : (acS L).length = L.length := by simp [acS]
@[go_sem] theorem acS_get {L : List Ac} {i : Nat} : (acS L)[i]? = (L[i]?).map acC := by simp [acS]
structure Fi where
  N : List (Int × Int)
  P : List Int
  W : List G.Wl
  f1 : Bool
  f2 : Bool
  f3 : Bool
  ex : Int
  no : Int
  th : Int
  S : List U.Src
  g1 : Bool
  F : List U.Fd
  g2 : Bool
  K : List (Int × Int)
  h1 : Bool
  v : Int
  a : Int
  b : Int
  C : List Int
  h2 : Bool
abbrev fiC (f : Fi) : List SV := [.lst 2 (G.ptsS f.N) f.f1, .lst 1 (G.intsS f.P) f.f2, .lst 5 (G.wlsS f.W) f.f3, .int .i64 f.ex, .int .i64 f.no, .int .i64 f.th,
  .lst 7 (U.srsS f.S) f.g1, .lst 6 (U.fdsS f.F) f.g2, .lst 2 (G.ptsS f.K) f.h1, .int .i64 f.v, .int .i64 f.a, .int .i64 f.b, .lst 1 (iS f.C) f.h2]
theorem dle40 (n : Nat) : decide ((n : Int) ≤ 40) = decide (n ≤ 40) := by rw [decide_eq_decide]; omega
theorem dle20 (n : Nat) : decide ((n : Int) ≤ 20) = decide (n ≤ 20) := by rw [decide_eq_decide]; omega
theorem dlt40 (n : Nat) : decide ((n : Int) < 40) = decide (n < 40) := by rw [decide_eq_decide]; omega
theorem dgt200 (n : Nat) : decide (200 < (n : Int)) = decide (200 < n) := by rw [decide_eq_decide]; omega
theorem deqn (n k : Nat) : decide ((n : Int) = (k : Int)) = decide (n = k) := by rw [decide_eq_decide]; omega
def fewF (f : Fi) : Bool := G.fewI f.N f.P f.W && U.fewB f.S f.F && decide (f.K.length ≤ 40) && decide (f.C.length ≤ 20)
theorem s48 (n : Nat) (H : Heap) (f : Fi) (hS : f.S.length ≤ maxLen) : call1 T (n + 3) (.fn 48) [.agg (fiC f)] H = some (.bool (fewF f), H) := by
  have h1 := fun H => G.s86 (n + 1) H f.N f.P f.W f.f1 f.f2 f.f3 f.ex f.no f.th
  have h2 := fun H => U.s87 n H f.S f.F f.g1 f.g2 hS
  refine call_pure e48 (by rfl) ?_
  unfold fewF
  cases a1 : G.fewI f.N f.P f.W <;> cases a2 : U.fewB f.S f.F <;> cases a3 : decide (f.K.length ≤ 40) <;> rw [a1] at h1 <;> rw [a2] at h2 <;> simp only [c48, heap0, go_sem, Int.reduceToNat, Nat.reduceAdd, Nat.reduceBEq, Nat.reduceLeDiff, Nat.reduceLT, Nat.reduceMul, Nat.reduceSub, Int.reduceEq, Int.reduceLT, Int.reduceLE, Int.reduceNeg, h1, h2, dle40, dle20, a3, G.ptsS_len', Bool.true_and, Bool.false_and]
def fewA (A : List Ac) : Bool := bif (A.take 40).any (fun a => decide (200 < a.x.size)) then false else decide (A.length ≤ 40)
theorem fewA_at {A : List Ac} {i : Nat} (hP : ∀ (j : Nat) a, j < i → A[j]? = some a → decide (200 < a.x.size) = false) (h : A.length ≤ i ∨ i = 40) : fewA A = decide (A.length ≤ 40) := by
  unfold fewA
  have : (A.take 40).any (fun a => decide (200 < a.x.size)) = false := by
    rw [List.any_eq_false]
    intro a ha
    obtain ⟨j, hj⟩ := List.getElem?_of_mem ha
    rw [List.getElem?_take] at hj
    split at hj
    · rename_i h40
      have hl := (List.getElem?_eq_some_iff.1 hj).1
      rw [hP j a (by omega) hj]
      exact Bool.false_ne_true
    · cases hj
  rw [this]
  rfl
theorem s49 (n : Nat) (H : Heap) (A : List Ac) (f : Bool) (hA : A.length ≤ maxLen) : call1 T (n + 1) (.fn 49) [.lst 14 (acS A) f] H = some (.bool (fewA A), H) := by
  refine call_pure e49 (by rfl) ?_
  simp only [c49, heap0, go_sem, Int.reduceToNat, Nat.reduceAdd, Nat.reduceBEq, Nat.reduceLeDiff, Nat.reduceLT, Nat.reduceMul, Nat.reduceSub, Int.reduceEq, Int.reduceLT, Int.reduceLE, Int.reduceNeg]
  refine loop_rule (fun i => ([(0, .lst 14 (acS A) f), (3, .int .i64 i)], ⟨[], [], 0⟩)) (fun i => ∀ (j : Nat) a, j < i → A[j]? = some a → decide (200 < a.x.size) = false) 40 ?_ (fun j a h => by omega) ?_
  · simp only [go_sem, Int.reduceToNat, Nat.reduceAdd, Nat.reduceBEq, Nat.reduceLeDiff, Nat.reduceLT, Nat.reduceMul, Nat.reduceSub, Int.reduceEq, Int.reduceLT, Int.reduceLE, Int.reduceNeg] <;> rfl
  · intro i hi hP
    rcases Nat.lt_or_ge i A.length with hlt | hge
    · rcases Nat.lt_or_ge i 40 with h40 | h40
      · obtain ⟨a, ha⟩ : ∃ a, A[i]? = some a := ⟨A[i], List.getElem?_eq_getElem hlt⟩
        have hw := w64_suc hlt hA
        cases hd : decide (200 < a.x.size) with
        | true =>
          have hx : fewA A = false := by
            unfold fewA
            rw [List.any_eq_true.2 ⟨a, List.mem_of_getElem? (i := i) (by rw [List.getElem?_take, if_pos h40]; exact ha), hd⟩]
            rfl
          simp only [go_sem, Int.reduceToNat, Nat.reduceAdd, Nat.reduceBEq, Nat.reduceLeDiff, Nat.reduceLT, Nat.reduceMul, Nat.reduceSub, Int.reduceEq, Int.reduceLT, Int.reduceLE, Int.reduceNeg, hlt, dlt40, h40, ha, dgt200, hd, hx]
        | false =>
          simp only [go_sem, Int.reduceToNat, Nat.reduceAdd, Nat.reduceBEq, Nat.reduceLeDiff, Nat.reduceLT, Nat.reduceMul, Nat.reduceSub, Int.reduceEq, Int.reduceLT, Int.reduceLE, Int.reduceNeg, hlt, dlt40, h40, ha, dgt200, hd, hw]
          refine ⟨by first | trivial | omega, by first | trivial | rfl, fun j b hj hb => ?_⟩
          rcases Nat.lt_or_ge j i with h | h
          · exact hP j b h hb
          · obtain rfl : j = i := by omega
            rw [ha] at hb
            cases hb
            exact hd
      · have hx : fewA A = decide (A.length ≤ 40) := fewA_at hP (.inr (by omega))
        have h41 : ¬ i < 40 := by omega
        simp only [go_sem, Int.reduceToNat, Nat.reduceAdd, Nat.reduceBEq, Nat.reduceLeDiff, Nat.reduceLT, Nat.reduceMul, Nat.reduceSub, Int.reduceEq, Int.reduceLT, Int.reduceLE, Int.reduceNeg, hlt, dlt40, dle40, h41, hx]
    · have hx : fewA A = decide (A.length ≤ 40) := fewA_at hP (.inl hge)
      have hlt : ¬ i < A.length := by omega
      simp only [go_sem, Int.reduceToNat, Nat.reduceAdd, Nat.reduceBEq, Nat.reduceLeDiff, Nat.reduceLT, Nat.reduceMul, Nat.reduceSub, Int.reduceEq, Int.reduceLT, Int.reduceLE, Int.reduceNeg, hlt, dlt40, dle40, hx]
end Go.Sh
namespace Go.Sh
set_option linter.unusedSectionVars false
set_option linter.unnecessarySimpa false
set_option linter.unusedVariables false
set_option linter.unusedSimpArgs false
set_option maxRecDepth 100000
set_option maxHeartbeats 4000000
theorem x63 : T 63 = some (stdCF 120) := e63
theorem x120 : T 120 = some (stdIdxF true 2) := e120
theorem s59 (n : Nat) (H : Heap) (a b : Int) : call1 T (n + 2) (.fn 59) [.agg [.int .i64 a, .int .i64 b]] H = some (.bool (!ckC a b), H) := by
  have h := fun H => s60 n H a b
  unfold ckCI at h
  refine call_pure e59 (by rfl) ?_
  cases hc : ckC a b <;> rw [hc] at h <;> simp only [c59, heap0, go_sem, Int.reduceToNat, Nat.reduceAdd, Nat.reduceBEq, Nat.reduceLeDiff, Nat.reduceLT, Nat.reduceMul, Nat.reduceSub, Int.reduceEq, Int.reduceLT, Int.reduceLE, Int.reduceNeg, h]
def toK : List SV → Int × Int
  | [.int _ a, .int _ b] => (a, b)
  | _ => (0, 0)
theorem s63 (n : Nat) (H : Heap) (K : List (Int × Int)) (f : Bool) (hK : K.length ≤ maxLen) : call1 T (n + 4) (.fn 63) [.lst 2 (G.ptsS K) f, .fn 59 []] H = some (.bool (K.any fun p => !ckC p.1 p.2), H) := by
  have h := stdCF_ok (T := T) (f := 63) (n := n + 2) (H := H) (ag := true) (z := 2) (id := 59) (caps := []) (v := .lst 2 (G.ptsS K) f) (L := G.ptsS K) (p := fun r => !ckC (toK r).1 (toK r).2) x63 x120 (.lst 2 f (.inl rfl)) G.ptsS_len (fun h => by cases h) (by simpa [G.ptsS] using hK)
    (fun r hr bl ro _ => by
      simp only [G.ptsS, List.mem_map] at hr
      obtain ⟨p, _, rfl⟩ := hr
      exact s59 n ⟨bl, [], ro⟩ p.1 p.2) (by simp [SV.refs.refsL])
  rw [G.ptsS_any (q := fun p => !ckC p.1 p.2) (fun a b => rfl)] at h
  exact h
structure Bd (f : Fi) : Prop where
  N : f.N.length ≤ maxLen
  P : f.P.length ≤ maxLen
  W : f.W.length ≤ maxLen
  S : U.okS f.S
  F : f.F.length ≤ maxLen
  K : f.K.length ≤ maxLen
  C : f.C.length ≤ 1000
theorem Bd.C' {f : Fi} (h : Bd f) : f.C.length ≤ maxLen := Nat.le_trans h.C (by decide)
def okF (f : Fi) : Bool := G.okI f.N f.P f.W f.ex f.no f.th && U.ckB f.S f.F && decide (f.K.length = f.N.length) && !(f.K.any fun p => !ckC p.1 p.2) && C11.okH f.v f.a f.b f.C
def chF (f : Fi) : Int := bif okF f then 0 else 1
theorem s22 (n : Nat) (H : Heap) (f : Fi) (hb : Bd f) : call1 T (n + 8) (.fn 22) [.agg (fiC f)] H = some (.int .i64 (chF f), H) := by
  have h1 := fun H => G.s61 (n + 1) H f.N f.P f.W f.f1 f.f2 f.f3 f.ex f.no f.th hb.N hb.P hb.W
  have h2 := fun H => U.s62 n H f.S f.F f.g1 f.g2 hb.S hb.F
  have h3 := fun H => s63 (n + 3) H f.K f.h1 hb.K
  have h4 := fun H => C11.s64 (n + 3) H f.v f.a f.b f.C f.h2 hb.C'
  unfold G.chkI at h1
  unfold U.ck at h2
  unfold C11.ckH at h4
  unfold chF okF
  refine call_pure e22 (by rfl) ?_
  generalize (f.K.any fun p => !ckC p.1 p.2) = B at h3 ⊢
  cases a1 : G.okI f.N f.P f.W f.ex f.no f.th with
  | false => rw [a1] at h1; simp only [c22, heap0, go_sem, Int.reduceToNat, Nat.reduceAdd, Nat.reduceBEq, Nat.reduceLeDiff, Nat.reduceLT, Nat.reduceMul, Nat.reduceSub, Int.reduceEq, Int.reduceLT, Int.reduceLE, Int.reduceNeg, h1, Bool.false_and]
  | true =>
    rw [a1] at h1
    cases a2 : U.ckB f.S f.F with
    | false => rw [a2] at h2; simp only [c22, heap0, go_sem, Int.reduceToNat, Nat.reduceAdd, Nat.reduceBEq, Nat.reduceLeDiff, Nat.reduceLT, Nat.reduceMul, Nat.reduceSub, Int.reduceEq, Int.reduceLT, Int.reduceLE, Int.reduceNeg, h1, h2, Bool.false_and, Bool.true_and]
    | true =>
      rw [a2] at h2
      cases a3 : decide (f.K.length = f.N.length) with
      | false => simp only [c22, heap0, go_sem, Int.reduceToNat, Nat.reduceAdd, Nat.reduceBEq, Nat.reduceLeDiff, Nat.reduceLT, Nat.reduceMul, Nat.reduceSub, Int.reduceEq, Int.reduceLT, Int.reduceLE, Int.reduceNeg, h1, h2, deqn, a3, G.ptsS_len', Bool.false_and, Bool.true_and]
      | true =>
        cases B with
        | true => simp only [c22, heap0, go_sem, Int.reduceToNat, Nat.reduceAdd, Nat.reduceBEq, Nat.reduceLeDiff, Nat.reduceLT, Nat.reduceMul, Nat.reduceSub, Int.reduceEq, Int.reduceLT, Int.reduceLE, Int.reduceNeg, h1, h2, h3, deqn, a3, G.ptsS_len', Bool.false_and, Bool.true_and]
        | false =>
          cases a4 : C11.okH f.v f.a f.b f.C <;> rw [a4] at h4 <;> simp only [c22, heap0, go_sem, Int.reduceToNat, Nat.reduceAdd, Nat.reduceBEq, Nat.reduceLeDiff, Nat.reduceLT, Nat.reduceMul, Nat.reduceSub, Int.reduceEq, Int.reduceLT, Int.reduceLE, Int.reduceNeg, h1, h2, h3, h4, deqn, a3, G.ptsS_len', Bool.false_and, Bool.true_and, Bool.not_false]
theorem s35 (n : Nat) (H : Heap) (f : Fi) (hb : Bd f) : call1 T (n + 7) (.fn 35) [.agg (fiC f)] H = some (.int .i64 (chF f), H) := by
  have h1 := fun H => G.s75 n H f.N f.P f.W f.f1 f.f2 f.f3 f.ex f.no f.th hb.W hb.N
  have h2 := fun H => U.s76 (n + 3) H f.S f.F f.g1 f.g2 hb.S hb.F
  have h3 := fun H a b => s69 (n + 5) H a b
  have h4 := fun H => C11.s72 (n + 3) H f.v f.a f.b f.C f.h2 hb.C'
  unfold G.chkI at h1
  unfold U.ck at h2
  unfold C11.ckH at h4
  unfold chF okF
  refine call_pure e35 (by rfl) ?_
  obtain ⟨B, hB⟩ : ∃ B, (f.K.any fun p => !ckC p.1 p.2) = B := ⟨_, rfl⟩
  rw [hB]
  cases a1 : G.okI f.N f.P f.W f.ex f.no f.th with
  | false => rw [a1] at h1; simp only [c35, heap0, go_sem, Int.reduceToNat, Nat.reduceAdd, Nat.reduceBEq, Nat.reduceLeDiff, Nat.reduceLT, Nat.reduceMul, Nat.reduceSub, Int.reduceEq, Int.reduceLT, Int.reduceLE, Int.reduceNeg, h1, Bool.false_and]
  | true =>
    rw [a1] at h1
    cases a2 : U.ckB f.S f.F with
    | false => rw [a2] at h2; simp only [c35, heap0, go_sem, Int.reduceToNat, Nat.reduceAdd, Nat.reduceBEq, Nat.reduceLeDiff, Nat.reduceLT, Nat.reduceMul, Nat.reduceSub, Int.reduceEq, Int.reduceLT, Int.reduceLE, Int.reduceNeg, h1, h2, Bool.false_and, Bool.true_and]
    | true =>
      rw [a2] at h2
      cases a3 : decide (f.K.length = f.N.length) with
      | false => simp only [c35, heap0, go_sem, Int.reduceToNat, Nat.reduceAdd, Nat.reduceBEq, Nat.reduceLeDiff, Nat.reduceLT, Nat.reduceMul, Nat.reduceSub, Int.reduceEq, Int.reduceLT, Int.reduceLE, Int.reduceNeg, h1, h2, deqn, a3, G.ptsS_len', Bool.false_and, Bool.true_and]
      | true =>
        cases a4 : C11.okH f.v f.a f.b f.C with
        | false => rw [a4] at h4; simp only [c35, heap0, go_sem, Int.reduceToNat, Nat.reduceAdd, Nat.reduceBEq, Nat.reduceLeDiff, Nat.reduceLT, Nat.reduceMul, Nat.reduceSub, Int.reduceEq, Int.reduceLT, Int.reduceLE, Int.reduceNeg, h1, h2, h4, deqn, a3, G.ptsS_len', Bool.and_false]
        | true =>
          rw [a4] at h4
          simp only [c35, heap0, go_sem, Int.reduceToNat, Nat.reduceAdd, Nat.reduceBEq, Nat.reduceLeDiff, Nat.reduceLT, Nat.reduceMul, Nat.reduceSub, Int.reduceEq, Int.reduceLT, Int.reduceLE, Int.reduceNeg, h1, h2, h4, deqn, a3, G.ptsS_len', Bool.true_and, Bool.and_true]
          refine loop_rule (fun i => ([(1, .ptr 0 0 0 0), (3, .int .i64 i)], ⟨[.box (fiC f)], [], 0⟩)) (fun i => ∀ (j : Nat) p, j < i → f.K[j]? = some p → ckC p.1 p.2 = true) f.K.length ?_ (fun j p h => by omega) ?_
          · simp only [go_sem, Int.reduceToNat, Nat.reduceAdd, Nat.reduceBEq, Nat.reduceLeDiff, Nat.reduceLT, Nat.reduceMul, Nat.reduceSub, Int.reduceEq, Int.reduceLT, Int.reduceLE, Int.reduceNeg] <;> rfl
          · intro i hi hP
            rcases Nat.lt_or_ge i f.K.length with hlt | hge
            · obtain ⟨p, hp⟩ : ∃ p, f.K[i]? = some p := ⟨f.K[i], List.getElem?_eq_getElem hlt⟩
              have hw := w64_suc hlt hb.K
              have hg : (G.ptsS f.K)[i]? = some [.int .i64 p.1, .int .i64 p.2] := by simp [G.ptsS, hp]
              have h3 := fun H => h3 H p.1 p.2
              unfold ckCI at h3
              cases hc : ckC p.1 p.2 with
              | false =>
                have hx : B = true := by rw [← hB]; exact List.any_eq_true.2 ⟨p, List.mem_of_getElem? hp, by rw [hc]; rfl⟩
                rw [hc] at h3
                simp only [go_sem, Int.reduceToNat, Nat.reduceAdd, Nat.reduceBEq, Nat.reduceLeDiff, Nat.reduceLT, Nat.reduceMul, Nat.reduceSub, Int.reduceEq, Int.reduceLT, Int.reduceLE, Int.reduceNeg, hlt, G.ptsS_len', hp, h3, hx]
              | true =>
                rw [hc] at h3
                simp only [go_sem, Int.reduceToNat, Nat.reduceAdd, Nat.reduceBEq, Nat.reduceLeDiff, Nat.reduceLT, Nat.reduceMul, Nat.reduceSub, Int.reduceEq, Int.reduceLT, Int.reduceLE, Int.reduceNeg, hlt, G.ptsS_len', hp, h3, hw]
                refine ⟨by first | trivial | omega, by first | trivial | rfl, fun j b hj hb => ?_⟩
                rcases Nat.lt_or_ge j i with h | h
                · exact hP j b h hb
                · obtain rfl : j = i := by omega
                  rw [hp] at hb
                  cases hb
                  exact hc
            · have hx : B = false := by
                rw [← hB, List.any_eq_false]
                intro p hp
                obtain ⟨j, hj⟩ := List.getElem?_of_mem hp
                have hl := (List.getElem?_eq_some_iff.1 hj).1
                rw [hP j p (by omega) hj]
                exact Bool.false_ne_true
              have hlt : ¬ i < f.K.length := by omega
              simp only [go_sem, Int.reduceToNat, Nat.reduceAdd, Nat.reduceBEq, Nat.reduceLeDiff, Nat.reduceLT, Nat.reduceMul, Nat.reduceSub, Int.reduceEq, Int.reduceLT, Int.reduceLE, Int.reduceNeg, hlt, G.ptsS_len', hx]
def inF (f : Fi) (s : Int) : Bool := decide (f.a ≤ s) && decide (s < f.b)
theorem s65 (n : Nat) (H : Heap) (f : Fi) (s : Int) : call1 T (n + 1) (.fn 65) [.agg (fiC f), .int .i64 s] H = some (.bool (inF f s), H) := by
  unfold inF
  refine call_pure e65 (by rfl) ?_
  cases h : decide (f.a ≤ s) <;> simp only [c65, heap0, go_sem, Int.reduceToNat, Nat.reduceAdd, Nat.reduceBEq, Nat.reduceLeDiff, Nat.reduceLT, Nat.reduceMul, Nat.reduceSub, Int.reduceEq, Int.reduceLT, Int.reduceLE, Int.reduceNeg, h]
theorem s73 (n : Nat) (H : Heap) (f : Fi) (s : Int) : call1 T (n + 1) (.fn 73) [.agg (fiC f), .int .i64 s] H = some (.bool (inF f s), H) := by
  unfold inF
  refine call_pure e73 (by rfl) ?_
  cases h : decide (f.a ≤ s) <;> simp only [c73, heap0, go_sem, Int.reduceToNat, Nat.reduceAdd, Nat.reduceBEq, Nat.reduceLeDiff, Nat.reduceLT, Nat.reduceMul, Nat.reduceSub, Int.reduceEq, Int.reduceLT, Int.reduceLE, Int.reduceNeg, h]
end Go.Sh
namespace Go.Sh
set_option linter.unusedSectionVars false
set_option linter.unnecessarySimpa false
set_option linter.unusedVariables false
set_option linter.unusedSimpArgs false
set_option maxRecDepth 100000
set_option maxHeartbeats 4000000
def enS (a : Ac) : ByteArray :=
  bif !C13.chB a.k a.s a.d a.q a.o a.c a.m a.e a.t a.u a.v a.x then ⟨#[]⟩
  else bif decide (127 < a.x.size) || decide (127 < (C13.pkB (C13.enBits a.k a.s a.d a.q a.o a.c a.m a.e a.t a.u a.v a.x)).size + 2) then ⟨#[]⟩
  else C13.prot (C13.pkB (C13.enBits a.k a.s a.d a.q a.o a.c a.m a.e a.t a.u a.v a.x))
def enE (a : Ac) : Int :=
  bif !C13.chB a.k a.s a.d a.q a.o a.c a.m a.e a.t a.u a.v a.x then 1
  else bif decide (127 < a.x.size) || decide (127 < (C13.pkB (C13.enBits a.k a.s a.d a.q a.o a.c a.m a.e a.t a.u a.v a.x)).size + 2) then 8
  else 0
theorem enV_eq (a : Ac) : C13.enV a.k a.s a.d a.q a.o a.c a.m a.e a.t a.u a.v a.x = .tup [.str (enS a), .int .i64 (enE a)] := by
  unfold C13.enV enS enE
  cases C13.chB a.k a.s a.d a.q a.o a.c a.m a.e a.t a.u a.v a.x with
  | false => rfl
  | true =>
    simp only [Bool.not_true, cond_false]
    cases (decide (127 < a.x.size) || decide (127 < (C13.pkB (C13.enBits a.k a.s a.d a.q a.o a.c a.m a.e a.t a.u a.v a.x)).size + 2)) <;> rfl
def fmI (nc : Nat) (i : Int) (a : Ac) : Int :=
  bif decide (a.kd = 0) then 0 else bif decide (a.kd = 1) || decide (a.kd = 2) then (bif decide (a.of < 0) || decide ((nc : Int) ≤ a.of) then 2 else bif decide (a.kd = 1) && (!decide (enE a = 0) || (decide (a.k = 2) || !decide (a.s = i))) then 1 else 0) else 1
theorem kd_cases (x : Int) : (decide (x = 0) = true ∧ decide (x = 1) = false ∧ decide (x = 2) = false) ∨ (decide (x = 0) = false ∧ decide (x = 1) = true ∧ decide (x = 2) = false) ∨ (decide (x = 0) = false ∧ decide (x = 1) = false ∧ decide (x = 2) = true) ∨
    (decide (x = 0) = false ∧ decide (x = 1) = false ∧ decide (x = 2) = false) := by
  simp only [decide_eq_true_eq, decide_eq_false_iff_not]; omega
theorem s77 (n : Nat) (H : Heap) (f : Fi) (i : Int) (a : Ac) (hx : a.x.size ≤ 10000) : call1 T (n + 9) (.fn 77) [.agg (fiC f), .int .i64 i, .agg (acC a)] H = some (.int .i64 (fmI f.C.length i a), H) := by
  have h := fun H => C13.s133 n H a.k a.s a.d a.q a.o a.c a.m a.e a.t a.u a.v a.x hx
  rw [enV_eq] at h
  unfold fmI
  refine call_pure e77 (by rfl) ?_
  rcases kd_cases a.kd with ⟨e0, e1, e2⟩ | ⟨e0, e1, e2⟩ | ⟨e0, e1, e2⟩ | ⟨e0, e1, e2⟩
  · simp only [c77, heap0, go_sem, Int.reduceToNat, Nat.reduceAdd, Nat.reduceBEq, Nat.reduceLeDiff, Nat.reduceLT, Nat.reduceMul, Nat.reduceSub, Int.reduceEq, Int.reduceLT, Int.reduceLE, Int.reduceNeg, e0, e1, e2]
  · cases e3 : decide (a.of < 0)
    · cases e4 : decide ((f.C.length : Int) ≤ a.of)
      · cases e5 : decide (enE a = 0)
        · simp only [c77, heap0, go_sem, Int.reduceToNat, Nat.reduceAdd, Nat.reduceBEq, Nat.reduceLeDiff, Nat.reduceLT, Nat.reduceMul, Nat.reduceSub, Int.reduceEq, Int.reduceLT, Int.reduceLE, Int.reduceNeg, e0, e1, e2, e3, e4, e5, h, Bool.or_self, Bool.or_false, Bool.or_true, Bool.false_or, Bool.true_or, Bool.not_false, Bool.not_true, Bool.and_true, Bool.and_false]
        · cases e6 : decide (a.k = 2)
          · cases e7 : decide (a.s = i) <;> simp only [c77, heap0, go_sem, Int.reduceToNat, Nat.reduceAdd, Nat.reduceBEq, Nat.reduceLeDiff, Nat.reduceLT, Nat.reduceMul, Nat.reduceSub, Int.reduceEq, Int.reduceLT, Int.reduceLE, Int.reduceNeg, e0, e1, e2, e3, e4, e5, e6, e7, h, Bool.or_self, Bool.or_false, Bool.or_true, Bool.false_or, Bool.true_or, Bool.not_false, Bool.not_true, Bool.and_true, Bool.and_false]
          · simp only [c77, heap0, go_sem, Int.reduceToNat, Nat.reduceAdd, Nat.reduceBEq, Nat.reduceLeDiff, Nat.reduceLT, Nat.reduceMul, Nat.reduceSub, Int.reduceEq, Int.reduceLT, Int.reduceLE, Int.reduceNeg, e0, e1, e2, e3, e4, e5, e6, h, Bool.or_self, Bool.or_false, Bool.or_true, Bool.false_or, Bool.true_or, Bool.not_false, Bool.not_true, Bool.and_true, Bool.and_false]
      · simp only [c77, heap0, go_sem, Int.reduceToNat, Nat.reduceAdd, Nat.reduceBEq, Nat.reduceLeDiff, Nat.reduceLT, Nat.reduceMul, Nat.reduceSub, Int.reduceEq, Int.reduceLT, Int.reduceLE, Int.reduceNeg, e0, e1, e2, e3, e4, Bool.or_self, Bool.or_false, Bool.or_true, Bool.false_or, Bool.true_or]
    · simp only [c77, heap0, go_sem, Int.reduceToNat, Nat.reduceAdd, Nat.reduceBEq, Nat.reduceLeDiff, Nat.reduceLT, Nat.reduceMul, Nat.reduceSub, Int.reduceEq, Int.reduceLT, Int.reduceLE, Int.reduceNeg, e0, e1, e2, e3, Bool.or_self, Bool.or_false, Bool.or_true, Bool.false_or, Bool.true_or]
  · cases e3 : decide (a.of < 0)
    · cases e4 : decide ((f.C.length : Int) ≤ a.of)
      · simp only [c77, heap0, go_sem, Int.reduceToNat, Nat.reduceAdd, Nat.reduceBEq, Nat.reduceLeDiff, Nat.reduceLT, Nat.reduceMul, Nat.reduceSub, Int.reduceEq, Int.reduceLT, Int.reduceLE, Int.reduceNeg, e0, e1, e2, e3, e4, h, Bool.or_self, Bool.or_false, Bool.or_true, Bool.false_or, Bool.true_or, Bool.not_false, Bool.not_true, Bool.and_true, Bool.and_false, Bool.false_and]
      · simp only [c77, heap0, go_sem, Int.reduceToNat, Nat.reduceAdd, Nat.reduceBEq, Nat.reduceLeDiff, Nat.reduceLT, Nat.reduceMul, Nat.reduceSub, Int.reduceEq, Int.reduceLT, Int.reduceLE, Int.reduceNeg, e0, e1, e2, e3, e4, Bool.or_self, Bool.or_false, Bool.or_true, Bool.false_or, Bool.true_or]
    · simp only [c77, heap0, go_sem, Int.reduceToNat, Nat.reduceAdd, Nat.reduceBEq, Nat.reduceLeDiff, Nat.reduceLT, Nat.reduceMul, Nat.reduceSub, Int.reduceEq, Int.reduceLT, Int.reduceLE, Int.reduceNeg, e0, e1, e2, e3, Bool.or_self, Bool.or_false, Bool.or_true, Bool.false_or, Bool.true_or]
  · simp only [c77, heap0, go_sem, Int.reduceToNat, Nat.reduceAdd, Nat.reduceBEq, Nat.reduceLeDiff, Nat.reduceLT, Nat.reduceMul, Nat.reduceSub, Int.reduceEq, Int.reduceLT, Int.reduceLE, Int.reduceNeg, e0, e1, e2, Bool.or_self]
theorem s74 (n : Nat) (H : Heap) (f : Fi) (i : Int) (a : Ac) : call1 T (n + 6) (.fn 74) [.agg (fiC f), .int .i64 i, .agg (acC a)] H = some (.int .i64 (fmI f.C.length i a), H) := by
  have h := fun H => C13.s51 a.k a.s a.d a.q a.o a.c a.m a.e a.t a.u a.v a.x n H
  rw [enV_eq] at h
  unfold fmI
  refine call_pure e74 (by rfl) ?_
  rcases kd_cases a.kd with ⟨e0, e1, e2⟩ | ⟨e0, e1, e2⟩ | ⟨e0, e1, e2⟩ | ⟨e0, e1, e2⟩
  · simp only [c74, heap0, go_sem, Int.reduceToNat, Nat.reduceAdd, Nat.reduceBEq, Nat.reduceLeDiff, Nat.reduceLT, Nat.reduceMul, Nat.reduceSub, Int.reduceEq, Int.reduceLT, Int.reduceLE, Int.reduceNeg, e0, e1, e2]
  · cases e3 : decide (a.of < 0)
    · cases e4 : decide ((f.C.length : Int) ≤ a.of)
      · cases e5 : decide (enE a = 0)
        · simp only [c74, heap0, go_sem, Int.reduceToNat, Nat.reduceAdd, Nat.reduceBEq, Nat.reduceLeDiff, Nat.reduceLT, Nat.reduceMul, Nat.reduceSub, Int.reduceEq, Int.reduceLT, Int.reduceLE, Int.reduceNeg, e0, e1, e2, e3, e4, e5, h, Bool.or_self, Bool.or_false, Bool.or_true, Bool.false_or, Bool.true_or, Bool.not_false, Bool.not_true, Bool.and_true, Bool.and_false]
        · cases e6 : decide (a.k = 2)
          · cases e7 : decide (a.s = i) <;> simp only [c74, heap0, go_sem, Int.reduceToNat, Nat.reduceAdd, Nat.reduceBEq, Nat.reduceLeDiff, Nat.reduceLT, Nat.reduceMul, Nat.reduceSub, Int.reduceEq, Int.reduceLT, Int.reduceLE, Int.reduceNeg, e0, e1, e2, e3, e4, e5, e6, e7, h, Bool.or_self, Bool.or_false, Bool.or_true, Bool.false_or, Bool.true_or, Bool.not_false, Bool.not_true, Bool.and_true, Bool.and_false]
          · simp only [c74, heap0, go_sem, Int.reduceToNat, Nat.reduceAdd, Nat.reduceBEq, Nat.reduceLeDiff, Nat.reduceLT, Nat.reduceMul, Nat.reduceSub, Int.reduceEq, Int.reduceLT, Int.reduceLE, Int.reduceNeg, e0, e1, e2, e3, e4, e5, e6, h, Bool.or_self, Bool.or_false, Bool.or_true, Bool.false_or, Bool.true_or, Bool.not_false, Bool.not_true, Bool.and_true, Bool.and_false]
      · simp only [c74, heap0, go_sem, Int.reduceToNat, Nat.reduceAdd, Nat.reduceBEq, Nat.reduceLeDiff, Nat.reduceLT, Nat.reduceMul, Nat.reduceSub, Int.reduceEq, Int.reduceLT, Int.reduceLE, Int.reduceNeg, e0, e1, e2, e3, e4, Bool.or_self, Bool.or_false, Bool.or_true, Bool.false_or, Bool.true_or]
    · simp only [c74, heap0, go_sem, Int.reduceToNat, Nat.reduceAdd, Nat.reduceBEq, Nat.reduceLeDiff, Nat.reduceLT, Nat.reduceMul, Nat.reduceSub, Int.reduceEq, Int.reduceLT, Int.reduceLE, Int.reduceNeg, e0, e1, e2, e3, Bool.or_self, Bool.or_false, Bool.or_true, Bool.false_or, Bool.true_or]
  · cases e3 : decide (a.of < 0)
    · cases e4 : decide ((f.C.length : Int) ≤ a.of)
      · simp only [c74, heap0, go_sem, Int.reduceToNat, Nat.reduceAdd, Nat.reduceBEq, Nat.reduceLeDiff, Nat.reduceLT, Nat.reduceMul, Nat.reduceSub, Int.reduceEq, Int.reduceLT, Int.reduceLE, Int.reduceNeg, e0, e1, e2, e3, e4, h, Bool.or_self, Bool.or_false, Bool.or_true, Bool.false_or, Bool.true_or, Bool.not_false, Bool.not_true, Bool.and_true, Bool.and_false, Bool.false_and]
      · simp only [c74, heap0, go_sem, Int.reduceToNat, Nat.reduceAdd, Nat.reduceBEq, Nat.reduceLeDiff, Nat.reduceLT, Nat.reduceMul, Nat.reduceSub, Int.reduceEq, Int.reduceLT, Int.reduceLE, Int.reduceNeg, e0, e1, e2, e3, e4, Bool.or_self, Bool.or_false, Bool.or_true, Bool.false_or, Bool.true_or]
    · simp only [c74, heap0, go_sem, Int.reduceToNat, Nat.reduceAdd, Nat.reduceBEq, Nat.reduceLeDiff, Nat.reduceLT, Nat.reduceMul, Nat.reduceSub, Int.reduceEq, Int.reduceLT, Int.reduceLE, Int.reduceNeg, e0, e1, e2, e3, Bool.or_self, Bool.or_false, Bool.or_true, Bool.false_or, Bool.true_or]
  · simp only [c74, heap0, go_sem, Int.reduceToNat, Nat.reduceAdd, Nat.reduceBEq, Nat.reduceLeDiff, Nat.reduceLT, Nat.reduceMul, Nat.reduceSub, Int.reduceEq, Int.reduceLT, Int.reduceLE, Int.reduceNeg, e0, e1, e2, Bool.or_self]
end Go.Sh
namespace Go.Sh
set_option linter.unusedSectionVars false
set_option linter.unnecessarySimpa false
set_option linter.unusedVariables false
set_option linter.unusedSimpArgs false
set_option maxRecDepth 100000
set_option maxHeartbeats 4000000
def fms (nc : Nat) : Nat → List Ac → Int
  | _, [] => 0
  | i, a :: r => bif decide (fmI nc i a = 0) then fms nc (i + 1) r else fmI nc i a
def stE (f : Fi) (s : Int) (A : List Ac) : Int := bif okF f then (bif decide (A.length = f.K.length) then (bif inF f s then fms f.C.length 0 A else 12) else 11) else 1
theorem drop_get {A : Type} {L : List A} {i : Nat} {a : A} (h : L[i]? = some a) : L.drop i = a :: L.drop (i + 1) := by
  obtain ⟨h1, h2⟩ := List.getElem?_eq_some_iff.1 h
  rw [List.drop_eq_getElem_cons h1, h2]
theorem s38 (n : Nat) (H : Heap) (f : Fi) (s : Int) (A : List Ac) (fl : Bool) (hb : Bd f) (hA : A.length ≤ maxLen) (hx : ∀ a ∈ A, a.x.size ≤ 10000) :
    call1 T (n + 10) (.fn 38) [.agg (fiC f), .int .i64 s, .lst 14 (acS A) fl] H = some (.int .i64 (stE f s A), H) := by
  have h1 := fun H => s22 (n + 1) H f hb
  have h2 := fun H => s65 (n + 8) H f s
  have h3 := fun H i a hx => s77 n H f i a hx
  unfold chF at h1
  refine call_pure e38 (by rfl) ?_
  unfold stE
  cases a1 : okF f with
  | false => rw [a1] at h1; simp only [c38, heap0, go_sem, Int.reduceToNat, Nat.reduceAdd, Nat.reduceBEq, Nat.reduceLeDiff, Nat.reduceLT, Nat.reduceMul, Nat.reduceSub, Int.reduceEq, Int.reduceLT, Int.reduceLE, Int.reduceNeg, h1]
  | true =>
    rw [a1] at h1
    cases a2 : decide (A.length = f.K.length) with
    | false => simp only [c38, heap0, go_sem, Int.reduceToNat, Nat.reduceAdd, Nat.reduceBEq, Nat.reduceLeDiff, Nat.reduceLT, Nat.reduceMul, Nat.reduceSub, Int.reduceEq, Int.reduceLT, Int.reduceLE, Int.reduceNeg, h1, G.ptsS_len', deqn, a2]
    | true =>
      cases a3 : inF f s with
      | false => rw [a3] at h2; simp only [c38, heap0, go_sem, Int.reduceToNat, Nat.reduceAdd, Nat.reduceBEq, Nat.reduceLeDiff, Nat.reduceLT, Nat.reduceMul, Nat.reduceSub, Int.reduceEq, Int.reduceLT, Int.reduceLE, Int.reduceNeg, h1, h2, G.ptsS_len', deqn, a2]
      | true =>
        rw [a3] at h2
        simp only [c38, heap0, go_sem, Int.reduceToNat, Nat.reduceAdd, Nat.reduceBEq, Nat.reduceLeDiff, Nat.reduceLT, Nat.reduceMul, Nat.reduceSub, Int.reduceEq, Int.reduceLT, Int.reduceLE, Int.reduceNeg, h1, h2, G.ptsS_len', deqn, a2]
        obtain ⟨X, hX⟩ : ∃ X, fms f.C.length 0 A = X := ⟨_, rfl⟩
        rw [hX]
        refine loop_rule (fun i => ([(3, .ptr 0 0 0 0), (26, .lst 14 (acS A) fl), (27, .int .i64 A.length), (28, .int .i64 i)], ⟨[.box (fiC f)], [], 0⟩)) (fun i => fms f.C.length i (A.drop i) = X) A.length ?_ hX ?_
        · simp only [go_sem, Int.reduceToNat, Nat.reduceAdd, Nat.reduceBEq, Nat.reduceLeDiff, Nat.reduceLT, Nat.reduceMul, Nat.reduceSub, Int.reduceEq, Int.reduceLT, Int.reduceLE, Int.reduceNeg] <;> rfl
        · intro i hi hP
          rcases Nat.lt_or_ge i A.length with hlt | hge
          · obtain ⟨a, ha⟩ : ∃ a, A[i]? = some a := ⟨A[i], List.getElem?_eq_getElem hlt⟩
            have hw := w64_suc hlt hA
            have h3 := fun H => h3 H i a (hx a (List.mem_of_getElem? ha))
            rw [drop_get ha, fms] at hP
            cases hc : decide (fmI f.C.length i a = 0) with
            | false =>
              rw [hc] at hP
              simp only [go_sem, Int.reduceToNat, Nat.reduceAdd, Nat.reduceBEq, Nat.reduceLeDiff, Nat.reduceLT, Nat.reduceMul, Nat.reduceSub, Int.reduceEq, Int.reduceLT, Int.reduceLE, Int.reduceNeg, hlt, ha, h3, hc, put1, hP]
              simp only [cond_false] at hP
              rw [hP]
            | true =>
              rw [hc] at hP
              simp only [go_sem, Int.reduceToNat, Nat.reduceAdd, Nat.reduceBEq, Nat.reduceLeDiff, Nat.reduceLT, Nat.reduceMul, Nat.reduceSub, Int.reduceEq, Int.reduceLT, Int.reduceLE, Int.reduceNeg, hlt, ha, h3, hc, put1, hw]
              refine ⟨by first | trivial | omega, by first | trivial | rfl, hP⟩
          · have hlt : ¬ i < A.length := by omega
            have hx : X = 0 := by rw [← hP, List.drop_eq_nil_of_le hge]; rfl
            simp only [go_sem, Int.reduceToNat, Nat.reduceAdd, Nat.reduceBEq, Nat.reduceLeDiff, Nat.reduceLT, Nat.reduceMul, Nat.reduceSub, Int.reduceEq, Int.reduceLT, Int.reduceLE, Int.reduceNeg, hlt, hx]
def cvA (f : Fi) (s : Int) (a : Ac) : Int := bif decide (a.kd = 0) then -1 else C11.chV f.v f.a f.b f.C s a.of
def chsA (f : Fi) (s : Int) (A : List Ac) : List Int := A.map (cvA f s)
theorem chsA_succ {f : Fi} {s : Int} {A : List Ac} {i : Nat} {a : Ac} (h : A[i]? = some a) : chsA f s (A.take (i + 1)) = chsA f s (A.take i) ++ [cvA f s a] := by
  unfold chsA
  rw [List.take_add_one, h]
  simp
theorem chsA_len {f : Fi} {s : Int} {A : List Ac} {i : Nat} (h : i ≤ A.length) : (iS (chsA f s (A.take i))).length = i := by
  simp [iS, chsA]; omega
abbrev plC (f : Fi) (s : Int) (A : List Ac) (fl : Bool) (x y z : SV) : List SV := [.lst 2 (G.ptsS f.N) f.f1, .lst 1 (G.intsS f.P) f.f2, .lst 5 (G.wlsS f.W) f.f3, .int .i64 f.ex, .int .i64 f.no, .int .i64 f.th,
  .lst 7 (U.srsS f.S) f.g1, .lst 6 (U.fdsS f.F) f.g2, .lst 2 (G.ptsS f.K) f.h1, .int .i64 f.v, .int .i64 f.a, .int .i64 f.b, .lst 1 (iS f.C) f.h2, .int .i64 s, .lst 14 (acS A) fl, x, y, z]
theorem s58 (n b i : Nat) (H : Heap) (f : Fi) (s : Int) (A : List Ac) (fl : Bool) (x y z : SV) (a : Ac) (hC : f.C.length ≤ 1000) (hb : H.bl[b]? = some (.box (plC f s A fl x y z))) (ha : A[i]? = some a) (hi : i < A.length) :
    call1 T (n + 6) (.fn 58) [.ptr b 0 0 0, .int .i64 i] H = some (.int .i64 (C11.chV f.v f.a f.b f.C s a.of), H) := by
  refine call_rox e58 rfl rfl (fun R k bl ro r hbl hk => ?_)
  obtain rfl : bl = H.bl := by
    rcases hbl with ⟨rfl, h0⟩ | rfl
    · simp [SV.refs.refsL, SV.refs] at h0
    · rfl
  have h6 := fun H' => C11.s105 n H' f.v f.a f.b f.C f.h2 s a.of hC
  simp only [c58, fr_get0, fr_getk, fr_set0, fr_setk, fr_take0, fr_takek, fr_drop0, fr_dropk, fr_le, fr_le0, fr_lt, fr_lt0, fr_lt1, fr_min, fr_mink, fr_beq, fr_beq0, fr_beq1, fr_maxle, fr_refl, fr_z, fr_s, List.append_assoc, List.length_append, Nat.add_assoc, go_sem, Int.reduceToNat, Nat.reduceAdd, Nat.reduceBEq, Nat.reduceLeDiff, Nat.reduceLT, Nat.reduceMul, Nat.reduceSub, Int.reduceEq, Int.reduceLT, Int.reduceLE, Int.reduceNeg, hb, ha, h6, hi]
  have := hk []
  rw [List.append_nil] at this
  exact this
end Go.Sh
namespace Go.Sh
set_option linter.unusedSectionVars false
set_option linter.unnecessarySimpa false
set_option linter.unusedVariables false
set_option linter.unusedSimpArgs false
set_option maxRecDepth 100000
set_option maxHeartbeats 4000000
theorem room8 {n : Nat} (h : n ≤ 1000) : decide ((n + 1) * 8 ≤ mostLen) = true := by
  rw [decide_eq_true_eq]
  exact Nat.le_trans (show (n + 1) * 8 ≤ 10000 by omega) (by decide)
def rsL (f : Fi) (s : Int) (A : List Ac) : SV := bif decide (stE f s A = 0) then .lst 1 (iS (chsA f s A)) false else .lst 0 [] true
theorem s20 (n : Nat) (H : Heap) (f : Fi) (s : Int) (A : List Ac) (fl : Bool) (hb : Bd f) (hA : A.length ≤ 1000) (hx : ∀ a ∈ A, a.x.size ≤ 10000) :
    call1 T (n + 11) (.fn 20) [.agg (fiC f), .int .i64 s, .lst 14 (acS A) fl] H = some (.tup [rsL f s A, .int .i64 (stE f s A)], H) := by
  have hA' : A.length ≤ maxLen := Nat.le_trans hA (by decide)
  have h1 := fun H => s38 n H f s A fl hb hA' hx
  refine call_pure e20 (by rfl) ?_
  unfold rsL
  cases he : decide (stE f s A = 0) with
  | false => simp only [c20, heap0, go_sem, Int.reduceToNat, Nat.reduceAdd, Nat.reduceBEq, Nat.reduceLeDiff, Nat.reduceLT, Nat.reduceMul, Nat.reduceSub, Int.reduceEq, Int.reduceLT, Int.reduceLE, Int.reduceNeg, h1, he]
  | true =>
    have he0 := of_decide_eq_true he
    rw [he0] at h1
    simp only [c20, heap0, go_sem, Int.reduceToNat, Nat.reduceAdd, Nat.reduceBEq, Nat.reduceLeDiff, Nat.reduceLT, Nat.reduceMul, Nat.reduceSub, Int.reduceEq, Int.reduceLT, Int.reduceLE, Int.reduceNeg, h1]
    refine loop_rule (fun i => ([(9, .ptr 1 0 0 0), (10, .slc 2 i 0 i), (25, .lst 14 (acS A) fl), (26, .int .i64 A.length), (27, .int .i64 i)], ⟨[.box (fiC f), .box (plC f s A fl (.lst 0 [] true) (.lst 0 [] true) (.lst 0 [] true)), .arr i 1 (iS (chsA f s (A.take i))) false], [], 0⟩)) (fun _ => True) A.length ?_ trivial ?_
    · simp only [go_sem, Int.reduceToNat, Nat.reduceAdd, Nat.reduceBEq, Nat.reduceLeDiff, Nat.reduceLT, Nat.reduceMul, Nat.reduceSub, Int.reduceEq, Int.reduceLT, Int.reduceLE, Int.reduceNeg] <;> rfl
    · intro i hi _
      rcases Nat.lt_or_ge i A.length with hlt | hge
      · obtain ⟨a, ha⟩ : ∃ a, A[i]? = some a := ⟨A[i], List.getElem?_eq_getElem hlt⟩
        have hw := w64_suc hlt hA'
        have hc := chsA_succ (f := f) (s := s) ha
        unfold cvA at hc
        have h5 := fun H hv => s58 (n + 4) 1 i H f s A fl (.lst 0 [] true) (.lst 0 [] true) (.lst 0 [] true) a hb.C hv ha hlt
        have hg := fun H X => apB_grow 1 H 2 i i X (iS (chsA f s (A.take i))) (chsA_len (by omega))
        cases hk : decide (a.kd = 0) with
        | true =>
          rw [hk] at hc
          simp only [cond_true] at hc
          simp only [go_sem, Int.reduceToNat, Nat.reduceAdd, Nat.reduceBEq, Nat.reduceLeDiff, Nat.reduceLT, Nat.reduceMul, Nat.reduceSub, Int.reduceEq, Int.reduceLT, Int.reduceLE, Int.reduceNeg, hlt, ha, hk, put1, hg, room8 (show i ≤ 1000 by omega), iS_snoc, ← hc, hw]
          exact ⟨by first | trivial | omega, by first | trivial | rfl, trivial⟩
        | false =>
          rw [hk] at hc
          simp only [cond_false] at hc
          simp only [go_sem, Int.reduceToNat, Nat.reduceAdd, Nat.reduceBEq, Nat.reduceLeDiff, Nat.reduceLT, Nat.reduceMul, Nat.reduceSub, Int.reduceEq, Int.reduceLT, Int.reduceLE, Int.reduceNeg, hlt, ha, hk, put1, h5, hg, room8 (show i ≤ 1000 by omega), iS_snoc, ← hc, hw]
          exact ⟨by first | trivial | omega, by first | trivial | rfl, trivial⟩
      · obtain rfl : i = A.length := by omega
        have hlt : ¬ A.length < A.length := by omega
        rw [List.take_length]
        have hfz := fun H v => (Still.ints (chsA f s A)).fz 0 H 5 v A.length 1 false (by simp [iS, chsA])
        simp only [go_sem, Int.reduceToNat, Nat.reduceAdd, Nat.reduceBEq, Nat.reduceLeDiff, Nat.reduceLT, Nat.reduceMul, Nat.reduceSub, Int.reduceEq, Int.reduceLT, Int.reduceLE, Int.reduceNeg, hlt, hfz, he0]
theorem s33 (n : Nat) (H : Heap) (f : Fi) (s : Int) (A : List Ac) (fl : Bool) (hb : Bd f) (hA : A.length ≤ 1000) :
    call1 T (n + 8) (.fn 33) [.agg (fiC f), .int .i64 s, .lst 14 (acS A) fl] H = some (.tup [rsL f s A, .int .i64 (stE f s A)], H) := by
  have hA' : A.length ≤ maxLen := Nat.le_trans hA (by decide)
  have h1 := fun H => s35 n H f hb
  have h2 := fun H => s73 (n + 6) H f s
  have h3 := fun H i a => s74 (n + 1) H f i a
  have h4 := fun H o => C11.s29 (n + 3) H f.v f.a f.b f.C f.h2 s o hb.C
  unfold chF at h1
  refine call_pure e33 (by rfl) ?_
  obtain ⟨X, hX⟩ : ∃ X, fms f.C.length 0 A = X := ⟨_, rfl⟩
  have hE : stE f s A = bif okF f then (bif decide (A.length = f.K.length) then (bif inF f s then X else 12) else 11) else 1 := by rw [← hX]; rfl
  unfold rsL
  rw [hE]
  cases a1 : okF f with
  | false => rw [a1] at h1; simp only [c33, heap0, go_sem, Int.reduceToNat, Nat.reduceAdd, Nat.reduceBEq, Nat.reduceLeDiff, Nat.reduceLT, Nat.reduceMul, Nat.reduceSub, Int.reduceEq, Int.reduceLT, Int.reduceLE, Int.reduceNeg, h1]
  | true =>
    rw [a1] at h1
    cases a2 : decide (A.length = f.K.length) with
    | false => simp only [c33, heap0, go_sem, Int.reduceToNat, Nat.reduceAdd, Nat.reduceBEq, Nat.reduceLeDiff, Nat.reduceLT, Nat.reduceMul, Nat.reduceSub, Int.reduceEq, Int.reduceLT, Int.reduceLE, Int.reduceNeg, h1, G.ptsS_len', deqn, a2]
    | true =>
      cases a3 : inF f s with
      | false => rw [a3] at h2; simp only [c33, heap0, go_sem, Int.reduceToNat, Nat.reduceAdd, Nat.reduceBEq, Nat.reduceLeDiff, Nat.reduceLT, Nat.reduceMul, Nat.reduceSub, Int.reduceEq, Int.reduceLT, Int.reduceLE, Int.reduceNeg, h1, h2, G.ptsS_len', deqn, a2]
      | true =>
        rw [a3] at h2
        simp only [c33, heap0, go_sem, Int.reduceToNat, Nat.reduceAdd, Nat.reduceBEq, Nat.reduceLeDiff, Nat.reduceLT, Nat.reduceMul, Nat.reduceSub, Int.reduceEq, Int.reduceLT, Int.reduceLE, Int.reduceNeg, h1, h2, G.ptsS_len', deqn, a2]
        refine loop_rule (fun i => ([(1, .int .i64 s), (2, .lst 14 (acS A) fl), (3, .ptr 0 0 0 0), (8, .slc 1 i 0 i), (9, .int .i64 i)], ⟨[.box (fiC f), .arr i 1 (iS (chsA f s (A.take i))) false], [], 0⟩)) (fun i => fms f.C.length i (A.drop i) = X) A.length ?_ hX ?_
        · simp only [go_sem, Int.reduceToNat, Nat.reduceAdd, Nat.reduceBEq, Nat.reduceLeDiff, Nat.reduceLT, Nat.reduceMul, Nat.reduceSub, Int.reduceEq, Int.reduceLT, Int.reduceLE, Int.reduceNeg] <;> rfl
        · intro i hi hP
          rcases Nat.lt_or_ge i A.length with hlt | hge
          · obtain ⟨a, ha⟩ : ∃ a, A[i]? = some a := ⟨A[i], List.getElem?_eq_getElem hlt⟩
            have hw := w64_suc hlt hA'
            have hc := chsA_succ (f := f) (s := s) ha
            unfold cvA at hc
            have h3 := fun H => h3 H i a
            have hg := fun H X => apB_grow 1 H 1 i i X (iS (chsA f s (A.take i))) (chsA_len (by omega))
            rw [drop_get ha, fms] at hP
            cases hf : decide (fmI f.C.length i a = 0) with
            | false =>
              rw [hf] at hP
              simp only [cond_false] at hP
              have hX0 : decide (X = 0) = false := by rw [← hP]; exact hf
              simp only [go_sem, Int.reduceToNat, Nat.reduceAdd, Nat.reduceBEq, Nat.reduceLeDiff, Nat.reduceLT, Nat.reduceMul, Nat.reduceSub, Int.reduceEq, Int.reduceLT, Int.reduceLE, Int.reduceNeg, hlt, ha, h3, hP, hX0]
            | true =>
              rw [hf] at hP
              cases hk : decide (a.kd = 0) with
              | true =>
                rw [hk] at hc
                simp only [cond_true] at hc
                simp only [go_sem, Int.reduceToNat, Nat.reduceAdd, Nat.reduceBEq, Nat.reduceLeDiff, Nat.reduceLT, Nat.reduceMul, Nat.reduceSub, Int.reduceEq, Int.reduceLT, Int.reduceLE, Int.reduceNeg, hlt, ha, h3, hf, hk, hg, room8 (show i ≤ 1000 by omega), iS_snoc, ← hc, hw]
                exact ⟨by first | trivial | omega, by first | trivial | rfl, hP⟩
              | false =>
                rw [hk] at hc
                simp only [cond_false] at hc
                simp only [go_sem, Int.reduceToNat, Nat.reduceAdd, Nat.reduceBEq, Nat.reduceLeDiff, Nat.reduceLT, Nat.reduceMul, Nat.reduceSub, Int.reduceEq, Int.reduceLT, Int.reduceLE, Int.reduceNeg, hlt, ha, h3, hf, hk, h4, hg, room8 (show i ≤ 1000 by omega), iS_snoc, ← hc, hw]
                exact ⟨by first | trivial | omega, by first | trivial | rfl, hP⟩
          · obtain rfl : i = A.length := by omega
            have hlt : ¬ A.length < A.length := by omega
            have hx : X = 0 := by rw [← hP, List.drop_eq_nil_of_le hge]; rfl
            rw [List.take_length]
            have hfz := fun H v => (Still.ints (chsA f s A)).fz 0 H 5 v A.length 1 false (by simp [iS, chsA])
            simp only [go_sem, Int.reduceToNat, Nat.reduceAdd, Nat.reduceBEq, Nat.reduceLeDiff, Nat.reduceLT, Nat.reduceMul, Nat.reduceSub, Int.reduceEq, Int.reduceLT, Int.reduceLE, Int.reduceNeg, hlt, hfz, hx, decide_true]
end Go.Sh
namespace Go.Sh
set_option linter.unusedSectionVars false
set_option linter.unnecessarySimpa false
set_option linter.unusedVariables false
set_option linter.unusedSimpArgs false
set_option maxRecDepth 100000
set_option maxHeartbeats 4000000
def inK (f : Fi) (i : Int) : Bool := decide (0 ≤ i) && decide (i < (f.K.length : Int))
def clk (f : Fi) (i : Int) : Int × Int := f.K.getD i.toNat (0, 0)
def cnE (f : Fi) (s x y : Int) : Int := bif okF f then (bif inK f x && inK f y then (bif inF f s then (bif decide (snE (clk f x).1 (clk f x).2 s = 0) && decide (wnE (clk f y).1 (clk f y).2 s = 0) then 0 else 15) else 12) else 7) else 1
def cnB (f : Fi) (s x y : Int) : Bool := decide (cnE f s x y = 0) && (decide (wnA (clk f y).1 (clk f y).2 s ≤ snV (clk f x).1 (clk f x).2 s) && decide (snV (clk f x).1 (clk f x).2 s ≤ wnB (clk f y).1 (clk f y).2 s))
theorem inK_no {f : Fi} {i : Int} (h : inK f i = false) : decide (i < 0) = true ∨ decide (i < 0) = false ∧ decide ((f.K.length : Int) ≤ i) = true := by
  simp only [inK, Bool.and_eq_false_iff, decide_eq_false_iff_not, decide_eq_true_eq] at *; omega
theorem inK_yes {f : Fi} {i : Int} (h : inK f i = true) : decide (i < 0) = false ∧ decide ((f.K.length : Int) ≤ i) = false ∧ ∃ j : Nat, i = j ∧ j < f.K.length ∧ f.K[j]? = some (clk f i) := by
  simp only [inK, Bool.and_eq_true, decide_eq_true_eq] at h
  refine ⟨decide_eq_false (by omega), decide_eq_false (by omega), ?_⟩
  obtain ⟨j, rfl⟩ := Int.eq_ofNat_of_zero_le h.1
  have hj : j < f.K.length := by omega
  exact ⟨j, rfl, hj, by rw [clk, List.getD_eq_getElem?_getD, Int.toNat_natCast, List.getElem?_eq_getElem hj]; rfl⟩
theorem s23 (n : Nat) (H : Heap) (f : Fi) (s x y : Int) (hb : Bd f) : call1 T (n + 9) (.fn 23) [.agg (fiC f), .int .i64 s, .int .i64 x, .int .i64 y] H = some (.tup [.bool (cnB f s x y), .int .i64 (cnE f s x y)], H) := by
  have h1 := fun H => s22 n H f hb
  have h2 := fun H => s65 (n + 7) H f s
  unfold chF at h1
  refine call_pure e23 (by rfl) ?_
  unfold cnB cnE
  cases a1 : okF f with
  | false => rw [a1] at h1; simp only [c23, heap0, go_sem, Int.reduceToNat, Nat.reduceAdd, Nat.reduceBEq, Nat.reduceLeDiff, Nat.reduceLT, Nat.reduceMul, Nat.reduceSub, Int.reduceEq, Int.reduceLT, Int.reduceLE, Int.reduceNeg, h1, G.ptsS_len', Bool.false_and]
  | true =>
    rw [a1] at h1
    cases b1 : inK f x with
    | false =>
      rcases inK_no b1 with g1 | ⟨g1, g2⟩
      · simp only [c23, heap0, go_sem, Int.reduceToNat, Nat.reduceAdd, Nat.reduceBEq, Nat.reduceLeDiff, Nat.reduceLT, Nat.reduceMul, Nat.reduceSub, Int.reduceEq, Int.reduceLT, Int.reduceLE, Int.reduceNeg, h1, G.ptsS_len', g1, Bool.false_and]
      · simp only [c23, heap0, go_sem, Int.reduceToNat, Nat.reduceAdd, Nat.reduceBEq, Nat.reduceLeDiff, Nat.reduceLT, Nat.reduceMul, Nat.reduceSub, Int.reduceEq, Int.reduceLT, Int.reduceLE, Int.reduceNeg, h1, G.ptsS_len', g1, g2, Bool.false_and]
    | true =>
      obtain ⟨g1, g2, i, hi, hil, hig⟩ := inK_yes b1
      cases b2 : inK f y with
      | false =>
        rcases inK_no b2 with g3 | ⟨g3, g4⟩
        · simp only [c23, heap0, go_sem, Int.reduceToNat, Nat.reduceAdd, Nat.reduceBEq, Nat.reduceLeDiff, Nat.reduceLT, Nat.reduceMul, Nat.reduceSub, Int.reduceEq, Int.reduceLT, Int.reduceLE, Int.reduceNeg, h1, G.ptsS_len', g1, g2, g3, Bool.false_and, Bool.and_false]
        · simp only [c23, heap0, go_sem, Int.reduceToNat, Nat.reduceAdd, Nat.reduceBEq, Nat.reduceLeDiff, Nat.reduceLT, Nat.reduceMul, Nat.reduceSub, Int.reduceEq, Int.reduceLT, Int.reduceLE, Int.reduceNeg, h1, G.ptsS_len', g1, g2, g3, g4, Bool.false_and, Bool.and_false]
      | true =>
        obtain ⟨g3, g4, j, hj, hjl, hjg⟩ := inK_yes b2
        cases a3 : inF f s with
        | false => rw [a3] at h2; simp only [c23, heap0, go_sem, Int.reduceToNat, Nat.reduceAdd, Nat.reduceBEq, Nat.reduceLeDiff, Nat.reduceLT, Nat.reduceMul, Nat.reduceSub, Int.reduceEq, Int.reduceLT, Int.reduceLE, Int.reduceNeg, h1, h2, G.ptsS_len', g1, g2, g3, g4, Bool.and_self, Bool.false_and]
        | true =>
          rw [a3] at h2
          have h5 := fun H a b => s66 (n + 2) H a b s
          have h6 := fun H a b => s67 (n + 2) H a b s
          generalize clk f x = p at hig ⊢
          generalize clk f y = q at hjg ⊢
          subst hi
          subst hj
          cases b5 : decide (snE p.1 p.2 s = 0) with
          | false => simp only [c23, heap0, go_sem, Int.reduceToNat, Nat.reduceAdd, Nat.reduceBEq, Nat.reduceLeDiff, Nat.reduceLT, Nat.reduceMul, Nat.reduceSub, Int.reduceEq, Int.reduceLT, Int.reduceLE, Int.reduceNeg, h1, h2, G.ptsS_len', g1, g2, g3, g4, hil, hjl, hig, hjg, h5, h6, b5, Bool.and_self, Bool.false_and]
          | true =>
            cases b6 : decide (wnE q.1 q.2 s = 0) with
            | false => simp only [c23, heap0, go_sem, Int.reduceToNat, Nat.reduceAdd, Nat.reduceBEq, Nat.reduceLeDiff, Nat.reduceLT, Nat.reduceMul, Nat.reduceSub, Int.reduceEq, Int.reduceLT, Int.reduceLE, Int.reduceNeg, h1, h2, G.ptsS_len', g1, g2, g3, g4, hil, hjl, hig, hjg, h5, h6, b5, b6, Bool.and_self, Bool.false_and, Bool.and_false]
            | true =>
              cases b7 : decide (wnA q.1 q.2 s ≤ snV p.1 p.2 s) <;> simp only [c23, heap0, go_sem, Int.reduceToNat, Nat.reduceAdd, Nat.reduceBEq, Nat.reduceLeDiff, Nat.reduceLT, Nat.reduceMul, Nat.reduceSub, Int.reduceEq, Int.reduceLT, Int.reduceLE, Int.reduceNeg, h1, h2, G.ptsS_len', g1, g2, g3, g4, hil, hjl, hig, hjg, h5, h6, b5, b6, b7, Bool.and_self, Bool.true_and, Bool.false_and]
theorem s34 (n : Nat) (H : Heap) (f : Fi) (s x y : Int) (hb : Bd f) : call1 T (n + 8) (.fn 34) [.agg (fiC f), .int .i64 s, .int .i64 x, .int .i64 y] H = some (.tup [.bool (cnB f s x y), .int .i64 (cnE f s x y)], H) := by
  have h1 := fun H => s35 n H f hb
  have h2 := fun H => s73 (n + 6) H f s
  unfold chF at h1
  refine call_pure e34 (by rfl) ?_
  unfold cnB cnE
  cases a1 : okF f with
  | false => rw [a1] at h1; simp only [c34, heap0, go_sem, Int.reduceToNat, Nat.reduceAdd, Nat.reduceBEq, Nat.reduceLeDiff, Nat.reduceLT, Nat.reduceMul, Nat.reduceSub, Int.reduceEq, Int.reduceLT, Int.reduceLE, Int.reduceNeg, h1, G.ptsS_len', Bool.false_and]
  | true =>
    rw [a1] at h1
    cases b1 : inK f x with
    | false =>
      rcases inK_no b1 with g1 | ⟨g1, g2⟩
      · simp only [c34, heap0, go_sem, Int.reduceToNat, Nat.reduceAdd, Nat.reduceBEq, Nat.reduceLeDiff, Nat.reduceLT, Nat.reduceMul, Nat.reduceSub, Int.reduceEq, Int.reduceLT, Int.reduceLE, Int.reduceNeg, h1, G.ptsS_len', g1, Bool.false_and]
      · simp only [c34, heap0, go_sem, Int.reduceToNat, Nat.reduceAdd, Nat.reduceBEq, Nat.reduceLeDiff, Nat.reduceLT, Nat.reduceMul, Nat.reduceSub, Int.reduceEq, Int.reduceLT, Int.reduceLE, Int.reduceNeg, h1, G.ptsS_len', g1, g2, Bool.false_and]
    | true =>
      obtain ⟨g1, g2, i, hi, hil, hig⟩ := inK_yes b1
      cases b2 : inK f y with
      | false =>
        rcases inK_no b2 with g3 | ⟨g3, g4⟩
        · simp only [c34, heap0, go_sem, Int.reduceToNat, Nat.reduceAdd, Nat.reduceBEq, Nat.reduceLeDiff, Nat.reduceLT, Nat.reduceMul, Nat.reduceSub, Int.reduceEq, Int.reduceLT, Int.reduceLE, Int.reduceNeg, h1, G.ptsS_len', g1, g2, g3, Bool.false_and, Bool.and_false]
        · simp only [c34, heap0, go_sem, Int.reduceToNat, Nat.reduceAdd, Nat.reduceBEq, Nat.reduceLeDiff, Nat.reduceLT, Nat.reduceMul, Nat.reduceSub, Int.reduceEq, Int.reduceLT, Int.reduceLE, Int.reduceNeg, h1, G.ptsS_len', g1, g2, g3, g4, Bool.false_and, Bool.and_false]
      | true =>
        obtain ⟨g3, g4, j, hj, hjl, hjg⟩ := inK_yes b2
        cases a3 : inF f s with
        | false => rw [a3] at h2; simp only [c34, heap0, go_sem, Int.reduceToNat, Nat.reduceAdd, Nat.reduceBEq, Nat.reduceLeDiff, Nat.reduceLT, Nat.reduceMul, Nat.reduceSub, Int.reduceEq, Int.reduceLT, Int.reduceLE, Int.reduceNeg, h1, h2, G.ptsS_len', g1, g2, g3, g4, Bool.and_self, Bool.false_and]
        | true =>
          rw [a3] at h2
          have h5 := fun H a b => s13 (n + 2) H a b s
          have h6 := fun H a b => s54 (n + 2) H a b s
          generalize clk f x = p at hig ⊢
          generalize clk f y = q at hjg ⊢
          subst hi
          subst hj
          cases b5 : decide (snE p.1 p.2 s = 0) with
          | false => simp only [c34, heap0, go_sem, Int.reduceToNat, Nat.reduceAdd, Nat.reduceBEq, Nat.reduceLeDiff, Nat.reduceLT, Nat.reduceMul, Nat.reduceSub, Int.reduceEq, Int.reduceLT, Int.reduceLE, Int.reduceNeg, h1, h2, G.ptsS_len', g1, g2, g3, g4, hil, hjl, hig, hjg, h5, h6, b5, Bool.and_self, Bool.false_and]
          | true =>
            cases b6 : decide (wnE q.1 q.2 s = 0) with
            | false => simp only [c34, heap0, go_sem, Int.reduceToNat, Nat.reduceAdd, Nat.reduceBEq, Nat.reduceLeDiff, Nat.reduceLT, Nat.reduceMul, Nat.reduceSub, Int.reduceEq, Int.reduceLT, Int.reduceLE, Int.reduceNeg, h1, h2, G.ptsS_len', g1, g2, g3, g4, hil, hjl, hig, hjg, h5, h6, b5, b6, Bool.and_self, Bool.false_and, Bool.and_false]
            | true =>
              cases b7 : decide (wnA q.1 q.2 s ≤ snV p.1 p.2 s) <;> simp only [c34, heap0, go_sem, Int.reduceToNat, Nat.reduceAdd, Nat.reduceBEq, Nat.reduceLeDiff, Nat.reduceLT, Nat.reduceMul, Nat.reduceSub, Int.reduceEq, Int.reduceLT, Int.reduceLE, Int.reduceNeg, h1, h2, G.ptsS_len', g1, g2, g3, g4, hil, hjl, hig, hjg, h5, h6, b5, b6, b7, Bool.and_self, Bool.true_and, Bool.false_and]
end Go.Sh
