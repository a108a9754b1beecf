/-
  THE SHADOW MACHINE, PART EW: the operations' equations; calls; loops.
-/
import Derived.Test.YteohbocjhfcbdaaShEv
namespace Go.Sh
set_option linter.unusedSectionVars false
set_option linter.unnecessarySimpa false
set_option linter.unusedSimpArgs false
set_option linter.unusedVariables false
section
variable (rec : Rec) (e : Env) (H : Heap)
@[go_sem] theorem st_mov (x) : step1 rec e H (.mov x) = some (ev e x, H) := Eq.trans rfl rfl
@[go_sem] theorem st_pick (c a b) : step1 rec e H (.pick c a b) = (spick (ev e c) (ev e a) (ev e b)).map (·, H) := Eq.trans rfl rfl
@[go_sem] theorem st_box (x) : step1 rec e H (.box x) = (cells1 (ev e x)).map fun cs => (.ptr H.bl.length 0 0 0, hnew H (.box cs)) := Eq.trans rfl rfl
@[go_sem] theorem st_alloc (z) : step1 rec e H (.alloc z) = some (.ptr H.bl.length 0 0 0, hnew H (.box z)) := Eq.trans rfl rfl
@[go_sem] theorem st_build (z ps) : step1 rec e H (.build z ps) = (fillP (ev e) z ps).map (.agg ·, H) := Eq.trans rfl rfl
@[go_sem] theorem st_bslice (esz z n ps) : step1 rec e H (.bslice esz z n ps) = (fillS (ev e) esz (List.replicate n z) ps).map fun L => (.slc H.bl.length 0 0 n, hnew H (.arr 0 esz L true)) := Eq.trans rfl rfl
@[go_sem] theorem st_blist (esz z n ps) : step1 rec e H (.blist esz z n ps) = onSome (fillS (ev e) esz (List.replicate n z) ps) (fun L => bif SV.refs.refsL L.flatten == 0 then some (.lst esz L false, H) else none) () := by
  simp only [step1, sop]
  cases fillS (ev e) esz (List.replicate n z) ps with
  | none => rfl
  | some L => simp only [Option.bind_some, onSome]; cases (SV.refs.refsL L.flatten == 0) <;> rfl
@[go_sem] theorem st_load (ag n a) : step1 rec e H (.load ag n a) = (sload ag n H (ev e a)).map (·, H) := Eq.trans rfl rfl
@[go_sem] theorem st_store (n a x) : step1 rec e H (.store n a x) = (sstore n H (ev e x) (ev e a)).map (.undef, ·) := Eq.trans rfl rfl
@[go_sem] theorem st_nilChk (x) : step1 rec e H (.nilChk x) = bif cur H (ev e x) then (nilChk1 (ev e x)).map (·, H) else none := Eq.trans rfl rfl
@[go_sem] theorem st_bin (op x y) : step1 rec e H (.bin op x y) = (sbin op (ev e x) (ev e y)).map (·, H) := Eq.trans rfl rfl
@[go_sem] theorem st_binB (op x y) : step1 rec e H (.binB op x y) = (sbinB op (ev e x) (ev e y)).map (·, H) := Eq.trans rfl rfl
def eqAgg1 (neg : Bool) (sh : List LK) (H : Heap) : SV → SV → Option (SV × Heap)
  | .agg a, .agg b => (eqCells sh a b).map fun r => (.bool (neg ^^ r), H)
  | _, _ => none
@[go_sem] theorem st_eqAgg (neg sh x y) : step1 rec e H (.eqAgg neg sh x y) = eqAgg1 neg sh H (ev e x) (ev e y) := by
  simp only [step1, sop, eqAgg1]
  split <;> simp_all
@[go_sem] theorem eqAgg1_agg (neg sh a b) : eqAgg1 neg sh H (.agg a) (.agg b) = (eqCells sh a b).map fun r => (.bool (neg ^^ r), H) := Eq.trans rfl rfl
def notB1 (H : Heap) : SV → Option (SV × Heap)
  | .bool b => some (.bool (!b), H)
  | _ => none
@[go_sem] theorem st_notB (x) : step1 rec e H (.notB x) = notB1 H (ev e x) := by simp only [step1, sop, notB1]; split <;> simp_all
@[go_sem] theorem notB1_bool (b) : notB1 H (.bool b) = some (.bool (!b), H) := Eq.trans rfl rfl
def negI1 (H : Heap) : SV → Option (SV × Heap)
  | .int k n => some (.int k (k.wrap (0 - n)), H)
  | _ => none
@[go_sem] theorem st_negI (x) : step1 rec e H (.negI x) = negI1 H (ev e x) := by simp only [step1, sop, negI1]; split <;> simp_all
@[go_sem] theorem negI1_int (k n) : negI1 H (.int k n) = some (.int k (k.wrap (0 - n)), H) := Eq.trans rfl rfl
def convI1 (k : IntKind) (H : Heap) : SV → Option (SV × Heap)
  | .int _ n => some (.int k (k.wrap n), H)
  | _ => none
@[go_sem] theorem st_convI (k x) : step1 rec e H (.convI k x) = convI1 k H (ev e x) := by simp only [step1, sop, convI1]; split <;> simp_all
@[go_sem] theorem convI1_int (k k2 n) : convI1 k H (.int k2 n) = some (.int k (k.wrap n), H) := Eq.trans rfl rfl
def convS1 (H : Heap) : SV → Option (SV × Heap)
  | .str s => some (.str s, H)
  | _ => none
@[go_sem] theorem st_convS (x) : step1 rec e H (.convS x) = convS1 H (ev e x) := by simp only [step1, sop, convS1]; split <;> simp_all
@[go_sem] theorem convS1_str (s) : convS1 H (.str s) = some (.str s, H) := Eq.trans rfl rfl
@[go_sem] theorem st_mkfn (f cs) : step1 rec e H (.mkfn f cs) = some (.fn f (cs.map (ev e)), H) := Eq.trans rfl rfl
@[go_sem] theorem st_mkslice (esz z bytes l c) : step1 rec e H (.mkslice esz z bytes l c) = smake esz z bytes H (ev e l) (ev e c) := Eq.trans rfl rfl
@[go_sem] theorem st_sliceL (esz x lo hi mx) : step1 rec e H (.sliceL esz x lo hi mx) = bif curZ H esz (ev e x) then (sslice (ev e x) (lo.map (ev e)) (hi.map (ev e)) (mx.map (ev e))).map (·, H) else none := Eq.trans rfl rfl
@[go_sem] theorem st_faddr (off x) : step1 rec e H (.faddr off x) = bif cur H (ev e x) then (faddr1 off (ev e x)).map (·, H) else none := Eq.trans rfl rfl
def field1 (ag : Bool) (n off : Nat) (H : Heap) : SV → Option (SV × Heap)
  | .agg cs => (part1 ag n cs off).map (·, H)
  | _ => none
@[go_sem] theorem st_field (ag n off x) : step1 rec e H (.field ag n off x) = field1 ag n off H (ev e x) := by simp only [step1, sop, field1]; split <;> simp_all
@[go_sem] theorem field1_agg (ag n off cs) : field1 ag n off H (.agg cs) = (part1 ag n cs off).map (·, H) := Eq.trans rfl rfl
@[go_sem] theorem st_iaddrS (esz x ix) : step1 rec e H (.iaddrS esz x ix) = bif curZ H esz (ev e x) then (siaddr (ev e x) (ev e ix)).map (·, H) else none := Eq.trans rfl rfl
@[go_sem] theorem st_iaddrA (len esz x ix) : step1 rec e H (.iaddrA len esz x ix) = bif cur H (ev e x) then (sidx len (ev e ix)).bind fun i => (faddr1 (i * esz) (ev e x)).map (·, H) else none := Eq.trans rfl rfl
def indexA1 (ag : Bool) (n len : Nat) (H : Heap) (ix : SV) : SV → Option (SV × Heap)
  | .agg cs => (sidx len ix).bind fun i => (part1 ag n cs (i * n)).map (·, H)
  | _ => none
@[go_sem] theorem st_indexA (ag n len x ix) : step1 rec e H (.indexA ag n len x ix) = indexA1 ag n len H (ev e ix) (ev e x) := by simp only [step1, sop, indexA1]; split <;> simp_all
@[go_sem] theorem indexA1_agg (ag n len ix cs) : indexA1 ag n len H ix (.agg cs) = (sidx len ix).bind fun i => (part1 ag n cs (i * n)).map (·, H) := Eq.trans rfl rfl
def extr1 (i : Nat) (H : Heap) : SV → Option (SV × Heap)
  | .tup vs => (vs[i]?).map (·, H)
  | _ => none
@[go_sem] theorem st_extract (x i) : step1 rec e H (.extract x i) = extr1 i H (ev e x) := by simp only [step1, sop, extr1]; split <;> simp_all
@[go_sem] theorem extr1_tup (i vs) : extr1 i H (.tup vs) = (vs[i]?).map (·, H) := Eq.trans rfl rfl
@[go_sem] theorem st_len (x) : step1 rec e H (.len x) = bif cur H (ev e x) then (lenL (ev e x)).map fun (n : Nat) => (.int .i64 n, H) else none := Eq.trans rfl rfl
def lenS1 (H : Heap) : SV → Option (SV × Heap)
  | .str s => some (.int .i64 s.size, H)
  | _ => none
@[go_sem] theorem st_lenS (x) : step1 rec e H (.lenS x) = lenS1 H (ev e x) := by simp only [step1, sop, lenS1]; split <;> simp_all
@[go_sem] theorem lenS1_str (s) : lenS1 H (.str s) = some (.int .i64 s.size, H) := Eq.trans rfl rfl
@[go_sem] theorem st_lenA (n) : step1 rec e H (.lenA n) = some (.int .i64 n, H) := Eq.trans rfl rfl
theorem max_fn : (fun a b : Int => if b > a then b else a) = max := by funext a b; simp only [Int.max_def]; split <;> split <;> omega
theorem min_fn : (fun a b : Int => if b < a then b else a) = min := by funext a b; simp only [Int.min_def]; split <;> split <;> omega
@[go_sem] theorem st_maxI (xs) : step1 rec e H (.maxI xs) = (fold1 max (xs.map (ev e))).map (·, H) := by rw [← max_fn]; rfl
@[go_sem] theorem st_minI (xs) : step1 rec e H (.minI xs) = (fold1 min (xs.map (ev e))).map (·, H) := by rw [← min_fn]; rfl
@[go_sem] theorem st_append (esz bytes s x) : step1 rec e H (.append esz bytes s x) = (rdL esz H (ev e x)).bind (sappend esz bytes H (ev e s)) := Eq.trans rfl rfl
@[go_sem] theorem st_call (f xs) : step1 rec e H (.call f xs) = scall rec (ev e f) (xs.map (ev e)) H := Eq.trans rfl rfl
@[go_sem] theorem sc_fn (f cs xs) : scall rec (.fn f cs) xs H = rec (.fn f) (xs ++ cs) H := Eq.trans rfl rfl
@[go_sem] theorem sc_yld (b xs) : scall rec (.yld b) xs H = rec (.yld b) xs H := Eq.trans rfl rfl
@[go_sem] theorem fc_fn (f cs xs) : fcall rec (.fn f cs) xs H = rec (.fn f) (xs ++ cs) H := Eq.trans rfl rfl
end
/-! ### Values -/
section
variable (k : IntKind) (a b : Int)
@[go_sem] theorem sb_add : sbin .add (.int k a) (.int k b) = some (.int k (k.wrap (a + b))) := by simp [sbin]
@[go_sem] theorem sb_sub : sbin .sub (.int k a) (.int k b) = some (.int k (k.wrap (a - b))) := by simp [sbin]
@[go_sem] theorem sb_mul : sbin .mul (.int k a) (.int k b) = some (.int k (k.wrap (a * b))) := by simp [sbin]
@[go_sem] theorem sb_quo : sbin .quo (.int k a) (.int k b) = bif !decide (b = 0) then some (.int k (k.wrap (a.tdiv b))) else none := by simp [sbin]
@[go_sem] theorem sb_rem : sbin .rem (.int k a) (.int k b) = bif !decide (b = 0) then some (.int k (a.tmod b)) else none := by simp [sbin]
@[go_sem] theorem sb_lss : sbin .lss (.int k a) (.int k b) = some (.bool (decide (a < b))) := by simp [sbin]
@[go_sem] theorem sb_leq : sbin .leq (.int k a) (.int k b) = some (.bool (decide (a ≤ b))) := by simp [sbin]
@[go_sem] theorem sb_gtr : sbin .gtr (.int k a) (.int k b) = some (.bool (decide (b < a))) := by simp [sbin]
@[go_sem] theorem sb_geq : sbin .geq (.int k a) (.int k b) = some (.bool (decide (b ≤ a))) := by simp [sbin]
@[go_sem] theorem sb_eql : sbin .eql (.int k a) (.int k b) = some (.bool (decide (a = b))) := by simp [sbin]
@[go_sem] theorem sb_neq : sbin .neq (.int k a) (.int k b) = some (.bool (!decide (a = b))) := by simp [sbin]
@[go_sem] theorem sb_and : sbin .and (.int k a) (.int k b) = some (.int k (k.wrap ((BitVec.ofInt k.bits a &&& BitVec.ofInt k.bits b).toNat))) := by simp [sbin]
@[go_sem] theorem sb_or : sbin .or (.int k a) (.int k b) = some (.int k (k.wrap ((BitVec.ofInt k.bits a ||| BitVec.ofInt k.bits b).toNat))) := by simp [sbin]
@[go_sem] theorem sb_xor : sbin .xor (.int k a) (.int k b) = some (.int k (k.wrap ((BitVec.ofInt k.bits a ^^^ BitVec.ofInt k.bits b).toNat))) := by simp [sbin]
@[go_sem] theorem sb_shl (k2) : sbin .shl (.int k a) (.int k2 b) = bif decide (0 ≤ b) then some (.int k (k.wrap (a * 2 ^ (min b.toNat k.bits)))) else none := by simp [sbin]
@[go_sem] theorem sb_shr (k2) : sbin .shr (.int k a) (.int k2 b) = bif decide (0 ≤ b) then some (.int k (a.fdiv (2 ^ (min b.toNat k.bits)))) else none := by simp [sbin]
@[go_sem] theorem sbB_eql (a b : Bool) : sbinB .eql (.bool a) (.bool b) = some (.bool (a == b)) := by simp [sbinB]
@[go_sem] theorem sbB_neq (a b : Bool) : sbinB .neq (.bool a) (.bool b) = some (.bool (!(a == b))) := by simp [sbinB]
@[go_sem] theorem pick_bool (c a b : Bool) : spick (.bool c) (.bool a) (.bool b) = some (.bool (bif c then a else b)) := by simp [spick]
@[go_sem] theorem pick_int (c : Bool) : spick (.bool c) (.int k a) (.int k b) = some (.int k (bif c then a else b)) := by cases c <;> simp [spick]
@[go_sem] theorem pick_skp (x) : spick (.bool false) .skp x = some x := by cases x <;> simp [spick]
@[go_sem] theorem pick_skp' (x) : spick (.bool true) x .skp = some x := by cases x <;> simp [spick]
@[go_sem] theorem ce_nil : eqCells [] [] [] = some true := by simp [eqCells]
@[go_sem] theorem ce_i (sh x y) : eqCells (.i :: sh) (.int k a :: x) (.int k b :: y) = (eqCells sh x y).map (fun r => decide (a = b) && r) := by simp [eqCells]
@[go_sem] theorem ce_b (sh x y) (a b : Bool) : eqCells (.b :: sh) (.bool a :: x) (.bool b :: y) = (eqCells sh x y).map (fun r => (a == b) && r) := by simp [eqCells]
@[go_sem] theorem ce_s (sh x y) (a b : ByteArray) : eqCells (.s :: sh) (.str a :: x) (.str b :: y) = (eqCells sh x y).map (fun r => decide (a = b) && r) := by simp [eqCells]
@[go_sem] theorem c1_agg (cs) : cells1 (.agg cs) = some cs := by simp [cells1]
@[go_sem] theorem c1_int : cells1 (.int k a) = some [.int k a] := by simp [cells1, SV.ok1]
@[go_sem] theorem c1_bool (b) : cells1 (.bool b) = some [.bool b] := by simp [cells1, SV.ok1]
@[go_sem] theorem c1_str (b) : cells1 (.str b) = some [.str b] := by simp [cells1, SV.ok1]
@[go_sem] theorem c1_lst (z L f) : cells1 (.lst z L f) = some [.lst z L f] := by simp [cells1, SV.ok1]
@[go_sem] theorem c1_slc (b v o n) : cells1 (.slc b v o n) = some [.slc b v o n] := by simp [cells1, SV.ok1]
@[go_sem] theorem c1_ptr (b v o n) : cells1 (.ptr b v o n) = some [.ptr b v o n] := by simp [cells1, SV.ok1]
@[go_sem] theorem c1_eptr (cs) : cells1 (.eptr cs) = some [.eptr cs] := by simp [cells1, SV.ok1]
@[go_sem] theorem c1_fn (f cs) : cells1 (.fn f cs) = some [.fn f cs] := by simp [cells1, SV.ok1]
@[go_sem] theorem c1_nilPtr : cells1 .nilPtr = some [.nilPtr] := by simp [cells1, SV.ok1]
@[go_sem] theorem c1_nilFn : cells1 .nilFn = some [.nilFn] := by simp [cells1, SV.ok1]
@[go_sem] theorem c1_yld (b) : cells1 (.yld b) = some [.yld b] := by simp [cells1, SV.ok1]
@[go_sem] theorem p1_one (n cs o) : part1 false n cs o = cs[o]? := by simp [part1]
@[go_sem] theorem p1_agg (n cs o) : part1 true n cs o = bif decide (o + n ≤ cs.length) then some (.agg ((cs.drop o).take n)) else none := by simp [part1]
@[go_sem] theorem fp_nil (ev z) : fillP ev z [] = some z := by simp [fillP]
@[go_sem] theorem fp_cons (ev z off n x ps) : fillP ev z ((off, n, x) :: ps) = (cells1 (ev x)).bind fun cs => bif cs.length == n && decide (off + n ≤ z.length) then fillP ev (put1 z off n cs) ps else none := by simp [fillP]
@[go_sem] theorem fs_nil (ev esz z) : fillS ev esz z [] = some z := by simp [fillS]
@[go_sem] theorem fs_cons (ev esz z i x ps) : fillS ev esz z ((i, x) :: ps) = (cells1 (ev x)).bind fun cs => bif cs.length == esz && decide (i < z.length) then fillS ev esz (z.set i cs) ps else none := by simp [fillS]
attribute [go_sem] put1
@[go_sem] theorem f1_cons (f : Int → Int → Int) (r) : fold1 f (.int k a :: r) = foldI f a k r := by simp [fold1]
@[go_sem] theorem fI_nil (f : Int → Int → Int) : foldI f a k [] = some (.int k a) := by simp [foldI]
@[go_sem] theorem fI_cons (f : Int → Int → Int) (r) : foldI f a k (.int k b :: r) = foldI f (f a b) k r := by simp [foldI]
@[go_sem] theorem ln_lst (z L f) : lenL (.lst z L f) = some L.length := by simp [lenL]
@[go_sem] theorem ln_slc (b v o n) : lenL (.slc b v o n) = some n := by simp [lenL]
@[go_sem] theorem cu_lst (H z L f) : cur H (.lst z L f) = true := by simp [cur]
@[go_sem] theorem cu_eptr (H L) : cur H (.eptr L) = true := by simp [cur]
@[go_sem] theorem cz_lst (H z L f) : curZ H z (.lst z L f) = true := by simp [curZ]
@[go_sem] theorem cz_nil (H z z' f) : curZ H z (.lst z' [] f) = true := by simp [curZ]
@[go_sem] theorem fa_ptr (off b v i o) : faddr1 off (.ptr b v i o) = some (.ptr b v i (o + off)) := by simp [faddr1]
@[go_sem] theorem fa_eptr (off cs) : faddr1 off (.eptr cs) = some (.eptr (cs.drop off)) := by simp [faddr1]
@[go_sem] theorem sl_eptr (ag n H cs) : sload ag n H (.eptr cs) = part1 ag n cs 0 := by simp [sload]
@[go_sem] theorem nc_ptr (b v i o) : nilChk1 (.ptr b v i o) = some (.ptr b v i o) := by simp [nilChk1]
@[go_sem] theorem nc_eptr (cs) : nilChk1 (.eptr cs) = some (.eptr cs) := by simp [nilChk1]
end
/-! ### The heap -/
def cur1 (v : Nat) : Option SBlk → Bool
  | some (.box _) => true
  | some (.arr v' _ _ _) => v == v'
  | _ => false
@[go_sem] theorem cu_ptr (H b v i o) : cur H (.ptr b v i o) = cur1 v (hget H b) := by
  simp only [cur, cur1]
  cases hget H b with
  | none => rfl
  | some x => cases x <;> rfl
@[go_sem] theorem cur1_box (v cs) : cur1 v (some (.box cs)) = true := Eq.trans rfl rfl
@[go_sem] theorem cur1_arr (v v' z L x) : cur1 v (some (.arr v' z L x)) = (v == v') := Eq.trans rfl rfl
def cur2 (v : Nat) : Option SBlk → Bool
  | some (.arr v' _ _ _) => v == v'
  | _ => false
@[go_sem] theorem cu_slc (H b v i o) : cur H (.slc b v i o) = cur2 v (hget H b) := by
  simp only [cur, cur2]
  cases hget H b with
  | none => rfl
  | some x => cases x <;> rfl
@[go_sem] theorem cur2_arr (v v' z L x) : cur2 v (some (.arr v' z L x)) = (v == v') := Eq.trans rfl rfl
def curZ1 (v z : Nat) : Option SBlk → Bool
  | some (.arr v' z' _ _) => v == v' && z' == z
  | _ => false
@[go_sem] theorem cz_slc (H z b v i o) : curZ H z (.slc b v i o) = curZ1 v z (hget H b) := by
  simp only [curZ, curZ1]
  cases hget H b with
  | none => rfl
  | some x => cases x <;> rfl
@[go_sem] theorem curZ1_arr (v z v' z' L x) : curZ1 v z (some (.arr v' z' L x)) = (v == v' && z' == z) := Eq.trans rfl rfl
def ldB (ag : Bool) (n v i o : Nat) : Option SBlk → Option SV
  | some (.box cs) => bif i == 0 then part1 ag n cs o else none
  | some (.arr v' _ L _) => bif v == v' then (L[i]?).bind fun cs => part1 ag n cs o else none
  | _ => none
@[go_sem] theorem sl_ptr (ag n H b v i o) : sload ag n H (.ptr b v i o) = ldB ag n v i o (hget H b) := by
  simp only [sload, ldB]
  cases hget H b with
  | none => rfl
  | some x =>
    cases x with
    | arr v' z L ex =>
      cases hv : (v == v') with
      | true => simp only [hv, cond_true]; cases L[i]? <;> rfl
      | false => simp only [hv, cond_false]
    | _ => rfl
@[go_sem] theorem ldB_box (ag n v o cs) : ldB ag n v 0 o (some (.box cs)) = part1 ag n cs o := by simp [ldB]
@[go_sem] theorem ldB_arr (ag n v i o z L x) : ldB ag n v i o (some (.arr v z L x)) = (L[i]?).bind fun cs => part1 ag n cs o := by simp [ldB]
def rdB (z v off n : Nat) : Option SBlk → Option (List (List SV))
  | some (.arr v' z' L _) => bif v == v' && z' == z && decide (off + n ≤ L.length) then some ((L.drop off).take n) else none
  | _ => none
@[go_sem] theorem rd_slc (z H b v off n) : rdL z H (.slc b v off n) = rdB z v off n (hget H b) := by
  simp only [rdL, rdB]
  cases hget H b with
  | none => rfl
  | some x => cases x <;> rfl
@[go_sem] theorem rdB_arr (z v off n L x) : rdB z v off n (some (.arr v z L x)) = bif decide (off + n ≤ L.length) then some ((L.drop off).take n) else none := by simp [rdB]
@[go_sem] theorem rd_lst (z H L f) : rdL z H (.lst z L f) = some L := by simp [rdL]
@[go_sem] theorem rd_nil' (z z' H f) : rdL z H (.lst z' [] f) = some [] := by simp [rdL]
attribute [go_sem] hget hnew
/-- A store, the block given. -/
def stB (n v i o : Nat) (b : Nat) (H : Heap) (xs : List SV) (refs : Nat) : Option SBlk → Option Heap
  | some (.box cs) => bif i == 0 && decide (o + n ≤ cs.length) then hset H b (.box (put1 cs o n xs)) refs else none
  | some (.arr v' z L e) => bif v == v' then (L[i]?).bind fun cs => bif decide (o + n ≤ cs.length) then hset H b (.arr v z (L.set i (put1 cs o n xs)) e) refs else none else none
  | _ => none
@[go_sem] theorem ss_ptr (n H x b v i o) : sstore n H x (.ptr b v i o) = (cells1 x).bind fun xs => bif xs.length == n then stB n v i o b H xs x.refs (hget H b) else none := by
  simp only [sstore, stB]
  congr 1
  funext xs
  cases (xs.length == n) with
  | false => rfl
  | true =>
    simp only [cond_true]
    cases hget H b with
    | none => rfl
    | some y =>
      cases y with
      | arr v' z L ex =>
        cases hv : (v == v') with
        | true => simp only [hv, cond_true]; cases L[i]? <;> rfl
        | false => simp only [hv, cond_false]
      | _ => rfl
@[go_sem] theorem stB_box (n v o b H xs r cs) : stB n v 0 o b H xs r (some (.box cs)) = bif decide (o + n ≤ cs.length) then hset H b (.box (put1 cs o n xs)) r else none := by simp [stB]
@[go_sem] theorem stB_arr (n v i o b H xs r z L e) : stB n v i o b H xs r (some (.arr v z L e)) = (L[i]?).bind fun cs => bif decide (o + n ≤ cs.length) then hset H b (.arr v z (L.set i (put1 cs o n xs)) e) r else none := by simp [stB]
@[go_sem] theorem hset_eq (bl esc ro b x r) : hset ⟨bl, esc, ro⟩ b x r = bif decide (ro ≤ b) && decide (b < bl.length) then some ⟨bl.set b x, bif decide (r ≤ b + 1) then esc else (b, r) :: esc, ro⟩ else none := by simp [hset]
@[go_sem] theorem refs_int (k n) : (SV.int k n).refs = 0 := by simp [SV.refs]
@[go_sem] theorem refs_bool (n) : (SV.bool n).refs = 0 := by simp [SV.refs]
@[go_sem] theorem refs_str (n) : (SV.str n).refs = 0 := by simp [SV.refs]
@[go_sem] theorem refs_lst (z L f) : (SV.lst z L f).refs = 0 := by simp [SV.refs]
@[go_sem] theorem refs_eptr (L) : (SV.eptr L).refs = 0 := by simp [SV.refs]
@[go_sem] theorem refs_und : SV.undef.refs = 0 := by simp [SV.refs]
@[go_sem] theorem refs_skp : SV.skp.refs = 0 := by simp [SV.refs]
@[go_sem] theorem refs_nilFn : SV.nilFn.refs = 0 := by simp [SV.refs]
@[go_sem] theorem refs_nilPtr : SV.nilPtr.refs = 0 := by simp [SV.refs]
@[go_sem] theorem refs_ptr (b v i o) : (SV.ptr b v i o).refs = b + 1 := by simp [SV.refs]
@[go_sem] theorem refs_slc (b v i o) : (SV.slc b v i o).refs = b + 1 := by simp [SV.refs]
@[go_sem] theorem refs_yld (b) : (SV.yld b).refs = b + 1 := by simp [SV.refs]
@[go_sem] theorem refs_agg (cs) : (SV.agg cs).refs = SV.refs.refsL cs := by simp [SV.refs]
@[go_sem] theorem refs_tup (cs) : (SV.tup cs).refs = SV.refs.refsL cs := by simp [SV.refs]
@[go_sem] theorem refs_fn (f cs) : (SV.fn f cs).refs = SV.refs.refsL cs := by simp [SV.refs]
@[go_sem] theorem refsL_nil : SV.refs.refsL [] = 0 := by simp [SV.refs.refsL]
@[go_sem] theorem refsL_cons (v vs) : SV.refs.refsL (v :: vs) = max v.refs (SV.refs.refsL vs) := by simp [SV.refs.refsL]
/-! ### Calls -/
section
variable {T : FuncId → Option Fun1} {f : FuncId} {F : Fun1} {xs : List SV} {n : Nat} {H : Heap}
/-- What a call's body hands on. -/
def fin1 {R : Type} (rs : List Res1) (k : SV → Heap → Option R) : SEx → Env → Heap → Option R
  | .exit _, _, _ => none
  | _, e, H => (results1 e H rs).bind fun v => k v H
@[go_sem] theorem fin1_ret {R : Type} (rs) (k : SV → Heap → Option R) (e H) : fin1 rs k .ret e H = onSome (results1 e H rs) (fun v => k v H) () := by
  show (results1 e H rs).bind _ = _
  cases results1 e H rs <;> rfl
@[go_sem] theorem fin1_normal {R : Type} (rs) (k : SV → Heap → Option R) (e H) : fin1 rs k .normal e H = onSome (results1 e H rs) (fun v => k v H) () := by
  show (results1 e H rs).bind _ = _
  cases results1 e H rs <;> rfl
/-- A call whose arguments refer to no block. -/
theorem call_pure {v : SV} (hT : T f = some F) (hp : pure0 F xs = true) (h : runK (call1 T n) (fin1 F.res (fun v H' => frz 0 H' depth1 v)) F.body [] (env0 xs) heap0 () = some v) : call1 T (n + 1) (.fn f) xs H = some (v, H) := by
  have hk : ∀ k : SEx → Env → Heap → Option SV, k = fin1 F.res (fun v H' => frz 0 H' depth1 v) → run (call1 T n) F.body (env0 xs) heap0 k () = some v := by
    intro k hk
    rw [hk, run_runK]
    exact h
  simp only [call1, hT, hp, cond_true]
  rw [hk _ (by funext x e H'; cases x <;> rfl)]
  rfl
end
@[go_sem] theorem res_one (e H r) : results1 e H [r] = resOf e H r := by
  unfold results1
  cases h : resOf e H r <;> simp [allS, h]
@[go_sem] theorem res_two (e H r s) : results1 e H [r, s] = (resOf e H r).bind fun a => (resOf e H s).map fun b => .tup [a, b] := by
  unfold results1
  cases h : resOf e H r <;> cases h' : resOf e H s <;> simp [allS, h, h']
@[go_sem] theorem res_nil (e H) : results1 e H [] = some (.tup []) := by simp [results1, allS]
@[go_sem] theorem ro_tmp (e H t) : resOf e H (.tmp t) = some (get e t) := Eq.trans rfl rfl
@[go_sem] theorem ro_cell (e H t ag n) : resOf e H (.cell t ag n) = sload ag n H (get e t) := Eq.trans rfl rfl
/-! ### Values handed back -/
@[go_sem] theorem fz_int (N H d k n) : frz N H (d + 1) (.int k n) = some (.int k n) := by simp [frz]
@[go_sem] theorem fz_bool (N H d b) : frz N H (d + 1) (.bool b) = some (.bool b) := by simp [frz]
@[go_sem] theorem fz_lst (N H d z L f) : frz N H (d + 1) (.lst z L f) = some (.lst z L f) := by simp [frz]
@[go_sem] theorem fz_str (N H d s) : frz N H (d + 1) (.str s) = some (.str s) := by simp [frz, SV.refs]
@[go_sem] theorem fz_nilPtr (N H d) : frz N H (d + 1) .nilPtr = some .nilPtr := by simp [frz, SV.refs]
@[go_sem] theorem fz_nilFn (N H d) : frz N H (d + 1) .nilFn = some .nilFn := by simp [frz, SV.refs]
@[go_sem] theorem fz_undef (N H d) : frz N H (d + 1) .undef = some .undef := by simp [frz, SV.refs]
@[go_sem] theorem fz_skp (N H d) : frz N H (d + 1) .skp = some .skp := by simp [frz, SV.refs]
@[go_sem] theorem fz_eptr (N H d cs) : frz N H (d + 1) (.eptr cs) = some (.eptr cs) := by simp [frz, SV.refs]
@[go_sem] theorem fz_fn (N H d f cs) : frz N H (d + 1) (.fn f cs) = bif decide (SV.refs.refsL cs ≤ N) then some (.fn f cs) else none := by
  simp only [frz, SV.refs]
  rfl
@[go_sem] theorem fz_agg (N H d cs) : frz N H (d + 1) (.agg cs) = (allS (cs.map (frz N H d))).map .agg := by simp [frz]
@[go_sem] theorem fz_tup (N H d cs) : frz N H (d + 1) (.tup cs) = (allS (cs.map (frz N H d))).map .tup := by simp [frz]
@[go_sem] theorem as_nil {A : Type} : allS ([] : List (Option A)) = some [] := Eq.trans rfl rfl
@[go_sem] theorem as_some {A : Type} (a : A) (r) : allS (some a :: r) = (allS r).map (a :: ·) := Eq.trans rfl rfl
attribute [go_sem] depth1
/-! ### Loops -/
theorem iter1_more {f : Env × Heap → Option Out} : ∀ (n m : Nat) (s : Env × Heap) (o : Out), iter1 f n s = some o → n ≤ m → iter1 f m s = some o
  | 0, _, s, o, h, _ => by cases h
  | n + 1, 0, s, o, h, hm => by omega
  | n + 1, m + 1, s, o, h, hm => by
    have e : ∀ n, iter1 f (n + 1) s = match f s with | some (.normal, s') => iter1 f n s' | r => r := fun n => rfl
    rw [e] at h ⊢
    cases hf : f s with
    | none => rw [hf] at h; exact h
    | some r =>
      obtain ⟨x, s'⟩ := r
      rw [hf] at h
      cases x with
      | normal => exact iter1_more n m s' o h (by omega)
      | exit id => exact h
      | ret => exact h
theorem loop1_of {f : Env × Heap → Option Out} {s : Env × Heap} {o : Out} {n : Nat} (h : iter1 f n s = some o) : loop1 f s = some o := by
  unfold loop1
  have hex : ∃ n, (iter1 f n s).isSome := ⟨n, by simp [h]⟩
  rw [dif_pos hex]
  have h1 := Classical.choose_spec hex
  generalize Classical.choose hex = m at h1
  obtain ⟨o', ho'⟩ := Option.isSome_iff_exists.1 h1
  have h2 := iter1_more _ (max n m) _ _ h (Nat.le_max_left _ _)
  have h3 := iter1_more _ (max n m) _ _ ho' (Nat.le_max_right _ _)
  rw [h2] at h3
  rw [ho', h3]
/-- A loop: from state to state, by an index. -/
theorem loop1_ix {f : Env × Heap → Option Out} (S : Nat → Env × Heap) (P : Nat → Prop) (o : Out) (ho : o.1 ≠ .normal) (m : Nat) (h0 : P 0) (h : ∀ i, i < m → P i → (f (S i) = some (.normal, S (i + 1)) ∧ P (i + 1)) ∨ f (S i) = some o) (hend : P m → f (S m) = some o) : loop1 f (S 0) = some o := by
  have stop : ∀ (s : Env × Heap), f s = some o → iter1 f 1 s = some o := by
    intro s hs
    obtain ⟨x, r⟩ := o
    cases x with
    | normal => exact absurd rfl ho
    | exit id => simp only [iter1, hs]
    | ret => simp only [iter1, hs]
  have key : ∀ (j i : Nat), i + j = m → P i → ∃ n, iter1 f n (S i) = some o := by
    intro j
    induction j with
    | zero => intro i hi hP; have : i = m := by omega
              subst this; exact ⟨1, stop _ (hend hP)⟩
    | succ j ih =>
      intro i hi hP
      rcases h i (by omega) hP with ⟨h1, h2⟩ | h1
      · obtain ⟨n, hn⟩ := ih (i + 1) (by omega) h2
        exact ⟨n + 1, by simp only [iter1, h1]; exact hn⟩
      · exact ⟨1, stop _ h1⟩
  obtain ⟨n, hn⟩ := key m 0 (by omega) h0
  exact loop1_of hn
theorem loop_in {R : Type} {f : Env × Heap → Option Out} {s : Env × Heap} {k : Out → Option R} {t : Tok k} {r : Option R} (o : Out) (h : loop1 f s = some o) (hk : k o = r) : onSome (loop1 f s) k t = r := by
  rw [h]; exact hk
theorem roundF_eq (p N H0 rec a e H) : roundF p N H0 rec a (e, H) = onSome (head1 p N H0 (e, H)) (fun s => runK rec (fun x e H => some (x, e, H)) a [] s.1 s.2 ()) () := by
  unfold roundF
  cases head1 p N H0 (e, H) <;> rfl
/-! ### Lists and bools -/
attribute [go_sem] List.length_nil List.length_cons List.nil_append List.cons_append List.append_nil List.map_cons List.map_nil List.getElem?_cons_zero List.getElem?_cons_succ List.set_cons_zero List.set_cons_succ
  List.take_succ_cons List.take_zero List.take_nil List.drop_succ_cons List.drop_zero List.drop_nil List.replicate_succ List.replicate_zero List.flatten_cons List.flatten_nil List.isEmpty_nil List.isEmpty_cons
  Option.map_some Option.map_none Option.bind_some Option.bind_none decide_true decide_false Bool.and_true Bool.true_and Bool.and_false Bool.false_and Bool.or_true Bool.true_or Bool.or_false Bool.false_or Bool.not_true Bool.not_false Bool.not_not
  beq_self_eq_true beq_true beq_false Nat.add_zero Nat.zero_add Nat.max_self Nat.le_refl Nat.zero_le Nat.sub_zero Int.toNat_natCast List.drop_length List.reverse_cons List.reverse_nil List.zip_cons_cons List.zip_nil_right
@[go_sem] theorem fork_not {R : Type} (b : Bool) (x y : R) (t : Tok (x, y)) : fork (!b) x y t = fork b y x () := by cases b <;> rfl
@[go_sem] theorem min_zero (n : Nat) : min 0 n = 0 := Nat.zero_min n
@[go_sem] theorem pure0_eq (rs c xs) : pure0 ⟨rs, c, false⟩ xs = (SV.refs.refsL xs == 0) := by simp [pure0]
@[go_sem] theorem onSome_none {A R : Type} (f : A → Option R) (t : Tok f) : onSome none f t = none := Eq.trans rfl rfl
@[go_sem] theorem hide1_nil (N l) : hide1 N [] l = l := Eq.trans rfl rfl
@[go_sem] theorem hide1_cons (N d ds l) : hide1 N (d :: ds) l = hide1 N ds (l.set (N + d) .dead) := Eq.trans rfl rfl
/-- int's arithmetic. -/
def w64 (n : Int) : Int := IntKind.wrap .i64 n
@[go_sem] theorem w64_fold (n : Int) : IntKind.wrap .i64 n = w64 n := rfl
theorem w64_id {n : Int} (h1 : -9223372036854775808 ≤ n) (h2 : n ≤ 9223372036854775807) : w64 n = n := by
  unfold w64
  simp only [IntKind.wrap, IntKind.bits, IntKind.signed, Bool.true_and, ge_iff_le, decide_eq_true_eq]
  split <;> omega
end Go.Sh
