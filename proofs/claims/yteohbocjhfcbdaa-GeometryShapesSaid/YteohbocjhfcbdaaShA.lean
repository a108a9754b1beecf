/-
  THE SHADOW MACHINE, PART A: an executable, deterministic evaluator of the model's Code over shadow values.
  Definitions only, and the equations by which a proof evaluates them. The proof that the model's machine does what this evaluator says: parts B and on.
-/
import GoSem.Step
import Derived.Attr
namespace Go.Sh
set_option linter.unusedSectionVars false
set_option linter.unnecessarySimpa false
set_option linter.unusedSimpArgs false
set_option linter.unusedVariables false
inductive SV where
  | undef
  | skp
  | bool (b : Bool)
  | int (k : IntKind) (n : Int)
  | str (s : ByteArray)
  | nilPtr
  | ptr (b ver i o : Nat)
  | eptr (cs : List SV)
  | lst (z : Nat) (L : List (List SV)) (full : Bool)
  | slc (b ver off len : Nat)
  | agg (cs : List SV)
  | tup (vs : List SV)
  | fn (f : FuncId) (caps : List SV)
  | nilFn
  | yld (b : Nat)
  deriving Inhabited
inductive Opd where
  | t (n : Nat)
  | c (v : SV)
/-- What a struct or an array of integers, bools and strings has in each of its cells. -/
inductive LK where | b | i | s
/-- An operation, its types reckoned away. 'bad': one that the shadow machine does not carry out. -/
inductive Op1 where
  | mov (x : Opd)
  | pick (c a b : Opd)
  | box (x : Opd)
  | alloc (z : List SV)
  | build (z : List SV) (ps : List (Nat × Nat × Opd))
  | bslice (esz : Nat) (z : List SV) (n : Nat) (ps : List (Nat × Opd))
  | blist (esz : Nat) (z : List SV) (n : Nat) (ps : List (Nat × Opd))
  | load (ag : Bool) (n : Nat) (a : Opd)
  | store (n : Nat) (a x : Opd)
  | nilChk (x : Opd)
  | bin (op : BinOp) (x y : Opd)
  | binB (op : BinOp) (x y : Opd)
  | eqAgg (neg : Bool) (sh : List LK) (x y : Opd)
  | notB (x : Opd)
  | negI (x : Opd)
  | convI (k : IntKind) (x : Opd)
  | convS (x : Opd)
  | convBS (x : Opd)
  | convSB (x : Opd)
  | mkfn (f : FuncId) (cs : List Opd)
  | mkslice (esz : Nat) (z : List SV) (bytes : Nat) (l c : Opd)
  | sliceL (esz : Nat) (x : Opd) (lo hi mx : Option Opd)
  | sliceS (x : Opd) (lo hi : Option Opd)
  | faddr (off : Nat) (x : Opd)
  | field (ag : Bool) (n off : Nat) (x : Opd)
  | iaddrS (esz : Nat) (x ix : Opd)
  | iaddrA (len esz : Nat) (x ix : Opd)
  | indexA (ag : Bool) (n len : Nat) (x ix : Opd)
  | indexS (x ix : Opd)
  | extract (x : Opd) (i : Nat)
  | len (x : Opd)
  | lenS (x : Opd)
  | lenA (n : Nat)
  | maxI (xs : List Opd)
  | minI (xs : List Opd)
  | append (esz bytes : Nat) (s x : Opd)
  | appendS (s x : Opd)
  | copy (esz : Nat) (d x : Opd)
  | clear (esz : Nat) (z : List SV) (x : Opd)
  | call (f : Opd) (xs : List Opd)
  | bad
/-- How an operation of a region that draws its order is carried out: 'pure': it looks at no memory; 'bar': every operation that does comes either before it or behind it; 'seg': neither: it writes nothing that was there, 'hide': the new blocks (counted from the last bar) that it must not see, 'nal': how many blocks it makes; 'offs': how many were made ahead of it, from the last bar on. -/
inductive DK where | pure | bar | seg
structure Draw1 where
  kind : DK
  hide : List Nat
  nal : Nat
  offs : Nat
structure Oper1 where
  dst : Option Nat
  op : Op1
  g : Option (Nat × Bool)
structure LoopPol where
  live : List Nat
  virt : List (Nat × Nat)
inductive SEx where | normal | exit (id : Nat) | ret
inductive Code1 where
  | skip
  | ops (l : List Oper1)
  | drawn (l : List (Oper1 × Draw1))
  | seq (a b : Code1)
  | cond (c : Opd) (a b : Code1)
  | block (id : Nat) (a : Code1)
  | loop (p : LoopPol) (a : Code1)
  | freeze (t : Nat)
  | rangeF (f : Opd) (ps : List Nat) (assign body : Code1)
  | exit (id : Nat)
  | ret
abbrev Env := List (Nat × SV)
structure LoopRec where
  env : Env
  ps : List Nat
  assign : Code1
  body : Code1
inductive SBlk where
  | dead
  | box (cs : List SV)
  | arr (ver z : Nat) (L : List (List SV)) (exact : Bool)
  | loop (r : LoopRec) (st : LoopState) (pend : SEx)
structure Heap where
  bl : List SBlk
  esc : List (Nat × Nat)
  ro : Nat
inductive Cal where | fn (f : FuncId) | yld (b : Nat)
abbrev Rec := Cal → List SV → Heap → Option (SV × Heap)
inductive Res1 where | tmp (t : Nat) | cell (t : Nat) (ag : Bool) (n : Nat)
structure Fun1 where
  res : List Res1
  body : Code1
  keep : Bool
/-! ### Values -/
/-- Values that fill one cell. -/
def SV.ok1 : SV → Bool
  | .undef => false
  | .skp => false
  | .agg _ => false
  | .tup _ => false
  | _ => true
/-- A value's cells, where it can be stored. -/
def cells1 : SV → Option (List SV)
  | .agg cs => some cs
  | v => bif v.ok1 then some [v] else none
/-- The greatest block that a value refers to, plus one. -/
def SV.refs : SV → Nat
  | .ptr b _ _ _ => b + 1
  | .slc b _ _ _ => b + 1
  | .yld b => b + 1
  | .agg cs => refsL cs
  | .tup cs => refsL cs
  | .fn _ cs => refsL cs
  | _ => 0
where refsL : List SV → Nat
  | [] => 0
  | v :: vs => max v.refs (refsL vs)
def get : Env → Nat → SV
  | [], _ => .undef
  | (j, v) :: e, i => bif i == j then v else get e i
def ev (e : Env) : Opd → SV
  | .t n => get e n
  | .c v => v
/-! ### The heap -/
def hget (H : Heap) (b : Nat) : Option SBlk := H.bl[b]?
def hset (H : Heap) (b : Nat) (x : SBlk) (refs : Nat) : Option Heap :=
  bif decide (H.ro ≤ b) && decide (b < H.bl.length) then some { H with bl := H.bl.set b x, esc := bif decide (refs ≤ b + 1) then H.esc else (b, refs) :: H.esc } else none
def hnew (H : Heap) (x : SBlk) : Heap := { H with bl := H.bl ++ [x] }
/-- What a slice of elements of 'z' cells holds. -/
def rdL (z : Nat) (H : Heap) : SV → Option (List (List SV))
  | .lst z' L _ => bif z' == z || L.isEmpty then some L else none
  | .slc b v off n => match hget H b with
    | some (.arr v' z' L _) => bif v == v' && z' == z && decide (off + n ≤ L.length) then some ((L.drop off).take n) else none
    | _ => none
  | _ => none
def lenL : SV → Option Nat
  | .lst _ L _ => some L.length
  | .slc _ _ _ n => some n
  | _ => none
/-! ### The operations that do not call -/
def part1 (ag : Bool) (n : Nat) (cs : List SV) (o : Nat) : Option SV :=
  bif ag then (bif decide (o + n ≤ cs.length) then some (.agg ((cs.drop o).take n)) else none) else cs[o]?
def put1 (cs : List SV) (o n : Nat) (x : List SV) : List SV := cs.take o ++ x ++ cs.drop (o + n)
def spick : SV → SV → SV → Option SV
  | .bool t, .bool x, .bool y => some (.bool (bif t then x else y))
  | .bool t, x, y => bif t then some x else some y
  | _, _, _ => none
def fillP (ev : Opd → SV) : List SV → List (Nat × Nat × Opd) → Option (List SV)
  | z, [] => some z
  | z, (off, n, x) :: ps =>
    (cells1 (ev x)).bind fun cs => bif cs.length == n && decide (off + n ≤ z.length) then fillP ev (put1 z off n cs) ps else none
def fillS (ev : Opd → SV) (esz : Nat) : List (List SV) → List (Nat × Opd) → Option (List (List SV))
  | z, [] => some z
  | z, (i, x) :: ps => (cells1 (ev x)).bind fun cs => bif cs.length == esz && decide (i < z.length) then fillS ev esz (z.set i cs) ps else none
def sload (ag : Bool) (n : Nat) (H : Heap) : SV → Option SV
  | .ptr b v i o => match hget H b with
    | some (.box cs) => bif i == 0 then part1 ag n cs o else none
    | some (.arr v' _ L _) => bif v == v' then match L[i]? with
      | some cs => part1 ag n cs o
      | none => none else none
    | _ => none
  | .eptr cs => part1 ag n cs 0
  | _ => none
def sstore (n : Nat) (H : Heap) (x : SV) : SV → Option Heap
  | .ptr b v i o => (cells1 x).bind fun xs => bif xs.length == n then match hget H b with
    | some (.box cs) => bif i == 0 && decide (o + n ≤ cs.length) then hset H b (.box (put1 cs o n xs)) x.refs else none
    | some (.arr v' z L e) => bif v == v' then match L[i]? with
      | some cs => bif decide (o + n ≤ cs.length) then hset H b (.arr v z (L.set i (put1 cs o n xs)) e) x.refs else none
      | none => none else none
    | _ => none else none
  | _ => none
def sbin : BinOp → SV → SV → Option SV
  | .add, .int k a, .int k2 b => bif k == k2 then some (.int k (k.wrap (a + b))) else none
  | .sub, .int k a, .int k2 b => bif k == k2 then some (.int k (k.wrap (a - b))) else none
  | .mul, .int k a, .int k2 b => bif k == k2 then some (.int k (k.wrap (a * b))) else none
  | .quo, .int k a, .int k2 b => bif k == k2 && !decide (b = 0) then some (.int k (k.wrap (a.tdiv b))) else none
  | .rem, .int k a, .int k2 b => bif k == k2 && !decide (b = 0) then some (.int k (a.tmod b)) else none
  | .and, .int k a, .int k2 b => bif k == k2 then some (.int k (k.wrap ((BitVec.ofInt k.bits a &&& BitVec.ofInt k.bits b).toNat))) else none
  | .or, .int k a, .int k2 b => bif k == k2 then some (.int k (k.wrap ((BitVec.ofInt k.bits a ||| BitVec.ofInt k.bits b).toNat))) else none
  | .xor, .int k a, .int k2 b => bif k == k2 then some (.int k (k.wrap ((BitVec.ofInt k.bits a ^^^ BitVec.ofInt k.bits b).toNat))) else none
  | .shl, .int k a, .int _ b => bif decide (0 ≤ b) then some (.int k (k.wrap (a * 2 ^ (min b.toNat k.bits)))) else none
  | .shr, .int k a, .int _ b => bif decide (0 ≤ b) then some (.int k (a.fdiv (2 ^ (min b.toNat k.bits)))) else none
  | .lss, .int k a, .int k2 b => bif k == k2 then some (.bool (decide (a < b))) else none
  | .leq, .int k a, .int k2 b => bif k == k2 then some (.bool (decide (a ≤ b))) else none
  | .gtr, .int k a, .int k2 b => bif k == k2 then some (.bool (decide (b < a))) else none
  | .geq, .int k a, .int k2 b => bif k == k2 then some (.bool (decide (b ≤ a))) else none
  | .eql, .int k a, .int k2 b => bif k == k2 then some (.bool (decide (a = b))) else none
  | .neq, .int k a, .int k2 b => bif k == k2 then some (.bool (!decide (a = b))) else none
  | .eql, .str a, .str b => some (.bool (decide (a = b)))
  | .neq, .str a, .str b => some (.bool (!decide (a = b)))
  | .add, .str a, .str b => bif decide (a.size + b.size ≤ 4611686018427387904) then some (.str (a ++ b)) else none
  | _, _, _ => none
def sbinB : BinOp → SV → SV → Option SV
  | .eql, .bool a, .bool b => some (.bool (a == b))
  | .neq, .bool a, .bool b => some (.bool (!(a == b)))
  | _, _, _ => none
/-- Two structs, or arrays, of integers, bools and strings. -/
def eqCells : List LK → List SV → List SV → Option Bool
  | [], [], [] => some true
  | .i :: sh, .int k a :: x, .int k2 b :: y => bif k == k2 then (eqCells sh x y).map (fun r => decide (a = b) && r) else none
  | .b :: sh, .bool a :: x, .bool b :: y => (eqCells sh x y).map (fun r => (a == b) && r)
  | .s :: sh, .str a :: x, .str b :: y => (eqCells sh x y).map (fun r => decide (a = b) && r)
  | _, _, _ => none
def sidx (n : Nat) : SV → Option Nat
  | .int _ i => bif decide (0 ≤ i) && decide (i < (n : Int)) then some i.toNat else none
  | _ => none
/-- A bound of a slice expression: at most 'y'. -/
def sbnd (y : Nat) : SV → Option Nat
  | .int _ i => bif decide (0 ≤ i) && decide (i ≤ (y : Int)) then some i.toNat else none
  | _ => none
def obnd (y d : Nat) : Option SV → Option Nat
  | none => some d
  | some v => sbnd y v
def siaddr (v : SV) (ix : SV) : Option SV := match v with
  | .lst _ L _ => (sidx L.length ix).bind fun i => (L[i]?).map .eptr
  | .slc b v off n => (sidx n ix).map fun i => .ptr b v (off + i) 0
  | _ => none
def sslice (x : SV) (lo hi mx : Option SV) : Option SV := match x with
  | .lst z L f => (obnd L.length L.length mx).bind fun m => (obnd m L.length hi).bind fun h => (obnd h 0 lo).map fun l =>
      .lst z ((L.take h).drop l) (match mx with | none => f && h == L.length | some _ => m == h)
  | .slc b v off n => match mx with
    | none => (obnd n n hi).bind fun h => (obnd h 0 lo).map fun l => .slc b v (off + l) (h - l)
    | some _ => (obnd n n mx).bind fun m => (obnd m n hi).bind fun h => (obnd h 0 lo).bind fun l => bif m == l then some (.lst 0 [] true) else none
  | _ => none
def ssliceS (s : ByteArray) (lo hi : Option SV) : Option SV :=
  (obnd s.size s.size hi).bind fun h => (obnd h 0 lo).map fun l => .str (s.extract l h)
def foldI (f : Int → Int → Int) : Int → IntKind → List SV → Option SV
  | a, k, [] => some (.int k a)
  | a, k, .int k2 b :: r => bif k == k2 then foldI f (f a b) k r else none
  | _, _, _ => none
def fold1 (f : Int → Int → Int) : List SV → Option SV
  | .int k a :: r => foldI f a k r
  | _ => none
def mostLen : Nat := 1099511627776
/-- 'append(s, x...)', the source's elements given. -/
def sappend (esz bytes : Nat) (H : Heap) (s : SV) (X : List (List SV)) : Option (SV × Heap) := match s with
  | .lst z L f => bif decide ((L.length + X.length) * bytes ≤ mostLen) then match L, X with
    | [], X => bif f then some (.slc H.bl.length 0 0 X.length, hnew H (.arr 0 esz X false)) else none
    | L, [] => some (.lst z L f, H)
    | L, X => bif f && z == esz then some (.slc H.bl.length 0 0 (L.length + X.length), hnew H (.arr 0 esz (L ++ X) false)) else none else none
  | .slc b v off n => bif decide ((n + X.length) * bytes ≤ mostLen) then match hget H b with
    | some (.arr v' z L e) => bif v == v' && z == esz && decide (off + n ≤ L.length) then
        bif !e && off == 0 && n == L.length then
          (hset H b (.arr (v + 1) z (L ++ X) false) (SV.refs.refsL X.flatten)).map fun H => (.slc b (v + 1) off (n + X.length), H)
        else bif decide (off + n + X.length ≤ L.length) then
          (hset H b (.arr v z (L.take (off + n) ++ X ++ L.drop (off + n + X.length)) e) (SV.refs.refsL X.flatten)).map fun H => (.slc b v off (n + X.length), H)
        else bif e then some (.slc H.bl.length 0 0 (n + X.length), hnew H (.arr 0 z ((L.drop off).take n ++ X) false))
        else none
      else none
    | _ => none else none
  | _ => none
def bytesL (s : ByteArray) : List (List SV) := s.data.toList.map fun b => [.int .u8 b.toNat]
def toBytes : List (List SV) → Option (List UInt8)
  | [] => some []
  | [.int .u8 n] :: r => (toBytes r).map fun l => UInt8.ofNat n.toNat :: l
  | _ => none
def scopy (esz : Nat) (H : Heap) (X : List (List SV)) : SV → Option (SV × Heap)
  | .slc b v off n => match hget H b with
    | some (.arr v' z L e) => bif v == v' && z == esz && decide (off + n ≤ L.length) then
        (hset H b (.arr v z (L.take off ++ X.take n ++ L.drop (off + min X.length n)) e) (SV.refs.refsL X.flatten)).map fun H => (.int .i64 (min X.length n : Nat), H)
      else none
    | _ => none
  | _ => none
def sclear (esz : Nat) (z : List SV) (H : Heap) : SV → Option (SV × Heap)
  | .lst _ [] _ => some (.undef, H)
  | .slc b v off n => match hget H b with
    | some (.arr v' z' L e) => bif v == v' && z' == esz && decide (off + n ≤ L.length) then
        (hset H b (.arr v z' (L.take off ++ List.replicate n z ++ L.drop (off + n)) e) 0).map fun H => (.undef, H)
      else none
    | _ => none
  | _ => none
def smake (esz : Nat) (z : List SV) (bytes : Nat) (H : Heap) : SV → SV → Option (SV × Heap)
  | .int .i64 l, .int .i64 c => bif decide (0 ≤ l) && decide (l ≤ c) && decide (c * bytes ≤ mostLen) then
      some (.slc H.bl.length 0 0 l.toNat, hnew H (.arr 0 esz (List.replicate c.toNat z) true)) else none
  | _, _ => none
def faddr1 (off : Nat) : SV → Option SV
  | .ptr b v i o => some (.ptr b v i (o + off))
  | .eptr cs => some (.eptr (cs.drop off))
  | _ => none
/-- A pointer or a slice that is no older version's. -/
def cur (H : Heap) : SV → Bool
  | .ptr b v _ _ => match hget H b with
    | some (.box _) => true
    | some (.arr v' _ _ _) => v == v'
    | _ => false
  | .slc b v _ _ => match hget H b with
    | some (.arr v' _ _ _) => v == v'
    | _ => false
  | _ => true
def curZ (H : Heap) (z : Nat) : SV → Bool
  | .slc b v _ _ => match hget H b with
    | some (.arr v' z' _ _) => v == v' && z' == z
    | _ => false
  | .lst z' L _ => z' == z || L.isEmpty
  | _ => false
def nilChk1 : SV → Option SV
  | .ptr b v i o => some (.ptr b v i o)
  | .eptr cs => some (.eptr cs)
  | _ => none
def sop (e : Env) (H : Heap) : Op1 → Option (SV × Heap)
  | .mov x => some (ev e x, H)
  | .pick c a b => (spick (ev e c) (ev e a) (ev e b)).map (·, H)
  | .box x => (cells1 (ev e x)).map fun cs => (.ptr H.bl.length 0 0 0, hnew H (.box cs))
  | .alloc z => some (.ptr H.bl.length 0 0 0, hnew H (.box z))
  | .build z ps => (fillP (ev e) z ps).map (.agg ·, H)
  | .bslice esz z n ps => (fillS (ev e) esz (List.replicate n z) ps).map fun L => (.slc H.bl.length 0 0 n, hnew H (.arr 0 esz L true))
  | .blist esz z n ps => ((fillS (ev e) esz (List.replicate n z) ps).bind fun L => bif SV.refs.refsL L.flatten == 0 then some (.lst esz L false) else none).map (·, H)
  | .load ag n a => (sload ag n H (ev e a)).map (·, H)
  | .store n a x => (sstore n H (ev e x) (ev e a)).map (.undef, ·)
  | .nilChk x => bif cur H (ev e x) then (nilChk1 (ev e x)).map (·, H) else none
  | .bin op x y => (sbin op (ev e x) (ev e y)).map (·, H)
  | .binB op x y => (sbinB op (ev e x) (ev e y)).map (·, H)
  | .eqAgg neg sh x y => match ev e x, ev e y with
    | .agg a, .agg b => (eqCells sh a b).map fun r => (.bool (neg ^^ r), H)
    | _, _ => none
  | .notB x => match ev e x with | .bool b => some (.bool (!b), H) | _ => none
  | .negI x => match ev e x with | .int k n => some (.int k (k.wrap (0 - n)), H) | _ => none
  | .convI k x => match ev e x with | .int _ n => some (.int k (k.wrap n), H) | _ => none
  | .convS x => match ev e x with | .str s => some (.str s, H) | _ => none
  | .convBS x => (rdL 1 H (ev e x)).bind fun L => (toBytes L).map fun l => (.str ⟨l.toArray⟩, H)
  | .convSB x => match ev e x with | .str s => some (.slc H.bl.length 0 0 s.size, hnew H (.arr 0 1 (bytesL s) false)) | _ => none
  | .mkfn f cs => some (.fn f (cs.map (ev e)), H)
  | .mkslice esz z bytes l c => smake esz z bytes H (ev e l) (ev e c)
  | .sliceL esz x lo hi mx => bif curZ H esz (ev e x) then (sslice (ev e x) (lo.map (ev e)) (hi.map (ev e)) (mx.map (ev e))).map (·, H) else none
  | .sliceS x lo hi => match ev e x with | .str s => (ssliceS s (lo.map (ev e)) (hi.map (ev e))).map (·, H) | _ => none
  | .faddr off x => bif cur H (ev e x) then (faddr1 off (ev e x)).map (·, H) else none
  | .field ag n off x => match ev e x with | .agg cs => (part1 ag n cs off).map (·, H) | _ => none
  | .iaddrS esz x ix => bif curZ H esz (ev e x) then (siaddr (ev e x) (ev e ix)).map (·, H) else none
  | .iaddrA len esz x ix => bif cur H (ev e x) then (sidx len (ev e ix)).bind fun i => (faddr1 (i * esz) (ev e x)).map (·, H) else none
  | .indexA ag n len x ix => match ev e x with | .agg cs => (sidx len (ev e ix)).bind fun i => (part1 ag n cs (i * n)).map (·, H) | _ => none
  | .indexS x ix => match ev e x with | .str s => (sidx s.size (ev e ix)).bind fun i => (s.data[i]?).map fun b => (.int .u8 b.toNat, H) | _ => none
  | .extract x i => match ev e x with | .tup vs => (vs[i]?).map (·, H) | _ => none
  | .len x => bif cur H (ev e x) then (lenL (ev e x)).map fun (n : Nat) => (.int .i64 n, H) else none
  | .lenS x => match ev e x with | .str s => some (.int .i64 s.size, H) | _ => none
  | .lenA n => some (.int .i64 n, H)
  | .maxI xs => (fold1 (fun a b => if b > a then b else a) (xs.map (ev e))).map (·, H)
  | .minI xs => (fold1 (fun a b => if b < a then b else a) (xs.map (ev e))).map (·, H)
  | .append esz bytes s x => (rdL esz H (ev e x)).bind (sappend esz bytes H (ev e s))
  | .appendS s x => match ev e x with | .str b => sappend 1 1 H (ev e s) (bytesL b) | _ => none
  | .copy esz d x => (rdL esz H (ev e x)).bind fun X => scopy esz H X (ev e d)
  | .clear esz z x => sclear esz z H (ev e x)
  | .call _ _ => none
  | .bad => none
/-! ### Control: in the style of continuations; what stands behind is kept from the simplifier by an argument on which a type depends -/
abbrev Tok {A : Type} (_ : A) : Type := Unit
section
variable {R : Type}
def fork (b : Bool) (x y : R) (_ : Tok (x, y)) : R := bif b then x else y
def onBool (v : SV) (f : Bool → Option R) (_ : Tok f) : Option R := match v with | .bool b => f b | _ => none
/-- A guard's value: one that was passed over is as good as 'no'. -/
def onGuard (v : SV) (w : Bool) (f : Bool → Option R) (_ : Tok f) : Option R := match v with | .bool b => f (b == w) | .skp => f false | _ => none
def onSome {A : Type} (v : Option A) (f : A → Option R) (_ : Tok f) : Option R := match v with | some v => f v | none => none
def lett {A : Type} (v : A) (f : A → Option R) (_ : Tok f) : Option R := f v
end
def bind1 (e : Env) : Option Nat → SV → Env
  | none, _ => e
  | some d, v => (d, v) :: e
def scall (rec : Rec) (f : SV) (xs : List SV) (H : Heap) : Option (SV × Heap) := match f with
  | .fn f cs => rec (.fn f) (xs ++ cs) H
  | .yld b => rec (.yld b) xs H
  | _ => none
/-- What a range over a function calls: a function, no yield. -/
def fcall (rec : Rec) (f : SV) (xs : List SV) (H : Heap) : Option (SV × Heap) := match f with
  | .fn f cs => rec (.fn f) (xs ++ cs) H
  | _ => none
/-- One operation, a call among them. -/
def step1 (rec : Rec) (e : Env) (H : Heap) : Op1 → Option (SV × Heap)
  | .call f xs => scall rec (ev e f) (xs.map (ev e)) H
  | o => sop e H o
def runOps {R : Type} (rec : Rec) : (l : List Oper1) → Env → Heap → (k : Env → Heap → Option R) → Tok (l, k) → Option R
  | [], e, H, k, _ => k e H
  | o :: os, e, H, k, _ => match o.g with
    | none => onSome (step1 rec e H o.op) (fun r => runOps rec os (bind1 e o.dst r.1) r.2 k ()) ()
    | some (t, w) => onGuard (get e t) w (fun b => fork b (onSome (step1 rec e H o.op) (fun r => runOps rec os (bind1 e o.dst r.1) r.2 k ()) ())
        (runOps rec os (bind1 e o.dst .skp) H k ()) ()) ()
/-- What an operation of a region that draws its order sees, and what it leaves: 'N': the blocks that were there behind the last bar. -/
def hide1 (N : Nat) (ds : List Nat) (l : List SBlk) : List SBlk := ds.foldl (fun l d => l.set (N + d) .dead) l
def step1d (rec : Rec) (N : Nat) (d : Draw1) (e : Env) (H : Heap) (o : Op1) : Option (SV × Heap) := match d.kind with
  | .pure => step1 rec e H o
  | .bar => (step1 rec e H o).bind fun r => bif decide (H.bl.length ≤ r.2.bl.length) then some r else none
  | .seg => (step1 rec e { bl := hide1 N d.hide H.bl, esc := [], ro := H.bl.length } o).bind fun r =>
      bif r.2.bl.length == H.bl.length + d.nal && r.2.esc.isEmpty then some (r.1, { H with bl := H.bl ++ r.2.bl.drop H.bl.length }) else none
def nextN (d : Draw1) (N : Nat) (H : Heap) : Nat := match d.kind with
  | .bar => H.bl.length
  | _ => N
def skip1 (d : Draw1) : Bool := match d.kind with
  | .seg => d.nal == 0
  | _ => true
def runDrawn {R : Type} (rec : Rec) : (l : List (Oper1 × Draw1)) → Nat → Env → Heap → (k : Env → Heap → Option R) → Tok (l, k) → Option R
  | [], _, e, H, k, _ => k e H
  | (o, d) :: os, N, e, H, k, _ => match o.g with
    | none => onSome (step1d rec N d e H o.op) (fun r => runDrawn rec os (nextN d N r.2) (bind1 e o.dst r.1) r.2 k ()) ()
    | some (t, w) => onGuard (get e t) w (fun b => fork b (onSome (step1d rec N d e H o.op) (fun r => runDrawn rec os (nextN d N r.2) (bind1 e o.dst r.1) r.2 k ()) ())
        (bif skip1 d then runDrawn rec os (nextN d N H) (bind1 e o.dst .skp) H k () else none) ()) ()
/-! ### Leaving a call: what it made is let go, or kept; the slices that it made become lists -/
def allS {A : Type} : List (Option A) → Option (List A)
  | [] => some []
  | some a :: r => (allS r).map (a :: ·)
  | none :: _ => none
def depth1 : Nat := 8
def frz (N : Nat) (H : Heap) : Nat → SV → Option SV
  | 0, _ => none
  | d + 1, v => match v with
    | .agg cs => (allS (cs.map (frz N H d))).map .agg
    | .tup cs => (allS (cs.map (frz N H d))).map .tup
    | .slc b ver off n => bif decide (b < N) then some v else match hget H b with
      | some (.arr ver' z L _) => bif ver == ver' && decide (off + n ≤ L.length) then
          (allS (((L.drop off).take n).map fun cs => allS (cs.map (frz N H d)))).bind fun L' =>
            bif SV.refs.refsL L'.flatten == 0 then some (.lst z L' false) else none
        else none
      | _ => none
    | .int k n => some (.int k n)
    | .bool b => some (.bool b)
    | .lst z L f => some (.lst z L f)
    | v => bif decide (v.refs ≤ N) then some v else none
/-- A slice becomes a list; its block is gone. -/
def frzT (H : Heap) : SV → Option (SV × Heap)
  | .slc b ver off n => match hget H b with
    | some (.arr ver' z L _) => bif ver == ver' && decide (off + n ≤ L.length) && SV.refs.refsL ((L.drop off).take n).flatten == 0 then
        (hset H b .dead 0).map fun H => (.lst z ((L.drop off).take n) false, H)
      else none
    | _ => none
  | .lst z L f => some (.lst z L f, H)
  | _ => none
def trunc (N : Nat) (H0 H : Heap) : Option Heap :=
  bif decide (N ≤ H.bl.length) && H.esc.all (fun p => !(decide (p.1 < N) && decide (N < p.2))) then
    some { bl := H.bl.take N, esc := H0.esc ++ H.esc.filter (fun p => decide (p.1 < N)), ro := H0.ro } else none
def keepH (H0 H : Heap) : Heap := { bl := H.bl, esc := H0.esc ++ H.esc, ro := H0.ro }
/-! ### Code -/
def live1 (l : List Nat) (e : Env) : Env := l.map fun i => (i, get e i)
def virt1 : List (Nat × Nat) → Env → Heap → Option (Env × Heap)
  | [], e, H => some (e, H)
  | (t, z) :: r, e, H => match get e t with
    | .lst _ [] true => virt1 r ((t, .slc H.bl.length 0 0 0) :: e) (hnew H (.arr 0 z [] false))
    | _ => none
/-- One round of a loop: the frame held to what lives, the blocks of the round before let go. -/
def head1 (p : LoopPol) (N : Nat) (H0 : Heap) (s : Env × Heap) : Option (Env × Heap) :=
  bif decide (SV.refs.refsL ((live1 p.live s.1).map (·.2)) ≤ N) then (trunc N H0 s.2).map fun H => (live1 p.live s.1, H) else none
abbrev Out := SEx × Env × Heap
def iter1 (f : Env × Heap → Option Out) : Nat → Env × Heap → Option Out
  | 0, _ => none
  | n + 1, s => match f s with
    | some (.normal, s') => iter1 f n s'
    | r => r
open Classical in
noncomputable def loop1 (f : Env × Heap → Option Out) (s : Env × Heap) : Option Out :=
  if h : ∃ n, (iter1 f n s).isSome then iter1 f (Classical.choose h) s else none
noncomputable def run {R : Type} (rec : Rec) : (c : Code1) → Env → Heap → (k : SEx → Env → Heap → Option R) → Tok (c, k) → Option R
  | .skip, e, H, k, _ => k .normal e H
  | .ops l, e, H, k, _ => runOps rec l e H (k .normal) ()
  | .drawn l, e, H, k, _ => runDrawn rec l H.bl.length e H (k .normal) ()
  | .seq a b, e, H, k, _ => run rec a e H (fun x e H => match x with | .normal => run rec b e H k () | x => k x e H) ()
  | .cond c a b, e, H, k, _ => onBool (ev e c) (fun t => fork t (run rec a e H k ()) (run rec b e H k ()) ()) ()
  | .block id a, e, H, k, _ => run rec a e H (fun x e H => match x with | .exit j => bif j == id then k .normal e H else k (.exit j) e H | x => k x e H) ()
  | .freeze t, e, H, k, _ => onSome (frzT H (get e t)) (fun r => k .normal ((t, r.1) :: e) r.2) ()
  | .loop p a, e, H, k, _ => onSome (virt1 p.virt e H) (fun s => onSome (loop1 (fun s' => (head1 p s.2.bl.length { s.2 with esc := [] } s').bind fun s' =>
      run rec a s'.1 s'.2 (fun x e H => some (x, e, H)) ()) (s.1, { s.2 with esc := [] })) (fun o => k o.1 o.2.1 { o.2.2 with esc := s.2.esc ++ o.2.2.esc }) ()) ()
  | .rangeF f ps x y, e, H, k, _ => onSome (fcall rec (ev e f) [.yld H.bl.length] (hnew H (.loop ⟨e, ps, x, y⟩ .ready .normal))) (fun r =>
      match hget r.2 H.bl.length with
      | some (.loop q st pend) => match st with
        | .busy => none
        | _ => onSome (hset r.2 H.bl.length (.loop q .exhausted pend) 0) (fun H => k pend e H) ()
      | _ => none) ()
  | .exit id, e, H, k, _ => k (.exit id) e H
  | .ret, e, H, k, _ => k .ret e H
def resOf (e : Env) (H : Heap) : Res1 → Option SV
  | .tmp t => some (get e t)
  | .cell t ag n => sload ag n H (get e t)
def results1 (e : Env) (H : Heap) (rs : List Res1) : Option SV :=
  (allS (rs.map (resOf e H))).map fun vs => match vs with | [v] => v | vs => .tup vs
def env0 (xs : List SV) : Env := go 0 xs
where go : Nat → List SV → Env
  | _, [] => []
  | i, x :: r => (i, x) :: go (i + 1) r
/-- What a call hands back. -/
def leave1 (keep : Bool) (H0 : Heap) (v : SV) (H : Heap) : Option (SV × Heap) :=
  bif keep then some (v, keepH H0 H) else (frz H0.bl.length H depth1 v).bind fun v => (trunc H0.bl.length H0 H).map fun H => (v, H)
def setLoop (b : Nat) (st : LoopState) (pend : SEx) (H : Heap) : Option Heap := match hget H b with
  | some (.loop q _ _) => hset H b (.loop q st pend) 0
  | _ => none
def beginLoop (b : Nat) (H : Heap) : Option Heap := match hget H b with
  | some (.loop q .ready pend) => hset H b (.loop q .busy pend) 0
  | _ => none
/-- A call whose arguments refer to no block is carried out in a heap of its own. -/
def heap0 : Heap := { bl := [], esc := [], ro := 0 }
def pure0 (F : Fun1) (xs : List SV) : Bool := SV.refs.refsL xs == 0 && !F.keep
noncomputable def call1 (T : FuncId → Option Fun1) : Nat → Rec
  | 0, _, _, _ => none
  | n + 1, .fn f, xs, H => match T f with
    | none => none
    | some F => bif pure0 F xs then
        (run (call1 T n) F.body (env0 xs) heap0 (fun x e H' => match x with
          | .exit _ => none
          | _ => (results1 e H' F.res).bind fun v => frz 0 H' depth1 v) ()).map fun v => (v, H)
      else run (call1 T n) F.body (env0 xs) { bl := H.bl, esc := [], ro := min H.ro H.bl.length } (fun x e H' => match x with
        | .exit _ => none
        | _ => (results1 e H' F.res).bind fun v => leave1 F.keep H v H') ()
  | n + 1, .yld b, xs, H => match hget H b with
    | some (.loop q .ready _) =>
      bif q.ps.length == xs.length then
        run (call1 T n) q.assign ((q.ps.zip xs).reverse ++ q.env) { bl := H.bl, esc := [], ro := min H.ro H.bl.length } (fun x e H' => match x with
          | .normal => (beginLoop b H').bind fun H' => run (call1 T n) q.body e H' (fun x _ H' =>
              (setLoop b (match x with | .normal => .ready | _ => .done) x H').bind fun H' =>
                (trunc H.bl.length H H').map fun H' => (.bool (match x with | .normal => true | _ => false), H')) ()
          | _ => none) ()
      else none
    | _ => none
end Go.Sh
