
import GoSem.Step
import Derived.Attr
import Derived.RangeFuncLeaves
import Derived.RangeFuncCalls
import Derived.Laws.Sem
import Derived.Laws.Cells
import Derived.Laws.Entries
import Derived.ChangeKeysEq
import Derived.Laws.StructEq
import Derived.Laws.Append

namespace Go.Sh
set_option linter.unusedSectionVars false
set_option linter.unnecessarySimpa false
set_option linter.unusedSimpArgs false
set_option linter.unusedVariables false
inductive SV where
  | undef
  | skp
  | bool (b : Bool)
  | int (k : IntKind) (n : Int)
  | str (s : ByteArray)
  | nilPtr
  | ptr (b ver i o : Nat)
  | eptr (cs : List SV)
  | lst (z : Nat) (L : List (List SV)) (full : Bool)
  | slc (b ver off len : Nat)
  | agg (cs : List SV)
  | tup (vs : List SV)
  | fn (f : FuncId) (caps : List SV)
  | bfn (f : FuncId) (firsts : List SV)
  | nilFn
  | yld (b : Nat)
  | mp (b : Nat)
  deriving Inhabited
inductive Opd where
  | t (n : Nat)
  | c (v : SV)
inductive LK where | b | i | s
inductive NK where | p | f | s
inductive Op1 where
  | mov (x : Opd)
  | pick (c a b : Opd)
  | box (x : Opd)
  | alloc (z : List SV)
  | allocV (z : Nat)
  | build (z : List SV) (ps : List (Nat × Nat × Opd))
  | bslice (esz : Nat) (z : List SV) (n : Nat) (ps : List (Nat × Opd))
  | blist (esz : Nat) (z : List SV) (n : Nat) (ps : List (Nat × Opd))
  | load (ag : Bool) (n : Nat) (a : Opd)
  | store (n : Nat) (a x : Opd)
  | nilChk (x : Opd)
  | bin (op : BinOp) (x y : Opd)
  | binB (op : BinOp) (x y : Opd)
  | eqAgg (neg : Bool) (sh : List LK) (x y : Opd)
  | notB (x : Opd)
  | isNil (k : NK) (neg : Bool) (x : Opd)
  | negI (x : Opd)
  | convI (k : IntKind) (x : Opd)
  | convS (x : Opd)
  | convBS (x : Opd)
  | convSB (x : Opd)
  | mkfn (f : FuncId) (cs : List Opd)
  | mkbfn (f : FuncId) (cs : List Opd)
  | mkslice (esz : Nat) (z : List SV) (bytes : Nat) (l c : Opd)
  | sliceL (esz : Nat) (x : Opd) (lo hi mx : Option Opd)
  | sliceS (x : Opd) (lo hi : Option Opd)
  | faddr (off : Nat) (x : Opd)
  | field (ag : Bool) (n off : Nat) (x : Opd)
  | iaddrS (esz : Nat) (x ix : Opd)
  | iaddrA (len esz : Nat) (x ix : Opd)
  | indexA (ag : Bool) (n len : Nat) (x ix : Opd)
  | indexS (x ix : Opd)
  | extract (x : Opd) (i : Nat)
  | len (x : Opd)
  | lenS (x : Opd)
  | lenA (n : Nat)
  | maxI (xs : List Opd)
  | minI (xs : List Opd)
  | append (esz bytes : Nat) (s x : Opd)
  | appendS (s x : Opd)
  | copy (esz : Nat) (d x : Opd)
  | clear (esz : Nat) (z : List SV) (x : Opd)
  | mkmap
  | mupd (t : LK) (x k v : Opd)
  | mlook (t : LK) (ok : Bool) (z : SV) (x k : Opd)
  | call (f : Opd) (xs : List Opd)
  | callK (f : FuncId) (n : Nat) (xs : List Opd)
  | callV (f : FuncId) (xs : List Opd)
  | bad
inductive DK where | pure | bar | seg | wr (rd : List (Opd × Nat))
structure Draw1 where
  kind : DK
  hide : List Nat
  nal : Nat
  offs : Nat
structure Oper1 where
  dst : Option Nat
  op : Op1
  g : Option (Nat × Bool)
structure LoopPol where
  live : List Nat
  virt : List (Nat × Nat)
inductive SEx where | normal | exit (id : Nat) | ret
inductive Code1 where
  | skip
  | ops (l : List Oper1)
  | drawn (l : List (Oper1 × Draw1))
  | perm (l : List Oper1) (os : List (List Nat))
  | seq (a b : Code1)
  | cond (c : Opd) (a b : Code1)
  | block (id : Nat) (a : Code1)
  | loop (p : LoopPol) (a : Code1)
  | freeze (t : Nat)
  | virt (vs : List (Nat × Nat))
  | amb (d : Nat) (neg : Bool) (x : Opd) (c : Code1)
  | rangeF (f : Opd) (ps : List Nat) (assign body : Code1)
  | ext (k : Nat)
  | exit (id : Nat)
  | ret
abbrev Env := List (Nat × SV)
structure LoopRec where
  env : Env
  ps : List Nat
  assign : Code1
  body : Code1
inductive SBlk where
  | dead
  | box (cs : List SV)
  | arr (ver z : Nat) (L : List (List SV)) (exact : Bool)
  | loop (r : LoopRec) (st : LoopState) (pend : SEx)
  | map (es : List (SV × SV))
structure Heap where
  bl : List SBlk
  esc : List (Nat × Nat)
  ro : Nat
inductive Cal where | fn (f : FuncId) | yld (b : Nat) | kfn (f : FuncId)
abbrev Rec := Cal → List SV → Heap → Option (SV × Heap)
inductive Res1 where | tmp (t : Nat) | cell (t : Nat) (ag : Bool) (n : Nat)
structure Fun1 where
  res : List Res1
  body : Code1
  keep : Bool
def SV.ok1 : SV → Bool
  | .undef => false
  | .skp => false
  | .agg _ => false
  | .tup _ => false
  | _ => true
def cells1 : SV → Option (List SV)
  | .agg cs => some cs
  | v => bif v.ok1 then some [v] else none
def SV.refs : SV → Nat
  | .ptr b _ _ _ => b + 1
  | .slc b _ _ _ => b + 1
  | .yld b => b + 1
  | .mp b => b + 1
  | .agg cs => refsL cs
  | .tup cs => refsL cs
  | .fn _ cs => refsL cs
  | .bfn _ cs => refsL cs
  | _ => 0
where refsL : List SV → Nat
  | [] => 0
  | v :: vs => max v.refs (refsL vs)
def get : Env → Nat → SV
  | [], _ => .undef
  | (j, v) :: e, i => bif i == j then v else get e i
def ev (e : Env) : Opd → SV
  | .t n => get e n
  | .c v => v
def hget (H : Heap) (b : Nat) : Option SBlk := H.bl[b]?
def hset (H : Heap) (b : Nat) (x : SBlk) (refs : Nat) : Option Heap :=
  bif decide (H.ro ≤ b) && decide (b < H.bl.length) then some { H with bl := H.bl.set b x, esc := bif decide (refs ≤ b + 1) then H.esc else (b, refs) :: H.esc } else none
def hnew (H : Heap) (x : SBlk) : Heap := { H with bl := H.bl ++ [x] }
def rdL (z : Nat) (H : Heap) : SV → Option (List (List SV))
  | .lst z' L _ => bif z' == z || L.isEmpty then some L else none
  | .slc b v off n => match hget H b with
    | some (.arr v' z' L _) => bif v == v' && z' == z && decide (off + n ≤ L.length) then some ((L.drop off).take n) else none
    | _ => none
  | _ => none
def lenL : SV → Option Nat
  | .lst _ L _ => some L.length
  | .slc _ _ _ n => some n
  | _ => none
def part1 (ag : Bool) (n : Nat) (cs : List SV) (o : Nat) : Option SV :=
  bif ag then (bif decide (o + n ≤ cs.length) then some (.agg ((cs.drop o).take n)) else none) else cs[o]?
def put1 (cs : List SV) (o n : Nat) (x : List SV) : List SV := cs.take o ++ x ++ cs.drop (o + n)
def spick : SV → SV → SV → Option SV
  | .bool t, .bool x, .bool y => some (.bool (bif t then x else y))
  | .bool t, x, y => bif t then some x else some y
  | _, _, _ => none
def fillP (ev : Opd → SV) : List SV → List (Nat × Nat × Opd) → Option (List SV)
  | z, [] => some z
  | z, (off, n, x) :: ps =>
    (cells1 (ev x)).bind fun cs => bif cs.length == n && decide (off + n ≤ z.length) then fillP ev (put1 z off n cs) ps else none
def fillS (ev : Opd → SV) (esz : Nat) : List (List SV) → List (Nat × Opd) → Option (List (List SV))
  | z, [] => some z
  | z, (i, x) :: ps => (cells1 (ev x)).bind fun cs => bif cs.length == esz && decide (i < z.length) then fillS ev esz (z.set i cs) ps else none
def sload (ag : Bool) (n : Nat) (H : Heap) : SV → Option SV
  | .ptr b v i o => match hget H b with
    | some (.box cs) => bif i == 0 then part1 ag n cs o else none
    | some (.arr v' _ L _) => bif v == v' then match L[i]? with
      | some cs => part1 ag n cs o
      | none => none else none
    | _ => none
  | .eptr cs => part1 ag n cs 0
  | _ => none
def sstore (n : Nat) (H : Heap) (x : SV) : SV → Option Heap
  | .ptr b v i o => (cells1 x).bind fun xs => bif xs.length == n then match hget H b with
    | some (.box cs) => bif i == 0 && decide (o + n ≤ cs.length) then hset H b (.box (put1 cs o n xs)) x.refs else none
    | some (.arr v' z L e) => bif v == v' then match L[i]? with
      | some cs => bif decide (o + n ≤ cs.length) then hset H b (.arr v z (L.set i (put1 cs o n xs)) e) x.refs else none
      | none => none else none
    | _ => none else none
  | _ => none
def sbin : BinOp → SV → SV → Option SV
  | .add, .int k a, .int k2 b => bif k == k2 then some (.int k (k.wrap (a + b))) else none
  | .sub, .int k a, .int k2 b => bif k == k2 then some (.int k (k.wrap (a - b))) else none
  | .mul, .int k a, .int k2 b => bif k == k2 then some (.int k (k.wrap (a * b))) else none
  | .quo, .int k a, .int k2 b => bif k == k2 && !decide (b = 0) then some (.int k (k.wrap (a.tdiv b))) else none
  | .rem, .int k a, .int k2 b => bif k == k2 && !decide (b = 0) then some (.int k (a.tmod b)) else none
  | .and, .int k a, .int k2 b => bif k == k2 then some (.int k (k.wrap ((BitVec.ofInt k.bits a &&& BitVec.ofInt k.bits b).toNat))) else none
  | .or, .int k a, .int k2 b => bif k == k2 then some (.int k (k.wrap ((BitVec.ofInt k.bits a ||| BitVec.ofInt k.bits b).toNat))) else none
  | .xor, .int k a, .int k2 b => bif k == k2 then some (.int k (k.wrap ((BitVec.ofInt k.bits a ^^^ BitVec.ofInt k.bits b).toNat))) else none
  | .shl, .int k a, .int _ b => bif decide (0 ≤ b) then some (.int k (k.wrap (a * 2 ^ (min b.toNat k.bits)))) else none
  | .shr, .int k a, .int _ b => bif decide (0 ≤ b) then some (.int k (a.fdiv (2 ^ (min b.toNat k.bits)))) else none
  | .lss, .int k a, .int k2 b => bif k == k2 then some (.bool (decide (a < b))) else none
  | .leq, .int k a, .int k2 b => bif k == k2 then some (.bool (decide (a ≤ b))) else none
  | .gtr, .int k a, .int k2 b => bif k == k2 then some (.bool (decide (b < a))) else none
  | .geq, .int k a, .int k2 b => bif k == k2 then some (.bool (decide (b ≤ a))) else none
  | .eql, .int k a, .int k2 b => bif k == k2 then some (.bool (decide (a = b))) else none
  | .neq, .int k a, .int k2 b => bif k == k2 then some (.bool (!decide (a = b))) else none
  | .eql, .str a, .str b => some (.bool (decide (a = b)))
  | .neq, .str a, .str b => some (.bool (!decide (a = b)))
  | .add, .str a, .str b => bif decide (a.size + b.size ≤ 4611686018427387904) then some (.str (a ++ b)) else none
  | _, _, _ => none
def sbinB : BinOp → SV → SV → Option SV
  | .eql, .bool a, .bool b => some (.bool (a == b))
  | .neq, .bool a, .bool b => some (.bool (!(a == b)))
  | _, _, _ => none
def eqCells : List LK → List SV → List SV → Option Bool
  | [], [], [] => some true
  | .i :: sh, .int k a :: x, .int k2 b :: y => bif k == k2 then (eqCells sh x y).map (fun r => decide (a = b) && r) else none
  | .b :: sh, .bool a :: x, .bool b :: y => (eqCells sh x y).map (fun r => (a == b) && r)
  | .s :: sh, .str a :: x, .str b :: y => (eqCells sh x y).map (fun r => decide (a = b) && r)
  | _, _, _ => none
def sidx (n : Nat) : SV → Option Nat
  | .int _ i => bif decide (0 ≤ i) && decide (i < (n : Int)) then some i.toNat else none
  | _ => none
def sbnd (y : Nat) : SV → Option Nat
  | .int _ i => bif decide (0 ≤ i) && decide (i ≤ (y : Int)) then some i.toNat else none
  | _ => none
def obnd (y d : Nat) : Option SV → Option Nat
  | none => some d
  | some v => sbnd y v
def siaddr (v : SV) (ix : SV) : Option SV := match v with
  | .lst _ L _ => (sidx L.length ix).bind fun i => (L[i]?).map .eptr
  | .slc b v off n => (sidx n ix).map fun i => .ptr b v (off + i) 0
  | _ => none
def sslice (x : SV) (lo hi mx : Option SV) : Option SV := match x with
  | .lst z L f => (obnd L.length L.length mx).bind fun m => (obnd m L.length hi).bind fun h => (obnd h 0 lo).map fun l =>
      .lst z ((L.take h).drop l) (match mx with | none => f && h == L.length | some _ => m == h)
  | .slc b v off n => match mx with
    | none => (obnd n n hi).bind fun h => (obnd h 0 lo).map fun l => .slc b v (off + l) (h - l)
    | some _ => (obnd n n mx).bind fun m => (obnd m n hi).bind fun h => (obnd h 0 lo).bind fun l => some (bif m == l then .lst 0 [] true else .undef)
  | _ => none
def ssliceX (H : Heap) (x : SV) (lo hi mx : Option SV) : Option SV := match x, hi, mx with
  | .slc b v off _, some hv, none => match hget H b with
    | some (.arr _ _ L _) => (sbnd (L.length - off) hv).bind fun h => (obnd h 0 lo).map fun l => .slc b v (off + l) (h - l)
    | _ => none
  | _, _, _ => none
def ssliceS (s : ByteArray) (lo hi : Option SV) : Option SV :=
  (obnd s.size s.size hi).bind fun h => (obnd h 0 lo).map fun l => .str (s.extract l h)
def foldI (f : Int → Int → Int) : Int → IntKind → List SV → Option SV
  | a, k, [] => some (.int k a)
  | a, k, .int k2 b :: r => bif k == k2 then foldI f (f a b) k r else none
  | _, _, _ => none
def fold1 (f : Int → Int → Int) : List SV → Option SV
  | .int k a :: r => foldI f a k r
  | _ => none
def mostLen : Nat := 1099511627776
def sappend (esz bytes : Nat) (H : Heap) (s : SV) (X : List (List SV)) : Option (SV × Heap) := match s with
  | .lst z L f => bif decide ((L.length + X.length) * bytes ≤ mostLen) then match L, X with
    | [], X => bif f then some (.slc H.bl.length 0 0 X.length, hnew H (.arr 0 esz X false)) else none
    | L, [] => some (.lst z L f, H)
    | L, X => bif f && z == esz then some (.slc H.bl.length 0 0 (L.length + X.length), hnew H (.arr 0 esz (L ++ X) false)) else none else none
  | .slc b v off n => bif decide ((n + X.length) * bytes ≤ mostLen) then match hget H b with
    | some (.arr v' z L e) => bif v == v' && z == esz && decide (off + n ≤ L.length) then
        bif !e && off == 0 && n == L.length then
          (hset H b (.arr (v + 1) z (L ++ X) false) (SV.refs.refsL X.flatten)).map fun H => (.slc b (v + 1) off (n + X.length), H)
        else bif decide (off + n + X.length ≤ L.length) then
          (hset H b (.arr v z (L.take (off + n) ++ X ++ L.drop (off + n + X.length)) e) (SV.refs.refsL X.flatten)).map fun H => (.slc b v off (n + X.length), H)
        else bif e then some (.slc H.bl.length 0 0 (n + X.length), hnew H (.arr 0 z ((L.drop off).take n ++ X) false))
        else none
      else none
    | _ => none else none
  | _ => none
def bytesL (s : ByteArray) : List (List SV) := s.data.toList.map fun b => [.int .u8 b.toNat]
def toBytes : List (List SV) → Option (List UInt8)
  | [] => some []
  | [.int .u8 n] :: r => (toBytes r).map fun l => UInt8.ofNat n.toNat :: l
  | _ => none
def scopy (esz : Nat) (H : Heap) (X : List (List SV)) : SV → Option (SV × Heap)
  | .slc b v off n => match hget H b with
    | some (.arr v' z L e) => bif v == v' && z == esz && decide (off + n ≤ L.length) then
        (hset H b (.arr v z (L.take off ++ X.take n ++ L.drop (off + min X.length n)) e) (SV.refs.refsL X.flatten)).map fun H => (.int .i64 (min X.length n : Nat), H)
      else none
    | _ => none
  | _ => none
def sclear (esz : Nat) (z : List SV) (H : Heap) : SV → Option (SV × Heap)
  | .lst _ [] _ => some (.undef, H)
  | .slc b v off n => match hget H b with
    | some (.arr v' z' L e) => bif v == v' && z' == esz && decide (off + n ≤ L.length) then
        (hset H b (.arr v z' (L.take off ++ List.replicate n z ++ L.drop (off + n)) e) 0).map fun H => (.undef, H)
      else none
    | _ => none
  | _ => none
def smake (esz : Nat) (z : List SV) (bytes : Nat) (H : Heap) : SV → SV → Option (SV × Heap)
  | .int .i64 l, .int .i64 c => bif decide (0 ≤ l) && decide (l ≤ c) && decide (c * bytes ≤ mostLen) then
      some (.slc H.bl.length 0 0 l.toNat, hnew H (.arr 0 esz (List.replicate c.toNat z) true)) else none
  | _, _ => none
def faddr1 (off : Nat) : SV → Option SV
  | .ptr b v i o => some (.ptr b v i (o + off))
  | .eptr cs => some (.eptr (cs.drop off))
  | _ => none
def cur (H : Heap) : SV → Bool
  | .ptr b v _ _ => match hget H b with
    | some (.box _) => true
    | some (.arr v' _ _ _) => v == v'
    | _ => false
  | .slc b v _ _ => match hget H b with
    | some (.arr v' _ _ _) => v == v'
    | _ => false
  | _ => true
def curZ (H : Heap) (z : Nat) : SV → Bool
  | .slc b v _ _ => match hget H b with
    | some (.arr v' z' _ _) => v == v' && z' == z
    | _ => false
  | .lst z' L _ => z' == z || L.isEmpty
  | _ => false
def nilChk1 : SV → Option SV
  | .ptr b v i o => some (.ptr b v i o)
  | .eptr cs => some (.eptr cs)
  | _ => none
def isNil1 (H : Heap) : NK → SV → Option Bool
  | .p, .nilPtr => some true
  | .p, .ptr b v i o => bif cur H (.ptr b v i o) then some false else none
  | .p, .eptr _ => some false
  | .f, .nilFn => some true
  | .f, .fn _ _ => some false
  | .f, .yld _ => some false
  | .s, .lst _ L _ => bif L.isEmpty then none else some false
  | .s, .slc b v off n => bif cur H (.slc b v off n) && decide (0 < n) then some false else none
  | _, _ => none
def emp1 (H : Heap) : SV → Option Bool
  | .lst _ L _ => some L.isEmpty
  | .slc b v off n => bif cur H (.slc b v off n) then some (n == 0) else none
  | _ => none
def sameK : LK → SV → SV → Option Bool
  | .i, .int k a, .int k' b => bif k == k' then some (a == b) else none
  | .s, .str a, .str b => some (a == b)
  | .b, .bool a, .bool b => some (a == b)
  | _, _, _ => none
def mfind (t : LK) (k : SV) : List (SV × SV) → Nat → Option (Option (Nat × SV))
  | [], _ => some none
  | (q, v) :: es, i => (sameK t k q).bind fun b => bif b then some (some (i, v)) else mfind t k es (i + 1)
def isKey : SV → Bool
  | .int _ _ | .str _ | .bool _ => true
  | _ => false
def mput (k v : SV) (es : List (SV × SV)) : Option (Nat × SV) → List (SV × SV)
  | some (i, _) => es.set i (k, v)
  | none => es ++ [(k, v)]
def smupd (t : LK) (H : Heap) (k v : SV) : SV → Option (SV × Heap)
  | .mp b => match hget H b with
    | some (.map es) => bif isKey k && v.ok1 then (mfind t k es 0).bind fun r => (hset H b (.map (mput k v es r)) v.refs).map (.undef, ·) else none
    | _ => none
  | _ => none
def smlook (t : LK) (ok : Bool) (z : SV) (H : Heap) (k : SV) : SV → Option (SV × Heap)
  | .mp b => match hget H b with
    | some (.map es) => bif isKey k then (mfind t k es 0).map fun r => (match r with
      | some (_, v) => bif ok then .tup [v, .bool true] else v
      | none => bif ok then .tup [z, .bool false] else z, H) else none
    | _ => none
  | _ => none
def sop (e : Env) (H : Heap) : Op1 → Option (SV × Heap)
  | .mov x => some (ev e x, H)
  | .pick c a b => (spick (ev e c) (ev e a) (ev e b)).map (·, H)
  | .box x => (cells1 (ev e x)).map fun cs => (.ptr H.bl.length 0 0 0, hnew H (.box cs))
  | .alloc z => some (.ptr H.bl.length 0 0 0, hnew H (.box z))
  | .allocV z => (hset (hnew (hnew H (.arr 0 z [] false)) (.box [.lst 0 [] true])) (H.bl.length + 1) (.box [.slc H.bl.length 0 0 0]) (H.bl.length + 1)).map fun H' => (.ptr (H.bl.length + 1) 0 0 0, H')
  | .build z ps => (fillP (ev e) z ps).map (.agg ·, H)
  | .bslice esz z n ps => (fillS (ev e) esz (List.replicate n z) ps).map fun L => (.slc H.bl.length 0 0 n, hnew H (.arr 0 esz L true))
  | .blist esz z n ps => ((fillS (ev e) esz (List.replicate n z) ps).bind fun L => bif SV.refs.refsL L.flatten == 0 then some (.lst esz L true) else none).map (·, H)
  | .load ag n a => (sload ag n H (ev e a)).map (·, H)
  | .store n a x => (sstore n H (ev e x) (ev e a)).map (.undef, ·)
  | .nilChk x => bif cur H (ev e x) then (nilChk1 (ev e x)).map (·, H) else none
  | .bin op x y => (sbin op (ev e x) (ev e y)).map (·, H)
  | .binB op x y => (sbinB op (ev e x) (ev e y)).map (·, H)
  | .eqAgg neg sh x y => match ev e x, ev e y with
    | .agg a, .agg b => (eqCells sh a b).map fun r => (.bool (neg ^^ r), H)
    | _, _ => none
  | .notB x => match ev e x with | .bool b => some (.bool (!b), H) | _ => none
  | .isNil k neg x => (isNil1 H k (ev e x)).map fun b => (.bool (neg ^^ b), H)
  | .negI x => match ev e x with | .int k n => some (.int k (k.wrap (0 - n)), H) | _ => none
  | .convI k x => match ev e x with | .int _ n => some (.int k (k.wrap n), H) | _ => none
  | .convS x => match ev e x with | .str s => some (.str s, H) | _ => none
  | .convBS x => (rdL 1 H (ev e x)).bind fun L => (toBytes L).map fun l => (.str ⟨l.toArray⟩, H)
  | .convSB x => match ev e x with | .str s => some (.slc H.bl.length 0 0 s.size, hnew H (.arr 0 1 (bytesL s) false)) | _ => none
  | .mkfn f cs => some (.fn f (cs.map (ev e)), H)
  | .mkbfn f cs => some (.bfn f (cs.map (ev e)), H)
  | .mkslice esz z bytes l c => smake esz z bytes H (ev e l) (ev e c)
  | .sliceL esz x lo hi mx => bif curZ H esz (ev e x) then ((sslice (ev e x) (lo.map (ev e)) (hi.map (ev e)) (mx.map (ev e))).orElse fun _ => ssliceX H (ev e x) (lo.map (ev e)) (hi.map (ev e)) (mx.map (ev e))).map (·, H) else none
  | .sliceS x lo hi => match ev e x with | .str s => (ssliceS s (lo.map (ev e)) (hi.map (ev e))).map (·, H) | _ => none
  | .faddr off x => bif cur H (ev e x) then (faddr1 off (ev e x)).map (·, H) else none
  | .field ag n off x => match ev e x with | .agg cs => (part1 ag n cs off).map (·, H) | _ => none
  | .iaddrS esz x ix => bif curZ H esz (ev e x) then (siaddr (ev e x) (ev e ix)).map (·, H) else none
  | .iaddrA len esz x ix => bif cur H (ev e x) then (sidx len (ev e ix)).bind fun i => (faddr1 (i * esz) (ev e x)).map (·, H) else none
  | .indexA ag n len x ix => match ev e x with | .agg cs => (sidx len (ev e ix)).bind fun i => (part1 ag n cs (i * n)).map (·, H) | _ => none
  | .indexS x ix => match ev e x with | .str s => (sidx s.size (ev e ix)).bind fun i => (s.data[i]?).map fun b => (.int .u8 b.toNat, H) | _ => none
  | .extract x i => match ev e x with | .tup vs => (vs[i]?).map (·, H) | _ => none
  | .len x => bif cur H (ev e x) then (lenL (ev e x)).map fun (n : Nat) => (.int .i64 n, H) else none
  | .lenS x => match ev e x with | .str s => some (.int .i64 s.size, H) | _ => none
  | .lenA n => some (.int .i64 n, H)
  | .maxI xs => (fold1 (fun a b => if b > a then b else a) (xs.map (ev e))).map (·, H)
  | .minI xs => (fold1 (fun a b => if b < a then b else a) (xs.map (ev e))).map (·, H)
  | .append esz bytes s x => (rdL esz H (ev e x)).bind (sappend esz bytes H (ev e s))
  | .appendS s x => match ev e x with | .str b => sappend 1 1 H (ev e s) (bytesL b) | _ => none
  | .copy esz d x => (rdL esz H (ev e x)).bind fun X => scopy esz H X (ev e d)
  | .clear esz z x => sclear esz z H (ev e x)
  | .mkmap => some (.mp H.bl.length, hnew H (.map []))
  | .mupd t x k v => smupd t H (ev e k) (ev e v) (ev e x)
  | .mlook t ok z x k => smlook t ok z H (ev e k) (ev e x)
  | .call _ _ => none
  | .callK _ _ _ => none
  | .callV _ _ => none
  | .bad => none
abbrev Tok {A : Type} (_ : A) : Type := Unit
section
variable {R : Type}
def fork (b : Bool) (x y : R) (_ : Tok (x, y)) : R := bif b then x else y
def onBool (v : SV) (f : Bool → Option R) (_ : Tok f) : Option R := match v with | .bool b => f b | _ => none
def onGuard (v : SV) (w : Bool) (f : Bool → Option R) (_ : Tok f) : Option R := match v with | .bool b => f (b == w) | .skp => f false | _ => none
def onSome {A : Type} (v : Option A) (f : A → Option R) (_ : Tok f) : Option R := match v with | some v => f v | none => none
open Classical in
noncomputable def onAmb (v : Option Bool) (neg : Bool) (f : Bool → Option R) (_ : Tok f) : Option R := match v with
  | none => none
  | some false => f neg
  | some true => if f true = f false then f true else none
end
def bind1 (e : Env) : Option Nat → SV → Env
  | none, _ => e
  | some d, v => (d, v) :: e
def scall (rec : Rec) (f : SV) (xs : List SV) (H : Heap) : Option (SV × Heap) := match f with
  | .fn f cs => rec (.fn f) (xs ++ cs) H
  | .bfn f cs => rec (.fn f) (cs ++ xs) H
  | .yld b => rec (.yld b) xs H
  | _ => none
def fcall (rec : Rec) (f : SV) (xs : List SV) (H : Heap) : Option (SV × Heap) := match f with
  | .fn f cs => rec (.fn f) (xs ++ cs) H
  | _ => none
def allS {A : Type} : List (Option A) → Option (List A)
  | [] => some []
  | some a :: r => (allS r).map (a :: ·)
  | none :: _ => none
def depth1 : Nat := 8
def frz (N : Nat) (H : Heap) : Nat → SV → Option SV
  | 0, _ => none
  | d + 1, v => match v with
    | .agg cs => (allS (cs.map (frz N H d))).map .agg
    | .tup cs => (allS (cs.map (frz N H d))).map .tup
    | .slc b ver off n => bif decide (b < N) then some v else match hget H b with
      | some (.arr ver' z L ex) => bif ver == ver' && decide (off + n ≤ L.length) then
          (allS (((L.drop off).take n).map fun cs => allS (cs.map (frz N H d)))).bind fun L' =>
            bif SV.refs.refsL L'.flatten == 0 then some (.lst z L' (ex && off + n == L.length)) else none
        else none
      | _ => none
    | .int k n => some (.int k n)
    | .bool b => some (.bool b)
    | .lst z L f => some (.lst z L f)
    | v => bif decide (v.refs ≤ N) then some v else none
def scal1 : SV → Bool
  | .int _ _ | .bool _ | .str _ => true
  | _ => false
def scal : SV → Bool
  | .tup vs => vs.all scal1
  | .agg vs => vs.all scal1
  | v => scal1 v
def vcall (rec : Rec) (f : FuncId) (xs : List SV) (H : Heap) : Option (SV × Heap) :=
  (allS (xs.map (frz 0 H depth1))).bind fun vs => (rec (.fn f) vs { bl := [], esc := [], ro := 0 }).bind fun r => bif scal r.1 then some (r.1, H) else none
def step1 (rec : Rec) (e : Env) (H : Heap) : Op1 → Option (SV × Heap)
  | .call f xs => scall rec (ev e f) (xs.map (ev e)) H
  | .callK f _ xs => rec (.kfn f) (xs.map (ev e)) H
  | .callV f xs => vcall rec f (xs.map (ev e)) H
  | o => sop e H o
def runOps {R : Type} (rec : Rec) : (l : List Oper1) → Env → Heap → (k : Env → Heap → Option R) → Tok (l, k) → Option R
  | [], e, H, k, _ => k e H
  | o :: os, e, H, k, _ => match o.g with
    | none => onSome (step1 rec e H o.op) (fun r => runOps rec os (bind1 e o.dst r.1) r.2 k ()) ()
    | some (t, w) => onGuard (get e t) w (fun b => fork b (onSome (step1 rec e H o.op) (fun r => runOps rec os (bind1 e o.dst r.1) r.2 k ()) ())
        (runOps rec os (bind1 e o.dst .skp) H k ()) ()) ()
def hide1 (N : Nat) (ds : List Nat) (l : List SBlk) : List SBlk := ds.foldl (fun l d => l.set (N + d) .dead) l
def disj1 : SV → Nat → SV → Nat → Bool
  | .ptr b _ i o, m, .ptr b' _ i' o', n => !(b == b') || !(i == i') || decide (o + m ≤ o') || decide (o' + n ≤ o)
  | .eptr _, _, _, _ => true
  | _, _, _, _ => false
def tgt1 (N : Nat) (hs : List Nat) : SV → Bool
  | .ptr b _ _ _ => hs.all fun m => !(N + m == b)
  | _ => false
def step1w (rec : Rec) (N : Nat) (rd : List (Opd × Nat)) (hs : List Nat) (e : Env) (H : Heap) : Op1 → Option (SV × Heap)
  | .store n a x => bif decide ((ev e x).refs ≤ N) && tgt1 N hs (ev e a) && rd.all (fun q => disj1 (ev e q.1) q.2 (ev e a) n) then (sstore n H (ev e x) (ev e a)).map (.undef, ·) else none
  | _ => none
def step1d (rec : Rec) (N : Nat) (d : Draw1) (e : Env) (H : Heap) (o : Op1) : Option (SV × Heap) := match d.kind with
  | .pure => step1 rec e H o
  | .bar => (step1 rec e H o).bind fun r => bif decide (H.bl.length ≤ r.2.bl.length) then some r else none
  | .seg => (step1 rec e { bl := hide1 N d.hide H.bl, esc := [], ro := H.bl.length } o).bind fun r =>
      bif r.2.bl.length == H.bl.length + d.nal && r.2.esc.isEmpty then some (r.1, { H with bl := H.bl ++ r.2.bl.drop H.bl.length }) else none
  | .wr rd => step1w rec N rd d.hide e H o
def nextN (d : Draw1) (N : Nat) (H : Heap) : Nat := match d.kind with
  | .bar => H.bl.length
  | _ => N
def skip1 (d : Draw1) : Bool := match d.kind with
  | .seg => d.nal == 0
  | .wr _ => false
  | _ => true
def runDrawn {R : Type} (rec : Rec) : (l : List (Oper1 × Draw1)) → Nat → Env → Heap → (k : Env → Heap → Option R) → Tok (l, k) → Option R
  | [], _, e, H, k, _ => k e H
  | (o, d) :: os, N, e, H, k, _ => match o.g with
    | none => onSome (step1d rec N d e H o.op) (fun r => runDrawn rec os (nextN d N r.2) (bind1 e o.dst r.1) r.2 k ()) ()
    | some (t, w) => onGuard (get e t) w (fun b => fork b (onSome (step1d rec N d e H o.op) (fun r => runDrawn rec os (nextN d N r.2) (bind1 e o.dst r.1) r.2 k ()) ())
        (bif skip1 d then runDrawn rec os (nextN d N H) (bind1 e o.dst .skp) H k () else none) ()) ()
def canonE : List Oper1 → Env → Env → Env
  | [], _, e0 => e0
  | ⟨some d, _, _⟩ :: l, e, e0 => (d, get e d) :: canonE l e e0
  | ⟨none, _, _⟩ :: l, e, e0 => canonE l e e0
def pickO : Option Oper1 → List Oper1 → List Oper1
  | some o, r => o :: r
  | none, r => r
def pick1 (l : List Oper1) : List Nat → List Oper1
  | [] => []
  | i :: r => pickO l[i]? (pick1 l r)
def runAll (rec : Rec) (l : List Oper1) (e : Env) (H : Heap) (o : List Nat) : Option (Env × Heap) := runOps rec (pick1 l o) e H (fun e' H' => some (canonE l e' e, H')) ()
open Classical in
noncomputable def same1 {A : Type} : List (Option A) → Option A
  | [] => none
  | [a] => a
  | a :: b :: r => if a = b then same1 (b :: r) else none
def frzT (H : Heap) : SV → Option (SV × Heap)
  | .slc b ver off n => match hget H b with
    | some (.arr ver' z L _) => bif ver == ver' && decide (off + n ≤ L.length) && SV.refs.refsL ((L.drop off).take n).flatten == 0 then
        (hset H b .dead 0).map fun H => (.lst z ((L.drop off).take n) false, H)
      else none
    | _ => none
  | .lst z L f => some (.lst z L f, H)
  | _ => none
def trunc (N : Nat) (H0 H : Heap) : Option Heap :=
  bif decide (N ≤ H.bl.length) && H.esc.all (fun p => !(decide (p.1 < N) && decide (N < p.2))) then
    some { bl := H.bl.take N, esc := H0.esc ++ H.esc.filter (fun p => decide (p.1 < N)), ro := H0.ro } else none
def keepH (H0 H : Heap) : Heap := { bl := H.bl, esc := H0.esc ++ H.esc, ro := H0.ro }
def live1 (l : List Nat) (e : Env) : Env := l.map fun i => (i, get e i)
def virtC (H : Heap) (b z j : Nat) (cs : List SV) : Option SV → Option Heap
  | some (.lst _ [] true) => hset (hnew H (.arr 0 z [] false)) b (.box (cs.set j (.slc H.bl.length 0 0 0))) (H.bl.length + 1)
  | _ => none
def virtB (H : Heap) (b z : Nat) : Option SBlk → Option Heap
  | some (.box [.lst _ [] true]) => hset (hnew H (.arr 0 z [] false)) b (.box [.slc H.bl.length 0 0 0]) (H.bl.length + 1)
  | some (.box cs) => virtC H b (z % 1000) (z / 1000) cs (cs[z / 1000]?)
  | _ => none
def virt1 : List (Nat × Nat) → Env → Heap → Option (Env × Heap)
  | [], e, H => some (e, H)
  | (t, z) :: r, e, H => match get e t with
    | .lst _ [] true => virt1 r ((t, .slc H.bl.length 0 0 0) :: e) (hnew H (.arr 0 z [] false))
    | .ptr b _ _ _ => (virtB H b z (hget H b)).bind fun H => virt1 r e H
    | .lst _ (_ :: _) true => virt1 r e (hnew H (.arr 0 z [] false))
    | _ => none
def moveB (H : Heap) (t h z b v n : Nat) (e : Env) : Option SBlk → Option SBlk → Option (Env × Heap)
  | some (.arr 0 _ [] _), some (.arr v' z' L ex) => bif z' == z && v == v' && n == L.length && decide (H.ro ≤ h) && !(h == b) && SV.refs.refsL L.flatten == 0 then
      some ((t, .slc h (v + 1) 0 n) :: e, { H with bl := (H.bl.set h (.arr (v + 1) z L ex)).set b .dead }) else none
  | _, _ => none
def rehome : List (Nat × Nat) → Nat → Nat → Env → Heap → Option (Env × Heap)
  | [], _, _, e, H => some (e, H)
  | (t, z) :: r, h, N, e, H => match get e t with
    | .slc b v 0 n => bif decide (N ≤ b) && decide (h < N) then (moveB H t h z b v n e (hget H h) (hget H b)).bind fun s => rehome r (h + 1) N s.1 s.2 else rehome r (h + 1) N e H
    | _ => rehome r (h + 1) N e H
def keepL : List Nat → Bool
  | i :: _ => i == 999999
  | [] => false
def head0 (p : LoopPol) (N : Nat) (H0 : Heap) (s : Env × Heap) : Option (Env × Heap) :=
  bif keepL p.live then some (live1 p.live.tail s.1, s.2) else
  bif decide (SV.refs.refsL ((live1 p.live s.1).map (·.2)) ≤ N) then (trunc N H0 s.2).map fun H => (live1 p.live s.1, H) else none
def head1 (p : LoopPol) (N : Nat) (H0 : Heap) (s : Env × Heap) : Option (Env × Heap) :=
  (rehome p.virt (N - p.virt.length) N s.1 s.2).bind (head0 p N H0)
abbrev Out := SEx × Env × Heap
def repL (l : List UInt8) : Nat → List UInt8
  | 0 => []
  | n + 1 => l ++ repL l n
def extv : Nat → List SV → Option SV
  | 0, [.str s, .int .i64 n] => bif decide (0 ≤ n) && decide (n ≤ 1048576) && decide (s.size ≤ 1048576) then some (.str ⟨(repL s.data.toList n.toNat).toArray⟩) else none
  | _, _ => none
def iter1 (f : Env × Heap → Option Out) : Nat → Env × Heap → Option Out
  | 0, _ => none
  | n + 1, s => match f s with
    | some (.normal, s') => iter1 f n s'
    | r => r
open Classical in
noncomputable def loop1 (f : Env × Heap → Option Out) (s : Env × Heap) : Option Out :=
  if h : ∃ n, (iter1 f n s).isSome then iter1 f (Classical.choose h) s else none
noncomputable def run {R : Type} (rec : Rec) : (c : Code1) → Env → Heap → (k : SEx → Env → Heap → Option R) → Tok (c, k) → Option R
  | .skip, e, H, k, _ => k .normal e H
  | .ops l, e, H, k, _ => runOps rec l e H (k .normal) ()
  | .drawn l, e, H, k, _ => runDrawn rec l H.bl.length e H (k .normal) ()
  | .perm l os, e, H, k, _ => onSome (same1 (os.map (runAll rec l e H))) (fun s => k .normal s.1 s.2) ()
  | .seq a b, e, H, k, _ => run rec a e H (fun x e H => match x with | .normal => run rec b e H k () | x => k x e H) ()
  | .cond c a b, e, H, k, _ => onBool (ev e c) (fun t => fork t (run rec a e H k ()) (run rec b e H k ()) ()) ()
  | .block id a, e, H, k, _ => run rec a e H (fun x e H => match x with | .exit j => bif j == id then k .normal e H else k (.exit j) e H | x => k x e H) ()
  | .freeze t, e, H, k, _ => onSome (frzT H (get e t)) (fun r => k .normal ((t, r.1) :: e) r.2) ()
  | .virt vs, e, H, k, _ => onSome (virt1 vs e H) (fun s => k .normal s.1 s.2) ()
  | .amb d neg x c, e, H, k, _ => onAmb (emp1 H (ev e x)) neg (fun b => run rec c ((d, .bool b) :: e) H k ()) ()
  | .loop p a, e, H, k, _ => onSome (virt1 p.virt e H) (fun s => onSome (loop1 (fun s' => (head1 p s.2.bl.length { s.2 with esc := [] } s').bind fun s' =>
      run rec a s'.1 s'.2 (fun x e H => some (x, e, H)) ()) (s.1, { s.2 with esc := [] })) (fun o => k o.1 o.2.1 { o.2.2 with esc := s.2.esc ++ o.2.2.esc }) ()) ()
  | .rangeF f ps x y, e, H, k, _ => onSome (fcall rec (ev e f) [.yld H.bl.length] (hnew H (.loop ⟨e, ps, x, y⟩ .ready .normal))) (fun r =>
      match hget r.2 H.bl.length with
      | some (.loop q st pend) => match st with
        | .busy => none
        | _ => onSome (hset r.2 H.bl.length (.loop q .exhausted pend) 0) (fun H => k pend e H) ()
      | _ => none) ()
  | .ext n, e, H, k, _ => onSome (extv n (e.map (·.2))) (fun v => k .ret ((0, v) :: e) H) ()
  | .exit id, e, H, k, _ => k (.exit id) e H
  | .ret, e, H, k, _ => k .ret e H
def resOf (e : Env) (H : Heap) : Res1 → Option SV
  | .tmp t => some (get e t)
  | .cell t ag n => sload ag n H (get e t)
def results1 (e : Env) (H : Heap) (rs : List Res1) : Option SV :=
  (allS (rs.map (resOf e H))).map fun vs => match vs with | [v] => v | vs => .tup vs
def env0 (xs : List SV) : Env := go 0 xs
where go : Nat → List SV → Env
  | _, [] => []
  | i, x :: r => (i, x) :: go (i + 1) r
def leave1 (keep : Bool) (H0 : Heap) (v : SV) (H : Heap) : Option (SV × Heap) :=
  bif keep then some (v, keepH H0 H) else (frz H0.bl.length H depth1 v).bind fun v => (trunc H0.bl.length H0 H).map fun H => (v, H)
def setLoop (b : Nat) (st : LoopState) (pend : SEx) (H : Heap) : Option Heap := match hget H b with
  | some (.loop q _ _) => hset H b (.loop q st pend) 0
  | _ => none
def beginLoop (b : Nat) (H : Heap) : Option Heap := match hget H b with
  | some (.loop q .ready pend) => hset H b (.loop q .busy pend) 0
  | _ => none
def heap0 : Heap := { bl := [], esc := [], ro := 0 }
def pure0 (F : Fun1) (xs : List SV) : Bool := SV.refs.refsL xs == 0 && !F.keep
noncomputable def call1 (T : FuncId → Option Fun1) : Nat → Rec
  | 0, _, _, _ => none
  | n + 1, .fn f, xs, H => match T f with
    | none => none
    | some F => bif pure0 F xs then
        (run (call1 T n) F.body (env0 xs) heap0 (fun x e H' => match x with
          | .exit _ => none
          | _ => (results1 e H' F.res).bind fun v => frz 0 H' depth1 v) ()).map fun v => (v, H)
      else run (call1 T n) F.body (env0 xs) { bl := H.bl, esc := [], ro := min H.ro H.bl.length } (fun x e H' => match x with
        | .exit _ => none
        | _ => (results1 e H' F.res).bind fun v => leave1 F.keep H v H') ()
  | n + 1, .kfn f, xs, H => match T f with
    | none => none
    | some F => run (call1 T n) F.body (env0 xs) { bl := H.bl, esc := [], ro := min H.ro H.bl.length } (fun x e H' => match x with
        | .exit _ => none
        | _ => (results1 e H' F.res).bind fun v => leave1 true H v H') ()
  | n + 1, .yld b, xs, H => match hget H b with
    | some (.loop q .ready _) =>
      bif q.ps.length == xs.length then
        run (call1 T n) q.assign ((q.ps.zip xs).reverse ++ q.env) { bl := H.bl, esc := [], ro := min H.ro H.bl.length } (fun x e H' => match x with
          | .normal => (beginLoop b H').bind fun H' => run (call1 T n) q.body e H' (fun x _ H' =>
              (setLoop b (match x with | .normal => .ready | _ => .done) x H').bind fun H' =>
                (trunc H.bl.length H H').map fun H' => (.bool (match x with | .normal => true | _ => false), H')) ()
          | _ => none) ()
      else none
    | _ => none
end Go.Sh
namespace Go.Sh
set_option linter.unusedSectionVars false
set_option linter.unnecessarySimpa false
set_option linter.unusedSimpArgs false
set_option linter.unusedVariables false
structure Pol where
  keep : FuncId → Option Nat
  loop : FuncId → Nat → LoopPol
  lit : FuncId → Nat → Bool
  frz : FuncId → Nat → List Nat
  vrt : FuncId → Nat → List (Nat × Nat) := fun _ _ => []
  keepAt : FuncId → Nat → Option Nat := fun _ _ => none
  viewAt : FuncId → Nat → Bool := fun _ _ => false
  vboxAt : FuncId → Nat → Option Nat := fun _ _ => none
  ext : FuncId → Option Nat := fun _ => none
  prm : FuncId → Nat → Bool := fun _ _ => false
def cval : Nat → Value → Option SV
  | 0, _ => none
  | d + 1, v => match v with
    | .bool b => some (.bool b)
    | .int k n => some (.int k n)
    | .string s => some (.str s)
    | .pointer none => some .nilPtr
    | .slice none 0 0 => some (.lst 0 [] true)
    | .nilFunc => some .nilFn
    | .agg cs => (allS (cs.toList.map (cval d))).bind fun cs => bif cs.all SV.ok1 then some (.agg cs) else none
    | _ => none
def copd : Operand → Option Opd
  | .tmp t => some (.t t)
  | .const v => (cval 2 v).map .c
  | .func f => some (.c (.fn f []))
  | .global _ => none
def copds (xs : Array Operand) : Option (List Opd) := allS (xs.toList.map copd)
def copdO : Option Operand → Option (Option Opd)
  | none => some none
  | some x => (copd x).map some
section
variable (P : Program)
def csz (t : TypeId) : Option Nat := (P.info? t).map (·.size)
def cag (t : TypeId) : Option Bool := match P.underlying t with
  | some (.struct _) => some true
  | some (.array _ _) => some true
  | some _ => some false
  | none => none
def czero (t : TypeId) : Option (List SV) := match P.info? t with
  | some i => match i.zero with
    | some v => (allS (v.cells.toList.map (cval 1))).bind fun z => bif z.all SV.ok1 then some z else none
    | none => none
  | none => none
def cshape : Nat → TypeId → Option (List LK)
  | 0, _ => none
  | d + 1, t => match P.underlying t with
    | some .bool => some [.b]
    | some (.int _) => some [.i]
    | some .string => some [.s]
    | some (.struct fs) => bif P.stoodInHeld t then none else fs.toList.foldlM (init := []) fun acc f =>
        bif f.name != "_" && f.offset == acc.length then (cshape d f.type).bind fun sh => bif (csz P f.type) == some sh.length then some (acc ++ sh) else none else none
    | some (.array n e) => (cshape d e).bind fun sh => bif (csz P e) == some sh.length then some (List.replicate n sh).flatten else none
    | _ => none
def cfields (t : TypeId) : Option (List Field) := match P.underlying t with
  | some (.struct fs) => some fs.toList
  | _ => none
def celem (t : TypeId) : Option TypeId := match P.underlying t with
  | some (.slice e) => some e
  | _ => none
def cbuild (t : TypeId) (ps : List (Nat × Operand)) : Option (List (Nat × Nat × Opd)) := match P.underlying t with
  | some (.struct fs) => bif !fs.toList.all (fun f => (csz P f.type).isSome) then none else allS (ps.map fun p => match fs[p.1]? with
    | some f => match csz P f.type, copd p.2 with
      | some n, some x => some (f.offset, n, x)
      | _, _ => none
    | none => none)
  | some (.array _ e) => match csz P e with
    | some n => allS (ps.map fun p => (copd p.2).map fun x => (p.1 * n, n, x))
    | none => none
  | _ => none
def ccall (c : Call) : Option Op1 := match c.callee with
  | .value f => match copd f, copds c.args with
    | some f, some xs => some (.call f xs)
    | _, _ => none
  | .invoke _ _ => none
  | .builtin b => match copds c.args with
    | none => none
    | some xs => match b, xs with
      | .len, [x] => match (c.argTypes[0]?).bind P.underlying with
        | some .string => some (.lenS x)
        | some (.slice _) => some (.len x)
        | some (.array n _) => some (.lenA n)
        | _ => none
      | .max, xs => match (c.argTypes[0]?).bind P.underlying with | some (.int _) => some (.maxI xs) | _ => none
      | .min, xs => match (c.argTypes[0]?).bind P.underlying with | some (.int _) => some (.minI xs) | _ => none
      | .append, [s, x] => match (c.argTypes[0]?).bind (celem P), (c.argTypes[1]?).bind P.underlying with
        | some e, some (.slice _) => match P.info? e with | some i => bif i.size == 0 || i.bytes == 0 then none else (match czero P e with | some z => bif z.length == i.size then some (.append i.size i.bytes s x) else none | none => none) | none => none
        | _, _ => none
      | .copy, [d, x] => match (c.argTypes[0]?).bind (celem P), (c.argTypes[1]?).bind P.underlying with
        | some e, some (.slice _) => match csz P e with | some (n + 1) => some (.copy (n + 1) d x) | _ => none
        | _, _ => none
      | .clear, [x] => match (c.argTypes[0]?).bind (celem P) with
        | some e => match czero P e with | some (z :: zs) => some (.clear (z :: zs).length (z :: zs) x) | _ => none
        | none => none
      | _, _ => none
def cnil (op : BinOp) (u : TypeDesc) (y : Operand) (x : Opd) : Option Op1 := match op, u, y with
  | .eql, .pointer _, .const (.pointer none) => some (.isNil .p false x)
  | .neq, .pointer _, .const (.pointer none) => some (.isNil .p true x)
  | .eql, .func _ _ _, .const .nilFunc => some (.isNil .f false x)
  | .neq, .func _ _ _, .const .nilFunc => some (.isNil .f true x)
  | .eql, .slice _, .const (.slice none 0 0) => some (.isNil .s false x)
  | .neq, .slice _, .const (.slice none 0 0) => some (.isNil .s true x)
  | _, _, _ => none
def cmap (t : TypeId) : Option (LK × TypeId) := match P.underlying t with
  | some (.map k e) => bif csz P e == some 1 && cag P e == some false then (match P.underlying k with
    | some (.int _) => some (.i, e)
    | some .string => some (.s, e)
    | some .bool => some (.b, e)
    | _ => none) else none
  | _ => none
def czero1 (t : TypeId) : Option SV := match P.info? t with
  | some i => match i.zero with
    | some v => (cval 1 v).bind fun z => bif z.ok1 then some z else none
    | none => none
  | none => none
def cop (o : Op) : Option Op1 := match o with
  | .move x => (copd x).map .mov
  | .assign x => (copd x).map .mov
  | .pick c a b => match copd c, copd a, copd b with
    | some c, some a, some b => some (.pick c a b)
    | _, _, _ => none
  | .alloc t => (czero P t).map .alloc
  | .box _ x => (copd x).map .box
  | .build t ps => match czero P t, cbuild P t ps.toList with
    | some z, some ps => some (.build z ps)
    | _, _ => none
  | .buildSlice t n ps => match celem P t with
    | some e => match csz P e, czero P e, allS (ps.toList.map fun p => (copd p.2).map fun x => (p.1, x)) with
      | some (z + 1), some zs, some ps => bif decide (n * (z + 1) ≤ 16777216) && zs.length == z + 1 then some (.bslice (z + 1) zs n ps) else none
      | _, _, _ => none
    | none => none
  | .load t a => match cag P t, csz P t, copd a with
    | some ag, some n, some a => some (.load ag n a)
    | _, _, _ => none
  | .store t a x => match csz P t, copd a, copd x with
    | some n, some a, some x => some (.store n a x)
    | _, _, _ => none
  | .nilCheck x => (copd x).map .nilChk
  | .binOp op t xo yo _ => match copd xo, copd yo with
    | some x, some y => match op, P.underlying t with
      | .eql, some (.struct _) => bif P.eqGuardType P.depth t then none else (cshape P 6 t).map (.eqAgg false · x y)
      | .neq, some (.struct _) => bif P.eqGuardType P.depth t then none else (cshape P 6 t).map (.eqAgg true · x y)
      | .eql, some (.array _ _) => bif P.eqGuardType P.depth t then none else (cshape P 6 t).map (.eqAgg false · x y)
      | .neq, some (.array _ _) => bif P.eqGuardType P.depth t then none else (cshape P 6 t).map (.eqAgg true · x y)
      | op, some (.int _) => some (.bin op x y)
      | op, some .bool => some (.binB op x y)
      | op, some .string => some (.bin op x y)
      | op, some u => cnil op u yo x
      | _, none => none
    | _, _ => none
  | .unOp .not _ x => (copd x).map .notB
  | .unOp .neg t x => match P.underlying t with | some (.int _) => (copd x).map .negI | _ => none
  | .convert s d x => match copd x with
    | none => none
    | some x => match P.underlying s, P.underlying d with
      | some (.int _), some (.int k) => some (.convI k x)
      | some .string, some .string => some (.convS x)
      | some (.slice el), some .string => match P.underlying el, csz P el with
        | some (.int .u8), some 1 => some (.convBS x)
        | _, _ => none
      | some .string, some (.slice el) => match P.underlying el, csz P el with
        | some (.int .u8), some 1 => some (.convSB x)
        | _, _ => none
      | _, _ => none
  | .makeFunc (.func f) fs cs => bif fs.isEmpty then (copds cs).map (.mkfn f ·) else bif cs.isEmpty then (copds fs).map (.mkbfn f ·) else none
  | .makeSlice t l c => match celem P t with
    | some e => match P.info? e, czero P e, copd l, copd c with
      | some i, some z, some l, some c => bif i.size == 0 || i.bytes == 0 then none else bif z.length == i.size then some (.mkslice i.size z i.bytes l c) else none
      | _, _, _, _ => none
    | none => none
  | .slice t x lo hi mx => match copd x, copdO lo, copdO hi, copdO mx with
    | some x, some lo, some hi, some mx => match P.underlying t with
      | some (.slice e) => match csz P e with | some n => bif mx.isSome && hi.isNone then none else some (.sliceL n x lo hi mx) | none => none
      | some .string => match mx with | none => some (.sliceS x lo hi) | some _ => none
      | _ => none
    | _, _, _, _ => none
  | .fieldAddr s x f => match copd x, (cfields P s).bind (·[f]?) with
    | some x, some f => match csz P f.type with
      | some (_ + 1) => some (.faddr f.offset x)
      | _ => none
    | _, _ => none
  | .field s x f => match copd x, (cfields P s).bind (·[f]?) with
    | some x, some f => match cag P f.type, csz P f.type with
      | some ag, some n => some (.field ag n f.offset x)
      | _, _ => none
    | _, _ => none
  | .indexAddr t x ix => match copd x, copd ix with
    | some x, some ix => match P.underlying t with
      | some (.slice e) => match csz P e with | some (n + 1) => some (.iaddrS (n + 1) x ix) | _ => none
      | some (.array len e) => match csz P e with | some (n + 1) => some (.iaddrA len (n + 1) x ix) | _ => none
      | _ => none
    | _, _ => none
  | .index t x ix => match copd x, copd ix with
    | some x, some ix => match P.underlying t with
      | some (.array len e) => match cag P e, csz P e with | some ag, some n => some (.indexA ag n len x ix) | _, _ => none
      | some .string => some (.indexS x ix)
      | _ => none
    | _, _ => none
  | .extract x i => (copd x).map (.extract · i)
  | .call c => ccall P c
  | .makeMap _ none => some .mkmap
  | .insert t m k v => match cmap P t, copd m, copd k, copd v with
    | some (q, _), some m, some k, some v => some (.mupd q m k v)
    | _, _, _, _ => none
  | .mapUpdate t m k v => match cmap P t, copd m, copd k, copd v with
    | some (q, _), some m, some k, some v => some (.mupd q m k v)
    | _, _, _, _ => none
  | .lookup t m k ok => match cmap P t, copd m, copd k with
    | some (q, e), some m, some k => (czero1 P e).map fun z => .mlook q ok z m k
    | _, _, _ => none
  | _ => none
inductive LitK where | no | list | keep (n : Nat) | view | vbox (z : Nat)
def lk (pol : Pol) (f : FuncId) : Option Nat → LitK
  | none => .no
  | some d => match pol.keepAt f d with
    | some n => .keep n
    | none => match pol.vboxAt f d with
      | some z => .vbox z
      | none => bif pol.viewAt f d then .view else bif pol.lit f d then .list else .no
def lit1 (b : LitK) (o : Op1) : Op1 := match b, o with
  | .list, .bslice esz z n ps => .blist esz z n ps
  | .keep n, .call (.c (.fn g [])) xs => .callK g n xs
  | .view, .call (.c (.fn g [])) xs => .callV g xs
  | .vbox z, .alloc [.lst 0 [] true] => .allocV z
  | _, o => o
def coper (pol : Pol) (f : FuncId) (nt : Nat) (ops : Array Oper) (o : Oper) : Option Oper1 :=
    let op := lit1 (lk pol f o.dst) ((cop P o.op).getD .bad)
    bif o.dst.any (fun d => decide (nt ≤ d)) then none else match o.guard with
    | none => some ⟨o.dst, op, none⟩
    | some (j, w) => match (ops[j]?).bind (·.dst) with
      | some t => some ⟨o.dst, op, some (t, w)⟩
      | none => none
end
def pure1 : Op1 → Bool
  | .mov _ | .pick .. | .build .. | .blist .. | .bin .. | .binB .. | .eqAgg .. | .notB _ | .negI _ | .convI .. | .convS _ | .mkfn .. | .mkbfn .. | .field .. | .indexA .. | .indexS .. | .extract .. | .lenS _ | .lenA _ | .maxI _ | .minI _ | .sliceS .. => true
  | _ => false
def before1 (ops : List Oper) : List Nat :=
  ops.foldl (init := []) fun acc o => acc ++ [o.after.toList.foldl (fun s e => bif Region.binds .any e then s ||| 2 ^ e.on ||| acc.getD e.on 0 else s) 0]
def opTmps (o : Oper1) : List Nat := (match o.op with
  | .mov x | .box x | .nilChk x | .notB x | .isNil _ _ x | .negI x | .convI _ x | .convS x | .convBS x | .convSB x | .faddr _ x | .field _ _ _ x | .extract x _ | .len x | .lenS x | .clear _ _ x | .load _ _ x => f [x]
  | .pick c a b => f [c, a, b]
  | .build _ ps => f (ps.map (·.2.2))
  | .bslice _ _ _ ps => f (ps.map (·.2))
  | .blist _ _ _ ps => f (ps.map (·.2))
  | .store _ a x | .bin _ a x | .binB _ a x | .eqAgg _ _ a x | .iaddrS _ a x | .iaddrA _ _ a x | .indexA _ _ _ a x | .indexS a x | .append _ _ a x | .appendS a x | .copy _ a x | .mkslice _ _ _ a x => f [a, x]
  | .mkfn _ cs => f cs
  | .mkbfn _ cs => f cs
  | .sliceL _ x lo hi mx => f ([x] ++ lo.toList ++ hi.toList ++ mx.toList)
  | .sliceS x lo hi => f ([x] ++ lo.toList ++ hi.toList)
  | .maxI xs | .minI xs => f xs
  | .mkmap => []
  | .mupd _ x k v => f [x, k, v]
  | .mlook _ _ _ x k => f [x, k]
  | .call g xs => f (g :: xs)
  | .callK _ _ xs => f xs
  | .callV _ xs => f xs
  | .alloc _ | .allocV _ | .lenA _ | .bad => []) ++ (match o.g with | some (t, _) => [t] | none => [])
where f (xs : List Opd) : List Nat := xs.filterMap fun | .t n => some n | .c _ => none
def cmp1 (bs : List Nat) (i j : Nat) : Bool := i == j || (bs.getD j 0).testBit i || (bs.getD i 0).testBit j
def nalOf (pol : Pol) (f : FuncId) (o : Oper1) : Nat := match o.op with
  | .call (.t _) _ => (o.dst.bind (pol.keepAt f)).getD 0
  | .call (.c (.fn f _)) _ => (pol.keep f).getD 0
  | .callK _ n _ => n
  | .allocV _ => 2
  | .append .. | .appendS .. | .box _ | .alloc _ | .bslice .. | .mkslice .. | .convSB _ | .mkmap => 1
  | _ => 0
def isBar (d : Draw1) : Bool := match d.kind with | .bar => true | _ => false
def isSeg (d : Draw1) : Bool := match d.kind with | .seg => true | _ => false
def isPure (d : Draw1) : Bool := match d.kind with | .pure => true | _ => false
def isWr (d : Draw1) : Bool := match d.kind with | .wr _ => true | _ => false
def blind1 : Op1 → Bool
  | .faddr .. | .iaddrS .. | .iaddrA .. | .len .. | .sliceL .. | .nilChk .. | .isNil .. | .alloc .. | .box .. | .bslice .. | .mkslice .. => true
  | _ => false
def eqOpd : Opd → Opd → Bool
  | .t a, .t b => a == b
  | _, _ => false
def okRead (pl : List (Oper1 × Draw1)) (i k : Nat) (o : Op1) (d : Draw1) : Bool := match o, d.kind with
  | .load ag n a, .wr rd => rd.any (fun q => eqOpd q.1 a && q.2 == (bif ag then n else 1)) && match a with
    | .t u => (List.range k).all fun m => decide (m < i) || match pl[m]? with | some p => !(p.1.dst == some u) | none => false
    | .c _ => false
  | _, _ => false
def okDraws (bs : List Nat) (ops : List Oper) (pl : List (Oper1 × Draw1)) : Bool :=
  let n := pl.length
  let rg := List.range n
  let dr := fun i => ((pl[i]?).map (·.2)).getD ⟨.pure, [], 0, 0⟩
  let bar := fun i => isBar (dr i)
  let seg := fun i => isSeg (dr i)
  (ops.zipIdx.all fun p => p.1.after.toList.all fun e => !Region.binds .any e || decide (e.on < p.2)) &&
  (rg.all fun j => (List.range j).all fun i => match pl[i]?, pl[j]? with
    | some a, some b => (bs.getD j 0).testBit i || !((match a.1.dst with | some d => (opTmps b.1).contains d || b.1.dst == some d | none => false) || (match b.1.dst with | some d => (opTmps a.1).contains d | none => false))
    | _, _ => false) &&
  (pl.all fun p => !isPure p.2 || pure1 p.1.op && p.2.nal == 0) &&
  (rg.all fun i => !bar i || rg.all fun j => isPure (dr j) || cmp1 bs i j) &&
  (rg.all fun i => (dr i).offs == match i with | 0 => 0 | k + 1 => bif bar k then 0 else (dr k).offs + (dr k).nal) &&
  (rg.all fun i => !(seg i || isWr (dr i)) || (List.range i).all fun k => !seg k || ((List.range i).any fun m => decide (k < m) && bar m) || (bs.getD i 0).testBit k || (List.range (dr k).nal).all fun m => (dr i).hide.contains ((dr k).offs + m)) &&
  (rg.all fun k => !isWr (dr k) || (dr k).nal == 0 && rg.all fun m => !decide (k < m) || isPure (dr m) || (bs.getD m 0).testBit k) &&
  (rg.all fun k => !isWr (dr k) || (List.range k).all fun i => !seg i || ((List.range k).any fun m => decide (i < m) && bar m) || (bs.getD k 0).testBit i || match pl[i]? with | some a => blind1 a.1.op || okRead pl i k a.1.op (dr k) | none => false)
def mkdraw (pol : Pol) (f : FuncId) (bs : List Nat) (l : List Oper1) (useW : Bool) : List (Oper1 × Draw1) :=
  let n := l.length
  let pu := l.map fun o => pure1 o.op
  let nonpure := (List.range n).filter fun i => !pu.getD i true
  let bars := (List.range n).map fun i => !pu.getD i true && nonpure.all fun j => cmp1 bs i j
  let isst := l.map fun o => match o.op with | .store .. => true | _ => false
  let nals := l.zipIdx.map fun p => bif pu.getD p.2 true || bars.getD p.2 false then 0 else nalOf pol f p.1
  let scan := (List.range n).foldl (init := (([] : List (Nat × Nat)), 0, 0)) fun (acc, off, st) i =>
    bif bars.getD i false then (acc ++ [(off, st)], 0, i + 1) else (acc ++ [(off, st)], off + nals.getD i 0, st)
  l.zipIdx.map fun p =>
    let i := p.2
    let os := scan.1.getD i (0, 0)
    let hide := (List.range i).flatMap fun k => bif decide (os.2 ≤ k) && !pu.getD k true && !cmp1 bs i k then (List.range (nals.getD k 0)).map fun m => (scan.1.getD k (0, 0)).1 + m else []
    (p.1, bif pu.getD i true then ⟨.pure, [], 0, os.1⟩ else bif bars.getD i false then ⟨.bar, [], 0, os.1⟩ else
      bif useW && isst.getD i false then ⟨.wr ((List.range i).flatMap fun k => bif decide (os.2 ≤ k) && !cmp1 bs i k then (match l[k]? with | some o => (match o.op with | .load ag n a => [(a, bif ag then n else 1)] | _ => []) | none => []) else []), hide, 0, os.1⟩ else
      ⟨.seg, hide, nals.getD i 0, os.1⟩)
def cdrawn (pol : Pol) (f : FuncId) (ops : List Oper) (l : List Oper1) : Option (List (Oper1 × Draw1)) :=
  let bs := before1 ops
  let a := mkdraw pol f bs l true
  bif okDraws bs ops a then some a else
    let b := mkdraw pol f bs l false
    bif okDraws bs ops b then some b else none
def allExt (bs : List Nat) : Nat → List Nat → List (List Nat)
  | 0, _ => [[]]
  | n + 1, rem => rem.flatMap fun m => bif rem.all (fun k => k == m || !(bs.getD m 0).testBit k) then (allExt bs n (rem.erase m)).map (m :: ·) else []
def linOK (bs : List Nat) (n : Nat) : List Nat → List Nat → Bool
  | done, [] => decide (done.length = n)
  | done, i :: r => decide (i < n) && !done.contains i && (List.range n).all (fun k => !(bs.getD i 0).testBit k || done.contains k) && linOK bs n (i :: done) r
def fillO (bs : List Nat) (n : Nat) (pu : List Bool) : List Nat → List Nat → List Nat
  | done, [] => done ++ (List.range n).filter fun k => !done.contains k
  | done, m :: r =>
    let done := done ++ (List.range n).filter fun k => pu.getD k true && (bs.getD m 0).testBit k && !done.contains k
    fillO bs n pu (done ++ [m]) r
def nonP (l : List Oper1) (i : Nat) : Bool := match l[i]? with | some o => !pure1 o.op | none => false
def orders1 (bs : List Nat) (l : List Oper1) : List (List Nat) :=
  let np := (List.range l.length).filter (nonP l)
  (allExt bs np.length np).map (fillO bs l.length (l.map fun o => pure1 o.op) [])
def indep1 (a b : Oper1) : Bool := !((match a.dst with | some d => (opTmps b).contains d || b.dst == some d | none => false) || (match b.dst with | some d => (opTmps a).contains d | none => false))
def okPerm (bs : List Nat) (ops : List Oper) (l : List Oper1) (os : List (List Nat)) : Bool :=
  let n := l.length
  let np := (List.range n).filter (nonP l)
  (ops.zipIdx.all fun p => p.1.after.toList.all fun e => !Region.binds .any e || decide (e.on < p.2)) &&
  ((List.range n).all fun j => (List.range j).all fun i => match l[i]?, l[j]? with
    | some a, some b => (bs.getD j 0).testBit i || indep1 a b
    | _, _ => false) &&
  (os.all fun o => linOK bs n [] o) &&
  ((allExt bs np.length np).all fun x => os.any fun o => o.filter (nonP l) == x)
def rd1 : Op1 → Bool
  | .load .. | .nilChk _ | .faddr .. | .len _ | .iaddrS .. | .iaddrA .. => true
  | _ => false
def wrs1 (l : List Oper1) : List Nat := (List.range l.length).filter fun i => match l[i]? with | some o => !pure1 o.op && !rd1 o.op | none => false
def stage1 (W σ : List Nat) (r : Nat) : Nat := ((σ.takeWhile (fun x => x != r)).filter W.contains).length
def allowed1 (bs W : List Nat) (r j : Nat) : Bool := (W.take j).all (fun w => !(bs.getD w 0).testBit r) && (W.drop j).all (fun w => !(bs.getD r 0).testBit w)
def ordersF (bs : List Nat) (l : List Oper1) : List (List Nat) :=
  let W := wrs1 l
  let n := l.length
  let isR := fun r => match l[r]? with | some o => rd1 o.op | none => false
  let at_ := fun (j r : Nat) => max (W.filter fun w => (bs.getD r 0).testBit w).length (min j (W.length - (W.filter fun w => (bs.getD w 0).testBit r).length))
  ((List.range (W.length + 1)).map fun j => fillO bs n (l.map fun o => pure1 o.op) [] ((List.range (W.length + 1)).flatMap fun t => ((List.range n).filter fun r => isR r && at_ j r == t) ++ (W[t]?).toList)).foldl (fun acc o => bif acc.contains o then acc else acc ++ [o]) []
def okFlo (bs : List Nat) (ops : List Oper) (l : List Oper1) (os : List (List Nat)) : Bool :=
  let n := l.length
  let W := wrs1 l
  (ops.zipIdx.all fun p => p.1.after.toList.all fun e => !Region.binds .any e || decide (e.on < p.2)) &&
  ((List.range n).all fun j => (List.range j).all fun i => match l[i]?, l[j]? with
    | some a, some b => (bs.getD j 0).testBit i || indep1 a b
    | _, _ => false) &&
  (os.all fun o => linOK bs n [] o) &&
  ((List.range n).all fun i => (List.range (i + 1)).all fun k => match l[k]?, l[i]? with
    | some a, some b => (match b.dst with | some d => !(opTmps a).contains d && (k == i || !(a.dst == some d)) | none => true)
    | _, _ => false) &&
  (W.all fun w => W.all fun w' => !decide (w < w') || (bs.getD w' 0).testBit w) &&
  !os.isEmpty &&
  ((List.range n).all fun r => match l[r]? with
    | some o => !rd1 o.op || (List.range (W.length + 1)).all fun j => !allowed1 bs W r j || os.any fun σ => stage1 W σ r == j
    | none => true)
def cperm (P : Program) (pol : Pol) (f : FuncId) (nt : Nat) (ops : Array Oper) : Option Code1 := match allS (ops.toList.map (coper P pol f nt ops)) with
  | none => none
  | some l => bif okFlo (before1 ops.toList) ops.toList l (ordersF (before1 ops.toList) l) then some (.perm l (ordersF (before1 ops.toList) l)) else
      bif okPerm (before1 ops.toList) ops.toList l (orders1 (before1 ops.toList) l) then some (.perm l (orders1 (before1 ops.toList) l)) else none
def cregion (P : Program) (pol : Pol) (f : FuncId) (nt : Nat) (ops : Array Oper) (draw : Bool) : Option Code1 := match allS (ops.toList.map (coper P pol f nt ops)) with
  | none => none
  | some l => bif draw then (cdrawn pol f ops.toList l).map .drawn else some (.ops l)
def firstReg : Code → Option Nat
  | .region id _ _ => some id
  | .seq a b => (firstReg a).orElse fun _ => firstReg b
  | .cond _ a b => (firstReg a).orElse fun _ => firstReg b
  | .block _ a => firstReg a
  | .loop a => firstReg a
  | .rangeFunc _ _ a b => (firstReg a).orElse fun _ => firstReg b
  | .scope a => firstReg a
  | _ => none
def freezes (c : Code1) : List Nat → Code1
  | [] => c
  | t :: r => .seq (.freeze t) (freezes c r)
def virts (c : Code1) : List (Nat × Nat) → Code1
  | [] => c
  | vs => .seq c (.virt vs)
def ambPat (P : Program) (nt : Nat) : Code → Option (Array Oper × List Oper × Nat × Bool × Opd)
  | .region _ ops false => match ops.toList.getLast? with
    | some o => match o.dst, o.guard, o.op with
      | some d, none, .binOp op t x y _ => match copd x, P.underlying t with
        | some x', some (.slice el) => match cnil op (.slice el) y x' with
          | some (.isNil _ neg x2) => bif decide (d < nt) then some (ops, ops.toList.dropLast, d, neg, x2) else none
          | _ => none
        | _, _ => none
      | _, _, _ => none
    | none => none
  | _ => none
def ccode (P : Program) (pol : Pol) (f : FuncId) (nt : Nat) : Code → Option Code1
  | .skip => some .skip
  | .region id ops draw => (bif draw && pol.prm f id then cperm P pol f nt ops else cregion P pol f nt ops draw).map fun c => virts (freezes c (pol.frz f id)) (pol.vrt f id)
  | .seq a b => match ambPat P nt a with
    | some (ops, l, d, neg, x) => match allS (l.map (coper P pol f nt ops)), ccode P pol f nt b with
      | some l, some b => some (.seq (.ops l) (.amb d neg x b))
      | _, _ => none
    | none => match ccode P pol f nt a, ccode P pol f nt b with
      | some a, some b => some (.seq a b)
      | _, _ => none
  | .cond c a b => match copd c, ccode P pol f nt a, ccode P pol f nt b with
    | some c, some a, some b => some (.cond c a b)
    | _, _, _ => none
  | .block id a => (ccode P pol f nt a).map (.block id)
  | .loop a => (ccode P pol f nt a).map (.loop (pol.loop f ((firstReg a).getD 0)))
  | .rangeFunc g ps a b => match copd g, ccode P pol f nt a, ccode P pol f nt b with
    | some g, some a, some b => bif ps.toList.any (fun d => decide (nt ≤ d)) then none else some (.rangeF g ps.toList a b)
    | _, _, _ => none
  | .exit id => some (.exit id)
  | .ret => some .ret
  | _ => none
def cres (P : Program) : ResultVar → Option Res1
  | .tmp t => some (.tmp t)
  | .cell a t => match cag P t, csz P t with
    | some ag, some n => some (.cell a ag n)
    | _, _ => none
def cfun (P : Program) (pol : Pol) (f : FuncId) : Option Fun1 := match pol.ext f with
  | some k => some ⟨[.tmp 0], .ext k, false⟩
  | none => match P.funcs[f]? with
  | none => none
  | some fn => match fn.body with
    | none => none
    | some b => bif fn.name == "runtime.NumGoroutine" then none else match ccode P pol f fn.ntmps b, allS (fn.results.toList.map (cres P)) with
      | some b, some rs => some ⟨rs, b, (pol.keep f).isSome⟩
      | _, _ => none
end Go.Sh
namespace Go.Sh
set_option linter.unusedSectionVars false
set_option linter.unnecessarySimpa false
set_option linter.unusedSimpArgs false
set_option linter.unusedVariables false
structure Loc where
  blk : Nat
  base : Nat
  cap : Nat
  esz : Nat
  ver : Nat
  virt : Bool
  arr : Bool
abbrev Map := Nat → Option Loc
abbrev noMap : Map := fun _ => none
def one1 : Value → Bool
  | .agg _ => false
  | .tuple _ => false
  | _ => true
def svV : SV → Option Value
  | .bool b => some (.bool b)
  | .int k n => some (.int k n)
  | .str s => some (.string s)
  | _ => none
inductive VR (w : World) (F : Nat → Prop) : Map → SV → Value → Prop
  | undef {ρ : Map} (v : Value) : VR w F ρ .undef v
  | skp {ρ : Map} : VR w F ρ .skp undef
  | bool {ρ : Map} (b : Bool) : VR w F ρ (.bool b) (.bool b)
  | int {ρ : Map} (k : IntKind) (n : Int) : VR w F ρ (.int k n) (.int k n)
  | str {ρ : Map} (s : ByteArray) : VR w F ρ (.str s) (.string s)
  | nilPtr {ρ : Map} : VR w F ρ .nilPtr (.pointer none)
  | ptr {ρ : Map} {b ver i o : Nat} {l : Loc} {v : Value} (h : ρ b = some l) (hv : ver ≤ l.ver) (hc : one1 v = true)
      (ha : ver = l.ver → l.virt = false ∧ v = .pointer (some ⟨l.blk, l.base + i * l.esz + o, none⟩)) : VR w F ρ (.ptr b ver i o) v
  | eptr {ρ : Map} {cs : List SV} {B o : Nat} (V : Nat → Value) (hF : F B) (hc : ∀ j c, cs[j]? = some c → w.cell? ⟨B, o + j, none⟩ = some (V j))
      (h1 : ∀ (j : Nat) (c : SV), cs[j]? = some c → c.ok1 = true) (hv : ∀ j c, cs[j]? = some c → VR w F noMap c (V j)) : VR w F ρ (.eptr cs) (.pointer (some ⟨B, o, none⟩))
  | lst {ρ : Map} {z : Nat} {L : List (List SV)} {full : Bool} {a : Option Addr} {cap : Nat} (V : Nat → Nat → Value) (hcap : L.length ≤ cap) (hfull : full = true → cap = L.length)
      (hz : ∀ (i : Nat) cs, L[i]? = some cs → cs.length = z)
      (hat : L = [] ∨ ∃ B o, a = some ⟨B, o, none⟩ ∧ F B ∧ ∀ (i j : Nat) cs c, L[i]? = some cs → cs[j]? = some c → w.cell? ⟨B, o + i * z + j, none⟩ = some (V i j))
      (h1 : ∀ (i j : Nat) cs (c : SV), L[i]? = some cs → cs[j]? = some c → c.ok1 = true)
      (hv : ∀ (i j : Nat) cs c, L[i]? = some cs → cs[j]? = some c → VR w F noMap c (V i j)) : VR w F ρ (.lst z L full) (.slice a L.length cap)
  | slc {ρ : Map} {b ver off n : Nat} {l : Loc} {v : Value} (h : ρ b = some l) (hv : ver ≤ l.ver) (hc : one1 v = true)
      (ha : ver = l.ver → (l.virt = true → ∃ a, v = .slice a 0 0 ∧ off = 0 ∧ n = 0) ∧
        (l.virt = false → off + n ≤ l.cap ∧ ∃ a, v = .slice a n (l.cap - off) ∧ (off < l.cap → a = some ⟨l.blk, l.base + off * l.esz, none⟩))) : VR w F ρ (.slc b ver off n) v
  | agg {ρ : Map} {cs : List SV} {vs : Array Value} (hn : cs.length = vs.size) (h1 : ∀ (j : Nat) (c : SV), cs[j]? = some c → c.ok1 = true)
      (hv : ∀ (j : Nat) c v, cs[j]? = some c → vs[j]? = some v → VR w F ρ c v) : VR w F ρ (.agg cs) (.agg vs)
  | tup {ρ : Map} {cs : List SV} {vs : Array Value} (hn : cs.length = vs.size)
      (hv : ∀ (j : Nat) c v, cs[j]? = some c → vs[j]? = some v → VR w F ρ c v) : VR w F ρ (.tup cs) (.tuple vs)
  | fn {ρ : Map} {f : FuncId} {cs : List SV} {vs : Array Value} (hn : cs.length = vs.size)
      (hv : ∀ (j : Nat) c v, cs[j]? = some c → vs[j]? = some v → VR w F ρ c v) : VR w F ρ (.fn f cs) (.func (.func f) #[] vs)
  | bfn {ρ : Map} {f : FuncId} {cs : List SV} {vs : Array Value} (hn : cs.length = vs.size)
      (hv : ∀ (j : Nat) c v, cs[j]? = some c → vs[j]? = some v → VR w F ρ c v) : VR w F ρ (.bfn f cs) (.func (.func f) vs #[])
  | nilFn {ρ : Map} : VR w F ρ .nilFn .nilFunc
  | yld {ρ : Map} {b : Nat} {l : Loc} (h : ρ b = some l) (ha : l.arr = false) : VR w F ρ (.yld b) (.func (.yield l.blk) #[] #[])
  | mp {ρ : Map} {b : Nat} {l : Loc} (h : ρ b = some l) (ha : l.arr = false) : VR w F ρ (.mp b) (.map (some l.blk))
theorem VR.one {w : World} {F : Nat → Prop} {ρ : Map} {c : SV} {v : Value} (h : VR w F ρ c v) (h1 : c.ok1 = true) : one1 v = true := by
  cases h <;> first | rfl | assumption | (simp [SV.ok1] at h1)
def Map.le (ρ ρ' : Map) : Prop := ∀ b l, ρ b = some l → ∃ l', ρ' b = some l' ∧ (l' = l ∨ (l.arr = true ∧ l.ver < l'.ver))
theorem Map.le_refl (ρ : Map) : ρ.le ρ := fun _ l h => ⟨l, h, .inl rfl⟩
theorem Map.le_trans {a b c : Map} (h : a.le b) (h' : b.le c) : a.le c := fun x l hl => by
  obtain ⟨l1, h1, e1⟩ := h x l hl
  obtain ⟨l2, h2, e2⟩ := h' x l1 h1
  refine ⟨l2, h2, ?_⟩
  rcases e1 with rfl | ⟨a1, v1⟩
  · exact e2
  · rcases e2 with rfl | ⟨_, v2⟩
    · exact .inr ⟨a1, v1⟩
    · exact .inr ⟨a1, by omega⟩
theorem noMap_le (ρ : Map) : noMap.le ρ := fun _ _ h => by cases h
def Keeps (F : Nat → Prop) (w w' : World) : Prop := ∀ B, F B → w'.heap[B]? = w.heap[B]?
theorem Keeps.cell {F : Nat → Prop} {w w' : World} (h : Keeps F w w') {B o : Nat} (hB : F B) : w'.cell? ⟨B, o, none⟩ = w.cell? ⟨B, o, none⟩ := by
  simp only [World.cell?, h B hB]
theorem VR.mono {w w' : World} {F F' : Nat → Prop} (hk : Keeps F w w') (hF : ∀ B, F B → F' B) {ρ : Map} {c : SV} {v : Value}
    (h : VR w F ρ c v) : ∀ {ρ' : Map}, ρ.le ρ' → VR w' F' ρ' c v := by
  induction h with
  | undef v => exact fun _ => .undef v
  | skp => exact fun _ => .skp
  | bool b => exact fun _ => .bool b
  | int k n => exact fun _ => .int k n
  | str s => exact fun _ => .str s
  | nilPtr => exact fun _ => .nilPtr
  | nilFn => exact fun _ => .nilFn
  | ptr h hv hc ha =>
    intro ρ' hle
    obtain ⟨l', h', e⟩ := hle _ _ h
    rcases e with rfl | ⟨_, hlt⟩
    · exact .ptr h' hv hc ha
    · exact .ptr h' (by omega) hc (fun e => by omega)
  | slc h hv hc ha =>
    intro ρ' hle
    obtain ⟨l', h', e⟩ := hle _ _ h
    rcases e with rfl | ⟨_, hlt⟩
    · exact .slc h' hv hc ha
    · exact .slc h' (by omega) hc (fun e => by omega)
  | yld h ha =>
    intro ρ' hle
    obtain ⟨l', h', e⟩ := hle _ _ h
    rcases e with rfl | ⟨ht, _⟩
    · exact .yld h' ha
    · rw [ha] at ht; cases ht
  | mp h ha =>
    intro ρ' hle
    obtain ⟨l', h', e⟩ := hle _ _ h
    rcases e with rfl | ⟨ht, _⟩
    · exact .mp h' ha
    · rw [ha] at ht; cases ht
  | eptr V hB hc h1 hv ih =>
    intro ρ' _
    exact .eptr V (hF _ hB) (fun j c hj => by rw [hk.cell hB]; exact hc j c hj) h1 (fun j c hj => ih j c hj (noMap_le _))
  | lst V hcap hfull hz hat h1 hv ih =>
    intro ρ' _
    refine .lst V hcap hfull hz ?_ h1 (fun i j cs c hi hj => ih i j cs c hi hj (noMap_le _))
    rcases hat with h0 | ⟨B, o, ha, hB, hc⟩
    · exact .inl h0
    · exact .inr ⟨B, o, ha, hF _ hB, fun i j cs c hi hj => by rw [hk.cell hB]; exact hc i j cs c hi hj⟩
  | agg hn h1 hv ih =>
    intro ρ' hle
    exact .agg hn h1 (fun j c v hj hv => ih j c v hj hv hle)
  | tup hn hv ih =>
    intro ρ' hle
    exact .tup hn (fun j c v hj hv => ih j c v hj hv hle)
  | fn hn hv ih =>
    intro ρ' hle
    exact .fn hn (fun j c v hj hv => ih j c v hj hv hle)
  | bfn hn hv ih =>
    intro ρ' hle
    exact .bfn hn (fun j c v hj hv => ih j c v hj hv hle)
def Map.cut (ρ : Map) (N : Nat) : Map := fun b => if b < N then ρ b else none
theorem Map.cut_le (ρ : Map) (N : Nat) : (ρ.cut N).le ρ := fun b l h => by
  unfold Map.cut at h
  split at h
  · exact ⟨l, h, .inl rfl⟩
  · cases h
theorem refsL_le {cs : List SV} {N : Nat} (h : SV.refs.refsL cs ≤ N) : ∀ (j : Nat) c, cs[j]? = some c → c.refs ≤ N := by
  induction cs with
  | nil => intro j c hj; simp at hj
  | cons x r ih =>
    intro j c hj
    simp only [SV.refs.refsL] at h
    cases j with
    | zero => simp at hj; subst hj; omega
    | succ j => simp at hj; exact ih (by omega) j c hj
theorem VR.cut {w : World} {F : Nat → Prop} {ρ : Map} {c : SV} {v : Value} (h : VR w F ρ c v) : ∀ N, c.refs ≤ N → VR w F (ρ.cut N) c v := by
  have at' : ∀ {ρ : Map} {b N : Nat} {l : Loc}, ρ b = some l → b + 1 ≤ N → ρ.cut N b = some l := fun h hb => by
    unfold Map.cut; rw [if_pos (by omega)]; exact h
  induction h with
  | undef v => exact fun _ _ => .undef v
  | skp => exact fun _ _ => .skp
  | bool b => exact fun _ _ => .bool b
  | int k n => exact fun _ _ => .int k n
  | str s => exact fun _ _ => .str s
  | nilPtr => exact fun _ _ => .nilPtr
  | nilFn => exact fun _ _ => .nilFn
  | ptr h hv hc ha => exact fun N hN => .ptr (at' h hN) hv hc ha
  | slc h hv hc ha => exact fun N hN => .slc (at' h hN) hv hc ha
  | yld h ha => exact fun N hN => .yld (at' h hN) ha
  | mp h ha => exact fun N hN => .mp (at' h hN) ha
  | eptr V hB hc h1 hv ih => exact fun N _ => .eptr V hB hc h1 hv
  | lst V hcap hfull hz hat h1 hv ih => exact fun N _ => .lst V hcap hfull hz hat h1 hv
  | agg hn h1 hv ih => exact fun N hN => .agg hn h1 (fun j c v hj hv => ih j c v hj hv N (refsL_le hN j c hj))
  | tup hn hv ih => exact fun N hN => .tup hn (fun j c v hj hv => ih j c v hj hv N (refsL_le hN j c hj))
  | fn hn hv ih => exact fun N hN => .fn hn (fun j c v hj hv => ih j c v hj hv N (refsL_le hN j c hj))
  | bfn hn hv ih => exact fun N hN => .bfn hn (fun j c v hj hv => ih j c v hj hv N (refsL_le hN j c hj))
def pendCode : SEx → Option Code
  | .normal => none
  | .exit id => some (.exit id)
  | .ret => some .ret
def ER (w : World) (F : Nat → Prop) (ρ : Map) (e : Env) (tmps : Array Value) : Prop := ∀ t, VR w F ρ (get e t) (tmps.getD t undef)
structure Ctx where
  P : Program
  pol : Pol
def Thawed (fz : Nat × Nat) (n : Nat) : Prop := ∀ o, o < n → (decide (fz.1 ≤ o) && decide (o < fz.2)) = false
def CellsR (w : World) (F : Nat → Prop) (ρ : Map) (vs : Array Value) (at_ : Nat) (cs : List SV) : Prop :=
  ∀ (j : Nat) c, cs[j]? = some c → ∃ v, vs[at_ + j]? = some v ∧ VR w F ρ c v ∧ c.ok1 = true
def MapR (w : World) (F : Nat → Prop) (ρ : Map) : List MapEntry → List (SV × SV) → Prop
  | [], [] => True
  | e :: en, (k, v) :: es => svV k = some e.key ∧ v.ok1 = true ∧ VR w F ρ v e.val ∧ MapR w F ρ en es
  | _, _ => False
def BR (C : Ctx) (w : World) (F : Nat → Prop) (ρ : Map) (l : Loc) : SBlk → Prop
  | .dead => True
  | .box cs => l.virt = false ∧ l.arr = false ∧ l.base = 0 ∧ l.ver = 0 ∧ l.esz = cs.length ∧ ∃ vs ty fz, w.heap[l.blk]? = some (.cells vs ty fz) ∧ Thawed fz vs.size ∧ vs.size = cs.length ∧ CellsR w F ρ vs 0 cs
  | .arr ver z L exact => l.arr = true ∧ l.ver = ver ∧ l.esz = z ∧ (∀ (i : Nat) cs, L[i]? = some cs → cs.length = z) ∧ L.length ≤ l.cap ∧ (exact = true → l.cap = L.length) ∧
      (l.virt = true → l.cap = 0) ∧
      (l.virt = false → ∃ vs ty fz, w.heap[l.blk]? = some (.cells vs ty fz) ∧ Thawed fz vs.size ∧ l.base + l.cap * z ≤ vs.size ∧
        ∀ (i : Nat) cs, L[i]? = some cs → CellsR w F ρ vs (l.base + i * z) cs)
  | .loop r st pend => l.virt = false ∧ l.arr = false ∧ ∃ q : Loop, w.heap[l.blk]? = some (.loop q) ∧ q.state = st ∧ q.pending = pendCode pend ∧ q.params.toList = r.ps ∧
      (∃ g nt, nt ≤ q.tmps.size ∧ (∀ t ∈ r.ps, t < nt) ∧ ccode C.P C.pol g nt q.assign = some r.assign ∧ ccode C.P C.pol g nt q.body = some r.body) ∧ ER w F ρ r.env q.tmps
  | .map es => l.virt = false ∧ l.arr = false ∧ ∃ (en : Array MapEntry) (cl : Nat), w.heap[l.blk]? = some (.map en cl) ∧ MapR w F ρ en.toList es
end Go.Sh
namespace Go.Sh
set_option linter.unusedSectionVars false
set_option linter.unnecessarySimpa false
set_option linter.unusedSimpArgs false
set_option linter.unusedVariables false
def SBlk.live : SBlk → Bool
  | .dead => false
  | _ => true
def Own (ρ : Map) (H : Heap) (b : Nat) (l : Loc) : Prop := (∃ x, H.bl[b]? = some x ∧ x.live = true) ∧ ρ b = some l ∧ l.virt = false
structure HR (C : Ctx) (ρ : Map) (F : Nat → Prop) (H : Heap) (w : World) : Prop where
  dom : ∀ b l, ρ b = some l → b < H.bl.length
  live : ∀ (b : Nat) x, H.bl[b]? = some x → x.live = true → ∃ l, ρ b = some l ∧ BR C w F ρ l x
  apart : ∀ b b' l l', Own ρ H b l → Own ρ H b' l' → l.blk = l'.blk → b = b'
  own : ∀ b l, Own ρ H b l → ¬ F l.blk ∧ l.blk < w.heap.size
  fro : ∀ B, F B → B < w.heap.size
def Clean (N : Nat) (es : List (Nat × Nat)) : Prop := ∀ p ∈ es, ¬ (p.1 < N ∧ N < p.2)
def InvAt (C : Ctx) (N : Nat) (ρ : Map) (F : Nat → Prop) (H : Heap) (w : World) : Prop := ∀ b x l, b < N → H.bl[b]? = some x → x.live = true → ρ b = some l → BR C w F (ρ.cut N) l x
structure Ext0 (C : Ctx) (ρ : Map) (F : Nat → Prop) (H : Heap) (w : World) (ρ' : Map) (F' : Nat → Prop) (H' : Heap) (w' : World) : Prop where
  map : ∀ b l, ρ b = some l → ∃ l', ρ' b = some l' ∧ (l' = l ∨ (H.ro ≤ b ∧ l.arr = true ∧ l.ver < l'.ver))
  fro : ∀ B, F B → F' B
  new : ∀ B, F' B → F B ∨ w.heap.size ≤ B ∨ ∃ b l, Own ρ H b l ∧ H.ro ≤ b ∧ l.blk = B
  frame : ∀ B, B < w.heap.size → (∀ b l, Own ρ H b l → H.ro ≤ b → l.blk ≠ B) → w'.heap[B]? = w.heap[B]?
  size : w.heap.size ≤ w'.heap.size
  old : ∀ b l', Own ρ' H' b l' → w.heap.size ≤ l'.blk ∨ ∃ l, Own ρ H b l ∧ l.blk = l'.blk
  ro : H'.ro = H.ro
  esc : ∀ p ∈ H.esc, p ∈ H'.esc
  inv : ∀ N, N ≤ H'.bl.length → Clean N H'.esc → (N ≤ H.bl.length → InvAt C N ρ F H w) → InvAt C N ρ' F' H' w'
  lp : ∀ (B : Nat) (q : Loop), w.heap[B]? = some (.loop q) → ∃ q' : Loop, w'.heap[B]? = some (.loop q')
  ln : H.bl.length ≤ H'.bl.length
  out : w'.os = w.os ∧ w'.output = w.output
structure Ext (C : Ctx) (ρ : Map) (F : Nat → Prop) (H : Heap) (w : World) (ρ' : Map) (F' : Nat → Prop) (H' : Heap) (w' : World) : Prop extends Ext0 C ρ F H w ρ' F' H' w' where
  nd : ∀ b l', ρ' b = some l' → (∃ l, ρ b = some l) ∨ H.bl.length ≤ b
section
variable {C : Ctx} {ρ ρ' ρ'' : Map} {F F' F'' : Nat → Prop} {H H' H'' : Heap} {w w' w'' : World}
theorem Ext.refl (ρ : Map) (F : Nat → Prop) (H : Heap) (w : World) : Ext C ρ F H w ρ F H w :=
  ⟨⟨fun _ l h => ⟨l, h, .inl rfl⟩, fun _ h => h, fun _ h => .inl h, fun _ _ _ => rfl, Nat.le_refl _, fun _ l h => .inr ⟨l, h, rfl⟩, rfl, fun _ h => h, fun N hN _ h => h hN, fun _ q h => ⟨q, h⟩, Nat.le_refl _, ⟨rfl, rfl⟩⟩, fun _ l h => .inl ⟨l, h⟩⟩
theorem Ext0.trans (h : Ext0 C ρ F H w ρ' F' H' w') (h' : Ext0 C ρ' F' H' w' ρ'' F'' H'' w'') : Ext0 C ρ F H w ρ'' F'' H'' w'' where
  map := fun b l hl => by
    obtain ⟨l1, h1, e1⟩ := h.map b l hl
    obtain ⟨l2, h2, e2⟩ := h'.map b l1 h1
    refine ⟨l2, h2, ?_⟩
    rcases e1 with rfl | ⟨r1, a1, v1⟩
    · rcases e2 with rfl | ⟨r2, a2, v2⟩
      · exact .inl rfl
      · exact .inr ⟨h.ro ▸ r2, a2, v2⟩
    · rcases e2 with rfl | ⟨_, _, v2⟩
      · exact .inr ⟨r1, a1, v1⟩
      · exact .inr ⟨r1, a1, by omega⟩
  fro := fun B hB => h'.fro B (h.fro B hB)
  new := fun B hB => by
    rcases h'.new B hB with h1 | h1 | ⟨b, l, ho, hr, rfl⟩
    · exact h.new B h1
    · exact .inr (.inl (Nat.le_trans h.size h1))
    · rcases h.old b l ho with h2 | ⟨l0, h2, e2⟩
      · exact .inr (.inl h2)
      · exact .inr (.inr ⟨b, l0, h2, h.ro ▸ hr, e2⟩)
  frame := fun B hB hno => by
    rw [h'.frame B (Nat.lt_of_lt_of_le hB h.size) (fun b l ho hr e => ?_), h.frame B hB hno]
    rcases h.old b l ho with h2 | ⟨l0, h2, e2⟩
    · omega
    · exact hno b l0 h2 (h.ro ▸ hr) (e2.trans e)
  size := Nat.le_trans h.size h'.size
  old := fun b l ho => by
    rcases h'.old b l ho with h1 | ⟨l1, h1, e1⟩
    · exact .inl (Nat.le_trans h.size h1)
    · rcases h.old b l1 h1 with h2 | ⟨l0, h2, e2⟩
      · exact .inl (e1 ▸ h2)
      · exact .inr ⟨l0, h2, e2.trans e1⟩
  ro := h'.ro.trans h.ro
  esc := fun p hp => h'.esc p (h.esc p hp)
  inv := fun N hN hc h0 => h'.inv N hN hc (fun hN' => h.inv N hN' (fun p hp => hc p (h'.esc p hp)) h0)
  lp := fun B q hq => let ⟨q1, h1⟩ := h.lp B q hq; h'.lp B q1 h1
  ln := Nat.le_trans h.ln h'.ln
  out := ⟨h'.out.1.trans h.out.1, h'.out.2.trans h.out.2⟩
theorem Ext.trans (h : Ext C ρ F H w ρ' F' H' w') (h' : Ext C ρ' F' H' w' ρ'' F'' H'' w'') : Ext C ρ F H w ρ'' F'' H'' w'' :=
  ⟨h.toExt0.trans h'.toExt0, fun b l hl => by
    rcases h'.nd b l hl with ⟨l1, h1⟩ | h1
    · exact h.nd b l1 h1
    · exact .inr (Nat.le_trans h.ln h1)⟩
theorem Ext0.le (h : Ext0 C ρ F H w ρ' F' H' w') : ρ.le ρ' := fun b l hl => by
  obtain ⟨l', h1, e⟩ := h.map b l hl
  exact ⟨l', h1, e.imp id (fun ⟨_, a, v⟩ => ⟨a, v⟩)⟩
theorem Ext0.keeps (h : Ext0 C ρ F H w ρ' F' H' w') (hr : HR C ρ F H w) : Keeps F w w' := fun B hB =>
  h.frame B (hr.fro B hB) (fun b l ho _ e => (hr.own b l ho).1 (e ▸ hB))
theorem Ext0.vr (h : Ext0 C ρ F H w ρ' F' H' w') (hr : HR C ρ F H w) {c : SV} {v : Value} (hv : VR w F ρ c v) : VR w' F' ρ' c v :=
  hv.mono (h.keeps hr) h.fro h.le
theorem Ext0.er (h : Ext0 C ρ F H w ρ' F' H' w') (hr : HR C ρ F H w) {e : Env} {t : Array Value} (hv : ER w F ρ e t) : ER w' F' ρ' e t :=
  fun i => h.vr hr (hv i)
theorem CellsR.mono (hk : Keeps F w w') (hF : ∀ B, F B → F' B) (hle : ρ.le ρ') {vs : Array Value} {n : Nat} {cs : List SV} (h : CellsR w F ρ vs n cs) : CellsR w' F' ρ' vs n cs :=
  fun j c hj => let ⟨v, hv, hr, h1⟩ := h j c hj; ⟨v, hv, hr.mono hk hF hle, h1⟩
theorem MapR.mono (hk : Keeps F w w') (hF : ∀ B, F B → F' B) (hle : ρ.le ρ') : ∀ {en : List MapEntry} {es : List (SV × SV)}, MapR w F ρ en es → MapR w' F' ρ' en es
  | [], [], _ => trivial
  | _ :: _, (_, _) :: _, ⟨h1, h2, h3, h4⟩ => ⟨h1, h2, h3.mono hk hF hle, MapR.mono hk hF hle h4⟩
  | [], _ :: _, h => h.elim
  | _ :: _, [], h => h.elim
theorem BR.mono (hk : Keeps F w w') (hF : ∀ B, F B → F' B) (hle : ρ.le ρ') {l : Loc} {x : SBlk} (hb : l.virt = false → w'.heap[l.blk]? = w.heap[l.blk]?)
    (h : BR C w F ρ l x) : BR C w' F' ρ' l x := by
  cases x with
  | dead => trivial
  | box cs =>
    obtain ⟨h1, h2, h3, h4, h5, vs, ty, fz, h6, h7, h8, h9⟩ := h
    exact ⟨h1, h2, h3, h4, h5, vs, ty, fz, (hb h1).trans h6, h7, h8, h9.mono hk hF hle⟩
  | arr ver z L exact' =>
    obtain ⟨h1, h2, h3, h4, h5, h6, h7, h8⟩ := h
    refine ⟨h1, h2, h3, h4, h5, h6, h7, fun hv => ?_⟩
    obtain ⟨vs, ty, fz, a, b, c, d⟩ := h8 hv
    exact ⟨vs, ty, fz, (hb hv).trans a, b, c, fun i cs hi => (d i cs hi).mono hk hF hle⟩
  | loop r st pend =>
    obtain ⟨h1, h2, q, h3, h4, h5, h6, h7, h8⟩ := h
    exact ⟨h1, h2, q, (hb h1).trans h3, h4, h5, h6, h7, fun t => (h8 t).mono hk hF hle⟩
  | map es =>
    obtain ⟨h1, h2, en, cl, h3, h4⟩ := h
    exact ⟨h1, h2, en, cl, (hb h1).trans h3, h4.mono hk hF hle⟩
theorem HR.same (hr : HR C ρ F H w) (hs : w.heap.size ≤ w'.heap.size) (hh : ∀ B, B < w.heap.size → w'.heap[B]? = w.heap[B]?) (hout : w'.os = w.os ∧ w'.output = w.output := by exact ⟨rfl, rfl⟩) : HR C ρ F H w' ∧ Ext C ρ F H w ρ F H w' := by
  have hk : Keeps F w w' := fun B hB => hh B (hr.fro B hB)
  refine ⟨⟨hr.dom, fun b x hb hx => ?_, hr.apart, fun b l ho => ⟨(hr.own b l ho).1, Nat.lt_of_lt_of_le (hr.own b l ho).2 hs⟩, fun B hB => Nat.lt_of_lt_of_le (hr.fro B hB) hs⟩, ?_⟩
  · obtain ⟨l, hl, hbr⟩ := hr.live b x hb hx
    exact ⟨l, hl, hbr.mono hk (fun _ h => h) (Map.le_refl _) (fun hv => hh _ (hr.own b l ⟨⟨x, hb, hx⟩, hl, hv⟩).2)⟩
  · refine ⟨⟨fun _ l h => ⟨l, h, .inl rfl⟩, fun _ h => h, fun _ h => .inl h, fun B hB _ => hh B hB, hs, fun _ l h => .inr ⟨l, h, rfl⟩, rfl, fun _ h => h, fun N hN _ h0 b x l hb hx hxl hl => ?_, fun B q hq => ⟨q, (hh B (Array.getElem?_eq_some_iff.1 hq).1).trans hq⟩, Nat.le_refl _, hout⟩, fun _ l h => .inl ⟨l, h⟩⟩
    exact (h0 hN b x l hb hx hxl hl).mono hk (fun _ h => h) (Map.le_refl _) (fun hv => hh _ (hr.own b l ⟨⟨x, hx, hxl⟩, hl, hv⟩).2)
def Map.put (ρ : Map) (b : Nat) (l : Loc) : Map := fun b' => if b' = b then some l else ρ b'
theorem Map.put_same (ρ : Map) (b : Nat) (l : Loc) : ρ.put b l b = some l := by simp [Map.put]
theorem Map.put_other (ρ : Map) {b b' : Nat} (l : Loc) (h : b' ≠ b) : ρ.put b l b' = ρ b' := by simp [Map.put, h]
theorem HR.push (hr : HR C ρ F H w) (hs : w.heap.size ≤ w'.heap.size) (hh : ∀ B, B < w.heap.size → w'.heap[B]? = w.heap[B]?)
    (x : SBlk) (l : Loc) (hl : l.virt = false → w.heap.size ≤ l.blk ∧ l.blk < w'.heap.size) (hx : BR C w' F (ρ.put H.bl.length l) l x) (hout : w'.os = w.os ∧ w'.output = w.output := by exact ⟨rfl, rfl⟩) :
    HR C (ρ.put H.bl.length l) F (hnew H x) w' ∧ Ext C ρ F H w (ρ.put H.bl.length l) F (hnew H x) w' := by
  have hne : ∀ b l', ρ b = some l' → b ≠ H.bl.length := fun b l' h => Nat.ne_of_lt (hr.dom b l' h)
  have hle : ρ.le (ρ.put H.bl.length l) := fun b l' h => ⟨l', by rw [Map.put_other _ _ (hne b l' h)]; exact h, .inl rfl⟩
  have hk : Keeps F w w' := fun B hB => hh B (hr.fro B hB)
  have hown : ∀ b l', Own (ρ.put H.bl.length l) (hnew H x) b l' → (b = H.bl.length ∧ l' = l) ∨ Own ρ H b l' := by
    intro b l' ⟨⟨y, hy, hyl⟩, hm, hv⟩
    by_cases hb : b = H.bl.length
    · subst hb
      rw [Map.put_same] at hm
      exact .inl ⟨rfl, by cases hm; rfl⟩
    · rw [Map.put_other _ _ hb] at hm
      refine .inr ⟨⟨y, ?_, hyl⟩, hm, hv⟩
      have hlt := hr.dom b l' hm
      simpa [hnew, List.getElem?_append_left hlt] using hy
  refine ⟨⟨fun b l' h => ?_, fun b y hb hy => ?_, fun b b' l1 l2 h1 h2 he => ?_, fun b l' ho => ?_, fun B hB => Nat.lt_of_lt_of_le (hr.fro B hB) hs⟩, ?_⟩
  · by_cases hb : b = H.bl.length
    · subst hb; simp [hnew]
    · rw [Map.put_other _ _ hb] at h
      have := hr.dom b l' h
      simp [hnew]; omega
  · by_cases hb' : b = H.bl.length
    · subst hb'
      simp [hnew] at hb
      subst hb
      exact ⟨l, Map.put_same _ _ _, hx⟩
    · have hlt : b < H.bl.length := by
        have := (List.getElem?_eq_some_iff.1 hb).1
        simp [hnew] at this; omega
      rw [hnew, List.getElem?_append_left hlt] at hb
      obtain ⟨l', hl', hbr⟩ := hr.live b y hb hy
      exact ⟨l', by rw [Map.put_other _ _ hb']; exact hl', hbr.mono hk (fun _ h => h) hle (fun hv => hh _ (hr.own b l' ⟨⟨y, hb, hy⟩, hl', hv⟩).2)⟩
  · rcases hown b l1 h1 with ⟨e1, f1⟩ | o1 <;> rcases hown b' l2 h2 with ⟨e2, f2⟩ | o2
    · rw [e1, e2]
    · subst f1
      have := (hr.own b' l2 o2).2
      have := (hl h1.2.2).1
      omega
    · subst f2
      have := (hr.own b l1 o1).2
      have := (hl h2.2.2).1
      omega
    · exact hr.apart b b' l1 l2 o1 o2 he
  · rcases hown b l' ho with ⟨_, f1⟩ | o1
    · subst f1
      have h1 := hl ho.2.2
      exact ⟨fun hF => by have := hr.fro _ hF; omega, h1.2⟩
    · have h1 := hr.own b l' o1
      exact ⟨h1.1, Nat.lt_of_lt_of_le h1.2 hs⟩
  · refine ⟨⟨fun b l' h => ⟨l', by rw [Map.put_other _ _ (hne b l' h)]; exact h, .inl rfl⟩, fun _ h => h, fun _ h => .inl h, fun B hB _ => hh B hB, hs, fun b l' ho => ?_, rfl, fun _ h => h, fun N hN _ h0 b y l' hb hy hyl hm => ?_, fun B q hq => ⟨q, (hh B (Array.getElem?_eq_some_iff.1 hq).1).trans hq⟩, by simp [hnew], hout⟩, fun b l' h => ?_⟩
    · rcases hown b l' ho with ⟨_, f1⟩ | o1
      · subst f1; exact .inl (hl ho.2.2).1
      · exact .inr ⟨l', o1, rfl⟩
    · have hN' : N ≤ H.bl.length + 1 := by simpa [hnew] using hN
      by_cases hb' : b = H.bl.length
      · subst hb'
        rw [Map.put_same] at hm; cases hm
        simp [hnew] at hy
        subst hy
        refine hx.mono (fun _ _ => rfl) (fun _ h => h) (fun b1 l1 h1 => ⟨l1, ?_, .inl rfl⟩) (fun _ => rfl)
        have : b1 < N := by
          by_cases e : b1 = H.bl.length
          · omega
          · rw [Map.put_other _ _ e] at h1
            have := hr.dom b1 l1 h1
            omega
        simp [Map.cut, this, h1]
      · have hlt : b < H.bl.length := by omega
        rw [Map.put_other _ _ hb'] at hm
        rw [hnew, List.getElem?_append_left hlt] at hy
        have hsm := fun hv => hh l'.blk (hr.own b l' ⟨⟨y, hy, hyl⟩, hm, hv⟩).2
        by_cases hNl : N ≤ H.bl.length
        · refine (h0 hNl b y l' hb hy hyl hm).mono hk (fun _ h => h) (fun b1 l1 h1 => ⟨l1, ?_, .inl rfl⟩) hsm
          unfold Map.cut at h1 ⊢
          split at h1
          · rename_i h2; rw [if_pos h2, Map.put_other _ _ (by omega)]; exact h1
          · cases h1
        · obtain ⟨l2, h2, hbr⟩ := hr.live b y hy hyl
          rw [hm] at h2; cases h2
          refine hbr.mono hk (fun _ h => h) (fun b1 l1 h1 => ⟨l1, ?_, .inl rfl⟩) hsm
          have := hr.dom b1 l1 h1
          unfold Map.cut
          rw [if_pos (by omega), Map.put_other _ _ (by omega)]; exact h1
    · by_cases hb' : b = H.bl.length
      · exact .inr (by omega)
      · rw [Map.put_other _ _ hb'] at h; exact .inl ⟨l', h⟩
theorem HR.set (hr : HR C ρ F H w) {b : Nat} {x y : SBlk} {l l' : Loc} {refs : Nat} (hH : hset H b y refs = some H') (hb : H.bl[b]? = some x) (hx : x.live = true) (hl : ρ b = some l)
    (hs : w.heap.size ≤ w'.heap.size) (hh : ∀ B, B < w.heap.size → (l.virt = false → B ≠ l.blk) → w'.heap[B]? = w.heap[B]?)
    (hl' : l'.virt = false → (l.virt = false ∧ l'.blk = l.blk) ∨ (w.heap.size ≤ l'.blk ∧ l'.blk < w'.heap.size))
    (hver : l' = l ∨ (l.arr = true ∧ l.ver < l'.ver))
    (hy : y.live = true → BR C w' F (ρ.put b l') l' y) (hcut : y.live = true → ∀ N, refs ≤ N → b < N → BR C w F (ρ.cut N) l x → BR C w' F ((ρ.put b l').cut N) l' y)
    (hlk : (∃ r st p, x = .loop r st p) → ∃ r st p, y = .loop r st p := by (rintro ⟨_, _, _, h⟩; cases h)) (hout : w'.os = w.os ∧ w'.output = w.output := by exact ⟨rfl, rfl⟩) :
    HR C (ρ.put b l') F H' w' ∧ Ext C ρ F H w (ρ.put b l') F H' w' := by
  have hro : H.ro ≤ b ∧ b < H.bl.length ∧ H'.bl = H.bl.set b y ∧ H'.ro = H.ro ∧ H'.esc = (bif decide (refs ≤ b + 1) then H.esc else (b, refs) :: H.esc) := by
    unfold hset at hH
    by_cases h : (decide (H.ro ≤ b) && decide (b < H.bl.length)) = true
    · rw [h] at hH
      simp at h
      simp only [cond_true, Option.some.injEq] at hH
      subst hH
      exact ⟨h.1, h.2, rfl, rfl, rfl⟩
    · rw [Bool.not_eq_true] at h; rw [h] at hH; simp at hH
  obtain ⟨hro, hlt, hbl, hroe, hesc⟩ := hro
  have hle : ρ.le (ρ.put b l') := fun b' l1 h => by
    by_cases e : b' = b
    · subst e; rw [hl] at h; cases h; exact ⟨l', Map.put_same _ _ _, hver⟩
    · exact ⟨l1, by rw [Map.put_other _ _ e]; exact h, .inl rfl⟩
  have hbo : l.virt = false → Own ρ H b l := fun hv => ⟨⟨x, hb, hx⟩, hl, hv⟩
  have hk : Keeps F w w' := fun B hB => hh B (hr.fro B hB) (fun hv e => (hr.own b l (hbo hv)).1 (e ▸ hB))
  have hget : ∀ b', b' ≠ b → H'.bl[b']? = H.bl[b']? := fun b' e => by rw [hbl, List.getElem?_set_ne (Ne.symm e)]
  have hgetb : H'.bl[b]? = some y := by rw [hbl]; simp [hlt]
  have hown : ∀ b' l1, Own (ρ.put b l') H' b' l1 → (b' = b ∧ l1 = l' ∧ y.live = true) ∨ (b' ≠ b ∧ Own ρ H b' l1) := by
    intro b' l1 ⟨⟨z, hz, hzl⟩, hm, hv⟩
    by_cases e : b' = b
    · subst e
      rw [Map.put_same] at hm; cases hm
      rw [hgetb] at hz; cases hz
      exact .inl ⟨rfl, rfl, hzl⟩
    · rw [Map.put_other _ _ e] at hm
      rw [hget b' e] at hz
      exact .inr ⟨e, ⟨z, hz, hzl⟩, hm, hv⟩
  have hsame : ∀ b' l1, b' ≠ b → Own ρ H b' l1 → w'.heap[l1.blk]? = w.heap[l1.blk]? := fun b' l1 e ho =>
    hh _ (hr.own b' l1 ho).2 (fun hv h => e (hr.apart b' b l1 l ho (hbo hv) h))
  refine ⟨⟨fun b' l1 h => ?_, fun b' z hz hzl => ?_, fun b1 b2 l1 l2 h1 h2 he => ?_, fun b' l1 ho => ?_, fun B hB => Nat.lt_of_lt_of_le (hr.fro B hB) hs⟩, ?_⟩
  · rw [hbl, List.length_set]
    by_cases e : b' = b
    · subst e; exact hlt
    · rw [Map.put_other _ _ e] at h; exact hr.dom b' l1 h
  · by_cases e : b' = b
    · subst e
      rw [hgetb] at hz; cases hz
      exact ⟨l', Map.put_same _ _ _, hy hzl⟩
    · rw [hget b' e] at hz
      obtain ⟨l1, hl1, hbr⟩ := hr.live b' z hz hzl
      exact ⟨l1, by rw [Map.put_other _ _ e]; exact hl1, hbr.mono hk (fun _ h => h) hle (fun hv => hsame b' l1 e ⟨⟨z, hz, hzl⟩, hl1, hv⟩)⟩
  · rcases hown b1 l1 h1 with ⟨e1, f1, _⟩ | ⟨e1, o1⟩ <;> rcases hown b2 l2 h2 with ⟨e2, f2, _⟩ | ⟨e2, o2⟩
    · rw [e1, e2]
    · subst f1
      rcases hl' h1.2.2 with ⟨hv, hq⟩ | hq
      · exact absurd (hr.apart b2 b l2 l o2 (hbo hv) (by rw [← he, hq])) e2
      · have := (hr.own b2 l2 o2).2; omega
    · subst f2
      rcases hl' h2.2.2 with ⟨hv, hq⟩ | hq
      · exact absurd (hr.apart b1 b l1 l o1 (hbo hv) (by rw [he, hq])) e1
      · have := (hr.own b1 l1 o1).2; omega
    · exact hr.apart b1 b2 l1 l2 o1 o2 he
  · rcases hown b' l1 ho with ⟨_, f1, _⟩ | ⟨_, o1⟩
    · subst f1
      rcases hl' ho.2.2 with ⟨hv, hq⟩ | hq
      · have := hr.own b l (hbo hv)
        exact ⟨hq ▸ this.1, hq ▸ Nat.lt_of_lt_of_le this.2 hs⟩
      · exact ⟨fun hF => by have := hr.fro _ hF; omega, hq.2⟩
    · have := hr.own b' l1 o1
      exact ⟨this.1, Nat.lt_of_lt_of_le this.2 hs⟩
  · refine ⟨⟨fun b' l1 h => ?_, fun _ h => h, fun _ h => .inl h, fun B hB hno => hh B hB (fun hv e => hno b l (hbo hv) hro e.symm), hs, fun b' l1 ho => ?_, hroe, fun p hp => ?_, fun N hN hc h0 b' z l1 hb1 hz hzl hm => ?_, fun B q hq => ?_, by rw [hbl, List.length_set]; exact Nat.le_refl _, hout⟩, fun b' l1 h => ?_⟩
    · by_cases e : b' = b
      · subst e; rw [hl] at h; cases h
        exact ⟨l', Map.put_same _ _ _, hver.imp id (fun ⟨a, v⟩ => ⟨hro, a, v⟩)⟩
      · exact ⟨l1, by rw [Map.put_other _ _ e]; exact h, .inl rfl⟩
    · rcases hown b' l1 ho with ⟨e1, f1, _⟩ | ⟨e1, o1⟩
      · subst f1; subst e1
        rcases hl' ho.2.2 with ⟨hv, hq⟩ | hq
        · exact .inr ⟨l, hbo hv, hq.symm⟩
        · exact .inl hq.1
      · exact .inr ⟨l1, o1, rfl⟩
    · rw [hesc]
      cases decide (refs ≤ b + 1) with
      | true => exact hp
      | false => exact List.mem_cons_of_mem _ hp
    · have hN' : N ≤ H.bl.length := by rw [hbl, List.length_set] at hN; exact hN
      by_cases e : b' = b
      · subst e
        rw [hgetb] at hz; cases hz
        rw [Map.put_same] at hm; cases hm
        refine hcut hzl N ?_ hb1 (h0 hN' b' x l hb1 hb hx hl)
        by_cases hd : refs ≤ b' + 1
        · omega
        · have : (b', refs) ∈ H'.esc := by
            rw [hesc]; simp [hd]
          have := hc _ this
          simp only at this
          omega
      · rw [hget b' e] at hz
        rw [Map.put_other _ _ e] at hm
        refine (h0 hN' b' z l1 hb1 hz hzl hm).mono hk (fun _ h => h) (fun b1 l2 h1 => ?_) (fun hv => hsame b' l1 e ⟨⟨z, hz, hzl⟩, hm, hv⟩)
        unfold Map.cut at h1 ⊢
        split at h1
        · rename_i h2
          rw [if_pos h2]
          by_cases e1 : b1 = b
          · subst e1; rw [hl] at h1; cases h1; exact ⟨l', Map.put_same _ _ _, hver⟩
          · exact ⟨l2, by rw [Map.put_other _ _ e1]; exact h1, .inl rfl⟩
        · cases h1
    · have hB := (Array.getElem?_eq_some_iff.1 hq).1
      by_cases hbl : l.virt = false ∧ B = l.blk
      · obtain ⟨hv, rfl⟩ := hbl
        obtain ⟨l1, hl1, hbr⟩ := hr.live b x hb hx
        rw [hl] at hl1; cases hl1
        cases x with
        | dead => cases hx
        | box cs => obtain ⟨_, _, _, _, _, vs, ty, fz, h6, _⟩ := hbr; rw [hq] at h6; cases h6
        | arr ver z L ex =>
          obtain ⟨_, _, _, _, _, _, _, h8⟩ := hbr
          obtain ⟨vs, ty, fz, h6, _⟩ := h8 hv
          rw [hq] at h6; cases h6
        | map es => obtain ⟨_, _, en, cl, h6, _⟩ := hbr; rw [hq] at h6; cases h6
        | loop r st p =>
          obtain ⟨r', st', p', rfl⟩ := hlk ⟨r, st, p, rfl⟩
          obtain ⟨_, ha, _⟩ := hbr
          have : l' = l := by
            rcases hver with e | ⟨e, _⟩
            · exact e
            · rw [ha] at e; cases e
          subst this
          obtain ⟨_, _, q', h3, _⟩ := hy rfl
          exact ⟨q', h3⟩
      · exact ⟨q, (hh B hB (fun hv e => hbl ⟨hv, e⟩)).trans hq⟩
    · by_cases e : b' = b
      · subst e; exact .inl ⟨l, hl⟩
      · rw [Map.put_other _ _ e] at h; exact .inl ⟨l1, h⟩
end
end Go.Sh
namespace Go.Sh
set_option linter.unusedSectionVars false
set_option linter.unnecessarySimpa false
set_option linter.unusedVariables false
set_option linter.unusedSimpArgs false
section
variable {C : Ctx} {ρ : Map} {F : Nat → Prop} {H H' : Heap} {w w' : World} {e : Env} {a : Act}
theorem bif_some {A : Type} {c : Bool} {x : Option A} {y : A} (h : (bif c then x else none) = some y) : c = true ∧ x = some y := by
  cases c with
  | true => exact ⟨rfl, h⟩
  | false => cases h
theorem allS_some {A : Type} {l : List (Option A)} {r : List A} (h : allS l = some r) : l = r.map some := by
  induction l generalizing r with
  | nil => simp [allS] at h; subst h; rfl
  | cons x l ih =>
    cases x with
    | none => simp [allS] at h
    | some x =>
      simp only [allS, Option.map_eq_some_iff] at h
      obtain ⟨r', h1, rfl⟩ := h
      rw [ih h1]; rfl
theorem allS_map {A B : Type} {f : A → Option B} {l : List A} {r : List B} (h : allS (l.map f) = some r) :
    r.length = l.length ∧ ∀ (j : Nat) x y, l[j]? = some x → r[j]? = some y → f x = some y := by
  have h1 := allS_some h
  have hl : r.length = l.length := by have := congrArg List.length h1; simpa using this.symm
  refine ⟨hl, fun j x y hx hy => ?_⟩
  have h2 := congrArg (·[j]?) h1
  simp [hx, hy] at h2
  exact h2
theorem cval_vr : ∀ (d : Nat) {v : Value} {s : SV}, cval d v = some s → VR w F ρ s v := by
  intro d
  induction d with
  | zero => intro v s h; simp [cval] at h
  | succ d ih =>
    intro v s h
    unfold cval at h
    split at h
    · cases h; exact .bool _
    · cases h; exact .int _ _
    · cases h; exact .str _
    · cases h; exact .nilPtr
    · cases h
      exact VR.lst (L := []) (fun _ _ => undef) (Nat.le_refl _) (fun _ => rfl) (by simp) (.inl rfl) (by simp) (by simp)
    · cases h; exact .nilFn
    · rename_i cs
      simp only [Option.bind_eq_some_iff] at h
      obtain ⟨r, h1, h2⟩ := h
      by_cases hok : r.all SV.ok1 = true
      · rw [hok] at h2
        simp only [cond_true, Option.some.injEq] at h2
        subst h2
        obtain ⟨hl, hp⟩ := allS_map h1
        refine .agg (by simpa using hl) (fun j c hj => ?_) (fun j c v hj hv => ih (hp j v c (by simpa using hv) hj))
        exact List.all_eq_true.1 hok c (List.mem_of_getElem? hj)
      · rw [Bool.not_eq_true] at hok; rw [hok] at h2; simp at h2
    · cases h
theorem copd_vr {x : Operand} {y : Opd} (h : copd x = some y) (he : ER w F ρ e a.tmps) : VR w F ρ (ev e y) (a.eval x) := by
  unfold copd at h
  split at h
  · cases h; exact he _
  · simp only [Option.map_eq_some_iff] at h
    obtain ⟨s, h1, rfl⟩ := h
    exact cval_vr 2 h1
  · cases h
    exact .fn rfl (by simp)
  · cases h
theorem copds_vr {xs : Array Operand} {ys : List Opd} (h : copds xs = some ys) (he : ER w F ρ e a.tmps) :
    (ys.map (ev e)).length = xs.size ∧ ∀ (j : Nat) c v, (ys.map (ev e))[j]? = some c → (xs.map a.eval)[j]? = some v → VR w F ρ c v := by
  obtain ⟨hl, hp⟩ := allS_map h
  refine ⟨by simpa using hl, fun j c v hc hv => ?_⟩
  simp at hc hv
  obtain ⟨y, hy, rfl⟩ := hc
  obtain ⟨x, hx, rfl⟩ := hv
  exact copd_vr (hp j x y (by simpa using hx) hy) he
def Done (C : Ctx) (ρ : Map) (F : Nat → Prop) (H : Heap) (w : World) (v : SV) (H' : Heap) (val : Value) (w' : World) : Prop :=
  ∃ ρ' F', VR w' F' ρ' v val ∧ HR C ρ' F' H' w' ∧ Ext C ρ F H w ρ' F' H' w'
theorem Done.same (hr : HR C ρ F H w) {v : SV} {val : Value} (hv : VR w F ρ v val) : Done C ρ F H w v H val w := ⟨ρ, F, hv, hr, Ext.refl _ _ _ _⟩
def Yields1 (P : Program) (w : World) (s : Sem Next) (val : Value) (w' : World) : Prop := s.run P w = .ok (.value val) w' ∨ (s.run P w = .ok .skip w' ∧ val = undef)
def OpOK (C : Ctx) (s : Sem Next) (ρ : Map) (F : Nat → Prop) (H : Heap) (w : World) (v : SV) (H' : Heap) : Prop :=
  ∃ val w', Yields1 C.P w s val w' ∧ Done C ρ F H w v H' val w'
theorem OpOK.val {s : Sem Value} (hr : HR C ρ F H w) {v : SV} {val : Value} (hs : s.run C.P w = .ok val w) (hv : VR w F ρ v val) :
    OpOK C (do pure (.value (← s))) ρ F H w v H :=
  ⟨val, w, .inl (by simp [hs, pure, Sem.run]), Done.same hr hv⟩
theorem OpOK.valD {s : Sem Value} {v : SV} {val : Value} (hs : s.run C.P w = .ok val w') (hd : Done C ρ F H w v H' val w') :
    OpOK C (do pure (.value (← s))) ρ F H w v H' :=
  ⟨val, w', .inl (by simp [hs, pure, Sem.run]), hd⟩
theorem vr_agg_cells {cs : List SV} {v : Value} (h : VR w F ρ (.agg cs) v) : ∃ vs, v = .agg vs ∧ cs.length = vs.size ∧ CellsR w F ρ vs 0 cs := by
  cases h with
  | agg hn h1 hv =>
    rename_i vs
    refine ⟨vs, rfl, hn, fun j c hj => ?_⟩
    have hlt := (List.getElem?_eq_some_iff.1 hj).1
    have hv' : vs[j]? = some vs[j] := Array.getElem?_eq_getElem (by omega)
    exact ⟨vs[j], by simpa using hv', hv j c _ hj hv', h1 j c hj⟩
theorem cells1_vr {c : SV} {cs : List SV} {v : Value} (h : cells1 c = some cs) (hv : VR w F ρ c v) : cs.length = v.cells.size ∧ CellsR w F ρ v.cells 0 cs ∧ c.refs = SV.refs.refsL cs := by
  unfold cells1 at h
  split at h
  · cases h
    obtain ⟨vs, rfl, h1, h2⟩ := vr_agg_cells hv
    exact ⟨h1, h2, rfl⟩
  · rename_i hna
    by_cases hok : c.ok1 = true
    · rw [hok] at h
      simp only [cond_true, Option.some.injEq] at h
      subst h
      have h1 := hv.one hok
      have hc : v.cells = #[v] := by cases v <;> simp_all [Value.cells, one1]
      rw [hc]
      refine ⟨rfl, fun j d hj => ?_, by simp [SV.refs.refsL]⟩
      cases j with
      | zero => simp at hj; subst hj; exact ⟨v, rfl, hv, hok⟩
      | succ j => simp at hj
    · rw [Bool.not_eq_true] at hok; rw [hok] at h; simp at h
theorem part1_vr {ag : Bool} {n o at_ : Nat} {cs : List SV} {s : SV} {vs : Array Value} (h : part1 ag n cs o = some s) (hc : CellsR w F ρ vs at_ cs)
    (hsz : at_ + cs.length ≤ vs.size) : (ag = true → VR w F ρ s (.agg (vs.extract (at_ + o) (at_ + o + n)))) ∧ (ag = false → ∃ v, vs[at_ + o]? = some v ∧ VR w F ρ s v) := by
  unfold part1 at h
  cases ag with
  | false =>
    refine ⟨by simp, fun _ => ?_⟩
    simp only [cond_false] at h
    obtain ⟨v, h1, h2, _⟩ := hc o s h
    exact ⟨v, h1, h2⟩
  | true =>
    refine ⟨fun _ => ?_, by simp⟩
    by_cases hle : o + n ≤ cs.length
    · simp [hle] at h
      subst h
      have hj : ∀ j c, ((cs.drop o).take n)[j]? = some c → j < n ∧ cs[o + j]? = some c := by
        intro j c hj
        rw [List.getElem?_take] at hj
        split at hj
        · rw [List.getElem?_drop] at hj; exact ⟨by assumption, hj⟩
        · cases hj
      refine .agg (by simp; omega) (fun j c h => ?_) (fun j c v h hv => ?_)
      · obtain ⟨_, h2⟩ := hj j c h
        obtain ⟨_, _, _, h3⟩ := hc _ c h2
        exact h3
      · obtain ⟨hlt, h2⟩ := hj j c h
        obtain ⟨v', h3, h4, _⟩ := hc _ c h2
        rw [Array.getElem?_extract] at hv
        have : v' = v := by
          split at hv
          · rw [← Nat.add_assoc] at h3; rw [h3] at hv; exact Option.some.inj hv
          · cases hv
        exact this ▸ h4
    · simp [hle] at h
end
end Go.Sh
namespace Go.Sh
set_option linter.unusedSectionVars false
set_option linter.unusedVariables false
set_option linter.unusedSimpArgs false
set_option linter.unnecessarySimpa false
section
variable {P : Program} {w : World}
theorem run_isAgg' {t : TypeId} {ag : Bool} (h : cag P t = some ag) : (isAgg t).run P w = .ok ag w := by
  unfold cag at h
  cases hu : P.underlying t with
  | none => rw [hu] at h; cases h
  | some d =>
    rw [hu] at h
    unfold isAgg
    simp only [Sem.run_bind, run_underlying hu, Result.andThen]
    cases d <;> simp at h <;> subst h <;> rfl
theorem run_sizeOf' {t : TypeId} {n : Nat} (h : csz P t = some n) : (sizeOf t).run P w = .ok n w := by
  unfold csz at h
  simp only [Option.map_eq_some_iff] at h
  obtain ⟨i, hi, rfl⟩ := h
  unfold sizeOf
  simp only [Sem.run_bind, run_typeInfo w hi, Result.andThen]
  rfl
theorem add_none (B o j : Nat) : (⟨B, o, none⟩ : Addr).add j = ⟨B, o + j, none⟩ := by unfold Addr.add; split <;> simp_all
theorem cell_at {B o : Nat} {vs : Array Value} {ty : TypeId} {fz : Nat × Nat} (h : w.heap[B]? = some (.cells vs ty fz)) : w.cell? ⟨B, o, none⟩ = vs[o]? := by
  simp [World.cell?, h]
theorem run_loadVar_fn {t : TypeId} {ag : Bool} {n : Nat} (hag : cag P t = some ag) (hsz : csz P t = some n) {B o : Nat} (f : Nat → Value)
    (hc : ∀ j, j < (if ag then n else 1) → w.cell? ⟨B, o + j, none⟩ = some (f j)) :
    (loadVar t ⟨B, o, none⟩).run P w = .ok (if ag then .agg ((List.range n).map f).toArray else f 0) w := by
  unfold loadVar
  simp only [Sem.run_bind, run_isAgg' hag, Result.andThen]
  cases ag with
  | true =>
    simp only [if_true] at hc ⊢
    simp only [Sem.run_bind, run_sizeOf' hsz, Result.andThen, run_loadCells w ⟨B, o, none⟩ n f (fun j hj => by rw [add_none]; exact hc j hj)]
    rfl
  | false =>
    have := hc 0 (by simp)
    simp only [Nat.add_zero] at this
    simp only [Bool.false_eq_true, if_false, run_load, this]
theorem run_loadVar_at {t : TypeId} {ag : Bool} {n : Nat} (hag : cag P t = some ag) (hsz : csz P t = some n) {B o : Nat} {vs : Array Value} {ty : TypeId} {fz : Nat × Nat}
    (hb : w.heap[B]? = some (.cells vs ty fz)) (hle : o + (if ag then n else 1) ≤ vs.size) :
    (ag = true → (loadVar t ⟨B, o, none⟩).run P w = .ok (.agg (vs.extract o (o + n))) w) ∧ (ag = false → ∀ v, vs[o]? = some v → (loadVar t ⟨B, o, none⟩).run P w = .ok v w) := by
  have h := run_loadVar_fn (w := w) hag hsz (B := B) (o := o) (fun j => vs.getD (o + j) undef) (fun j hj => by
    rw [cell_at hb]
    have : o + j < vs.size := by omega
    simp [this])
  constructor
  · rintro rfl
    rw [h]
    simp only [if_true] at hle ⊢
    congr 2
    apply Array.ext
    · simp; omega
    · intro i h1 h2
      simp at h1
      have : o + i < vs.size := by omega
      simp [this]
  · rintro rfl v hv
    rw [h]
    simp [hv]
def spl (vs : Array Value) (k : Nat) (xs : List Value) : Array Value := (vs.toList.take k ++ xs ++ vs.toList.drop (k + xs.length)).toArray
def setB (w : World) (B : Nat) (vs : Array Value) (ty : TypeId) (fz : Nat × Nat) : World := { w with heap := w.heap.setIfInBounds B (.cells vs ty fz) }
theorem setB_other {B B' : Nat} {vs : Array Value} {ty : TypeId} {fz : Nat × Nat} (h : B' ≠ B) : (setB w B vs ty fz).heap[B']? = w.heap[B']? := by
  simp [setB, Array.getElem?_setIfInBounds_ne (Ne.symm h)]
theorem setB_size {B : Nat} {vs : Array Value} {ty : TypeId} {fz : Nat × Nat} : (setB w B vs ty fz).heap.size = w.heap.size := by simp [setB]
theorem setB_same {B : Nat} {vs : Array Value} {ty : TypeId} {fz : Nat × Nat} (h : B < w.heap.size) : (setB w B vs ty fz).heap[B]? = some (.cells vs ty fz) := by
  simp [setB, h]
theorem spl_size {vs : Array Value} {k : Nat} {xs : List Value} (h : k + xs.length ≤ vs.size) : (spl vs k xs).size = vs.size := by
  simp [spl]; omega
theorem spl_get {vs : Array Value} {k : Nat} {xs : List Value} (h : k + xs.length ≤ vs.size) (j : Nat) :
    (spl vs k xs)[j]? = if j < k then vs[j]? else if j < k + xs.length then xs[j - k]? else vs[j]? := by
  unfold spl
  simp only [List.getElem?_toArray]
  rw [List.append_assoc, List.getElem?_append]
  have hl : (vs.toList.take k).length = k := by simp; omega
  rw [hl]
  split
  · rw [List.getElem?_take]; simp [*]
  · rw [List.getElem?_append]
    split
    · rw [if_pos (by omega)]
    · rw [if_neg (by omega), List.getElem?_drop]
      simp only [Array.getElem?_toList]
      congr 1; omega
theorem one_eq (v : Value) : one1 v = v.oneCell' := by cases v <;> rfl
theorem run_storeCells_spl (B o : Nat) (ty : TypeId) (fz : Nat × Nat) : ∀ (xs : List Value) (i : Nat) (vs : Array Value) (w : World), w.heap[B]? = some (.cells vs ty fz) → Thawed fz vs.size →
    o + i + xs.length ≤ vs.size → (∀ v ∈ xs, one1 v = true) → (storeCells ⟨B, o, none⟩ xs i).run P w = .ok () (setB w B (spl vs (o + i) xs) ty fz)
  | [], i, vs, w, hb, ht, hle, h1 => by
    have hB : B < w.heap.size := (Array.getElem?_eq_some_iff.1 hb).1
    have : spl vs (o + i) [] = vs := by simp [spl]
    rw [this]
    simp only [storeCells]
    have : setB w B vs ty fz = w := by
      unfold setB
      have : w.heap.setIfInBounds B (.cells vs ty fz) = w.heap := by
        apply Array.ext_getElem?
        intro j
        by_cases e : B = j
        · subst e; rw [hb]; simp [hB]
        · rw [Array.getElem?_setIfInBounds_ne e]
      rw [this]
    rw [this]; rfl
  | v :: r, i, vs, w, hb, ht, hle, h1 => by
    have hB : B < w.heap.size := (Array.getElem?_eq_some_iff.1 hb).1
    simp only [List.length_cons] at hle
    have hlt : o + i < vs.size := by omega
    have hcell : w.cell? ⟨B, o + i, none⟩ = some vs[o + i] := by rw [cell_at hb]; simp [hlt]
    have hfz : w.frozen? ⟨B, o + i, none⟩ = false := by simp only [World.frozen?, hb]; exact ht _ hlt
    have hset : w.setCell ⟨B, o + i, none⟩ v = setB w B (vs.setIfInBounds (o + i) v) ty fz := by
      unfold World.setCell setB
      congr 1
      apply Array.ext_getElem?
      intro j
      by_cases e : B = j
      · subst e
        have hb' := (Array.getElem?_eq_some_iff.1 hb).2
        rw [Array.getElem?_modify]
        simp [hb, hB]
        rw [hb']
      · rw [Array.getElem?_setIfInBounds_ne e]
        simp [Array.getElem?_modify, e]
    have hst : (store ((⟨B, o, none⟩ : Addr).add i) v).run P w = .ok () (setB w B (vs.setIfInBounds (o + i) v) ty fz) := by
      rw [add_none, run_store P w _ v _ (by rw [← one_eq]; exact h1 v (by simp)), hcell]
      simp only [hfz, hset]
      rfl
    have ih := run_storeCells_spl B o ty fz r (i + 1) (vs.setIfInBounds (o + i) v) (setB w B (vs.setIfInBounds (o + i) v) ty fz) (setB_same hB) (by simpa using ht) (by simp; omega) (fun x hx => h1 x (by simp [hx]))
    simp only [storeCells, Sem.run_bind, hst, Result.andThen_ok, ih]
    congr 1
    unfold setB
    congr 1
    rw [Array.setIfInBounds_setIfInBounds]
    congr 2
    apply Array.ext_getElem?
    intro j
    rw [spl_get (by simp; omega), spl_get (by simp; omega)]
    simp only [List.length_cons]
    by_cases e1 : j < o + i
    · rw [if_pos (by omega), if_pos e1, Array.getElem?_setIfInBounds_ne (by omega)]
    · by_cases e2 : j = o + i
      · subst e2
        rw [if_pos (by omega), if_neg (by omega), if_pos (by omega)]
        simp [hlt]
      · have a1 : ¬ j < o + (i + 1) := by omega
        simp only [a1, e1, if_false]
        by_cases e3 : j < o + (i + 1) + r.length
        · have e4 : j < o + i + (r.length + 1) := by omega
          simp only [e3, e4, if_true]
          rw [show j - (o + i) = (j - (o + (i + 1))) + 1 by omega]
          simp
        · have e4 : ¬ j < o + i + (r.length + 1) := by omega
          simp only [e3, e4, if_false]
          rw [Array.getElem?_setIfInBounds_ne (by omega)]
theorem run_storeVar_at {t : TypeId} {n : Nat} (hsz : csz P t = some n) {B o : Nat} {vs : Array Value} {ty : TypeId} {fz : Nat × Nat} {v : Value}
    (hb : w.heap[B]? = some (.cells vs ty fz)) (ht : Thawed fz vs.size) (hn : v.cells.size = n) (hle : o + n ≤ vs.size) (h1 : ∀ x ∈ v.cells.toList, one1 x = true) :
    (storeVar t ⟨B, o, none⟩ v).run P w = .ok () (setB w B (spl vs o v.cells.toList) ty fz) := by
  unfold storeVar
  simp only [Sem.run_bind, run_sizeOf' hsz, Result.andThen, hn, ne_eq, not_true, if_false]
  have := run_storeCells_spl (P := P) B o ty fz v.cells.toList 0 vs w hb ht (by simp; omega) h1
  simp only [Nat.add_zero] at this
  simpa [Sem.run_bind] using this
end
end Go.Sh
namespace Go.Sh
set_option linter.unusedSectionVars false
set_option linter.unusedVariables false
set_option linter.unusedSimpArgs false
set_option linter.unnecessarySimpa false
section
variable {C : Ctx} {ρ : Map} {F : Nat → Prop} {H H' : Heap} {w : World} {e : Env} {a : Act} {s : SV}
theorem cells_one {v : Value} {cs : List SV} (h : CellsR w F ρ v.cells 0 cs) (hn : cs.length = v.cells.size) : ∀ x ∈ v.cells.toList, one1 x = true := by
  intro x hx
  obtain ⟨j, hj, rfl⟩ := List.mem_iff_getElem.1 hx
  simp at hj
  obtain ⟨v', h1, h2, h3⟩ := h j _ (List.getElem?_eq_getElem (by omega))
  have h4 : v' = v.cells.toList[j] := by
    rw [Nat.zero_add, Array.getElem?_eq_getElem hj] at h1
    simpa using (Option.some.inj h1).symm
  rw [← h4]
  exact h2.one h3
theorem push_box (hr : HR C ρ F H w) {cs : List SV} {vs : Array Value} {ty : TypeId} (hn : cs.length = vs.size) (hc : CellsR w F ρ vs 0 cs) :
    Done C ρ F H w (.ptr H.bl.length 0 0 0) (hnew H (.box cs)) (.pointer (some ⟨w.heap.size, 0, none⟩)) { w with heap := w.heap.push (.cells vs ty) } := by
  let l : Loc := { blk := w.heap.size, base := 0, cap := 0, esz := cs.length, ver := 0, virt := false, arr := false }
  have hh : ∀ B, B < w.heap.size → ({ w with heap := w.heap.push (.cells vs ty) } : World).heap[B]? = w.heap[B]? := fun B hB => by
    simp [Array.getElem?_push, Nat.ne_of_lt hB]
  have hk : Keeps F w ({ w with heap := w.heap.push (.cells vs ty) } : World) := fun B hB => hh B (hr.fro B hB)
  have hle : ρ.le (ρ.put H.bl.length l) := fun b l' h => ⟨l', by rw [Map.put_other _ _ (Nat.ne_of_lt (hr.dom b l' h))]; exact h, .inl rfl⟩
  have hp := hr.push (w' := { w with heap := w.heap.push (.cells vs ty) }) (by simp) hh (.box cs) l (fun _ => ⟨Nat.le_refl _, by simp [l]⟩)
    ⟨rfl, rfl, rfl, rfl, rfl, vs, ty, (0, 0), by simp [l], fun o ho => by simp, hn.symm, hc.mono hk (fun _ h => h) hle⟩
  exact ⟨_, F, .ptr (l := l) (Map.put_same _ _ _) (Nat.le_refl _) rfl (fun _ => ⟨rfl, by simp [l]⟩), hp.1, hp.2⟩
theorem ok_mov {x : Operand} {y : Opd} (hx : copd x = some y) (hr : HR C ρ F H w) (he : ER w F ρ e a.tmps) : OpOK C (pure (.value (a.eval x))) ρ F H w (ev e y) H :=
  ⟨a.eval x, w, .inl rfl, Done.same hr (copd_vr hx he)⟩
theorem vr_bool {b : Bool} {v : Value} (h : VR w F ρ (.bool b) v) : v = .bool b := by cases h; rfl
theorem vr_int {k : IntKind} {n : Int} {v : Value} (h : VR w F ρ (.int k n) v) : v = .int k n := by cases h; rfl
theorem vr_str {t : ByteArray} {v : Value} (h : VR w F ρ (.str t) v) : v = .string t := by cases h; rfl
theorem ok_pick {c x y : Operand} {c' x' y' : Opd} (hc : copd c = some c') (hx : copd x = some x') (hy : copd y = some y') (hr : HR C ρ F H w) (he : ER w F ρ e a.tmps)
    (h : spick (ev e c') (ev e x') (ev e y') = some s) : OpOK C (do pure (.value (if ← asBool (a.eval c) then a.eval x else a.eval y))) ρ F H w s H := by
  have h1 := copd_vr hc he
  have h2 := copd_vr hx he
  have h3 := copd_vr hy he
  generalize ev e c' = c1, ev e x' = x1, ev e y' = y1 at *
  have key : ∀ t, c1 = .bool t → VR w F ρ s (if t then a.eval x else a.eval y) → OpOK C (do pure (.value (if ← asBool (a.eval c) then a.eval x else a.eval y))) ρ F H w s H := by
    intro t ht hv
    subst ht
    rw [vr_bool h1]
    exact ⟨_, w, .inl rfl, Done.same hr hv⟩
  have ht : ∃ t, c1 = .bool t := by
    unfold spick at h
    split at h
    · exact ⟨_, rfl⟩
    · exact ⟨_, rfl⟩
    · cases h
  obtain ⟨t, rfl⟩ := ht
  refine key t rfl ?_
  unfold spick at h
  split at h
  · rename_i h0 
    cases h
    cases h0
    rw [vr_bool h2, vr_bool h3]
    cases t <;> exact .bool _
  · rename_i t' heq _
    cases heq
    cases t <;> simp at h <;> subst h <;> assumption
  · cases h
theorem ok_box {t : TypeId} {x : Operand} {y : Opd} (hx : copd x = some y) (hr : HR C ρ F H w) (he : ER w F ρ e a.tmps) {cs : List SV} (h : cells1 (ev e y) = some cs) :
    OpOK C (do pure (.value (← Instr.box t (a.eval x)))) ρ F H w (.ptr H.bl.length 0 0 0) (hnew H (.box cs)) := by
  obtain ⟨h1, h2, _⟩ := cells1_vr h (copd_vr hx he)
  refine OpOK.valD (w' := { w with heap := w.heap.push (.cells (a.eval x).cells t) }) ?_ (push_box hr h1 h2)
  simp [Instr.box, newVar, newRow, newObj, Sem.run]
theorem czero_vr {t : TypeId} {z : List SV} (h : czero C.P t = some z) : ∃ i v, C.P.info? t = some i ∧ i.zero = some v ∧ z.length = v.cells.size ∧ CellsR w F ρ v.cells 0 z := by
  unfold czero at h
  split at h
  · rename_i i hi
    split at h
    · rename_i v hv
      simp only [Option.bind_eq_some_iff] at h
      obtain ⟨r, h1, h2⟩ := h
      by_cases hok : r.all SV.ok1 = true
      · rw [hok] at h2
        simp only [cond_true, Option.some.injEq] at h2
        subst h2
        obtain ⟨hl, hp⟩ := allS_map h1
        refine ⟨i, v, hi, hv, by simpa using hl, fun j c hj => ?_⟩
        have hlt := (List.getElem?_eq_some_iff.1 hj).1
        have hlt' : j < v.cells.size := by simp at hl; omega
        have hv' : v.cells[j]? = some v.cells[j] := Array.getElem?_eq_getElem hlt'
        exact ⟨v.cells[j], by simpa using hv', cval_vr 1 (hp j _ c (by simpa using hv') hj), List.all_eq_true.1 hok c (List.mem_of_getElem? hj)⟩
      · rw [Bool.not_eq_true] at hok; rw [hok] at h2; simp at h2
    · cases h
  · cases h
theorem run_zeroValue' {t : TypeId} {i : TypeInfo} {v : Value} (hi : C.P.info? t = some i) (hz : i.zero = some v) : (zeroValue t).run C.P w = .ok v w := by
  unfold zeroValue
  simp only [Sem.run_bind, run_typeInfo w hi, Result.andThen, hz]
  rfl
theorem ok_alloc {t : TypeId} {z : List SV} (hz : czero C.P t = some z) (hr : HR C ρ F H w) :
    OpOK C (do pure (.value (← Instr.alloc t true (.tuple #[])))) ρ F H w (.ptr H.bl.length 0 0 0) (hnew H (.box z)) := by
  obtain ⟨i, v, hi, hv, h1, h2⟩ := czero_vr (w := w) (F := F) (ρ := ρ) hz
  refine OpOK.valD (w' := { w with heap := w.heap.push (.cells v.cells t) }) ?_ (push_box hr h1 h2)
  simp [Instr.alloc, run_zeroValue' hi hv, newVar, newRow, newObj, Sem.run]
end
end Go.Sh
namespace Go.Sh
set_option linter.unusedSectionVars false
set_option linter.unusedVariables false
set_option linter.unusedSimpArgs false
set_option linter.unnecessarySimpa false
section
variable {C : Ctx} {ρ : Map} {F : Nat → Prop} {H H' : Heap} {w : World} {e : Env} {a : Act} {s : SV}
theorem part1_le {ag : Bool} {n o : Nat} {cs : List SV} (h : part1 ag n cs o = some s) : o + (if ag then n else 1) ≤ cs.length := by
  unfold part1 at h
  cases ag with
  | false => simp only [cond_false] at h; have := (List.getElem?_eq_some_iff.1 h).1; simp; omega
  | true =>
    by_cases hle : o + n ≤ cs.length
    · simpa using hle
    · simp [hle] at h
theorem load_cells {P : Program} {t : TypeId} {ag : Bool} {n o at_ B : Nat} {cs : List SV} {vs : Array Value} {ty : TypeId} {fz : Nat × Nat} (hag : cag P t = some ag) (hsz : csz P t = some n)
    (hb : w.heap[B]? = some (.cells vs ty fz)) (hc : CellsR w F ρ vs at_ cs) (hle : at_ + cs.length ≤ vs.size) (h : part1 ag n cs o = some s) :
    ∃ val, (loadVar t ⟨B, at_ + o, none⟩).run P w = .ok val w ∧ VR w F ρ s val := by
  have h1 := part1_le h
  obtain ⟨h2, h3⟩ := part1_vr h hc hle
  obtain ⟨r1, r2⟩ := run_loadVar_at (o := at_ + o) hag hsz hb (by omega)
  cases ag with
  | true => exact ⟨_, r1 rfl, h2 rfl⟩
  | false => obtain ⟨v, hv, hr⟩ := h3 rfl; exact ⟨v, r2 rfl v hv, hr⟩
theorem ptr_box (hr : HR C ρ F H w) {b ver i o : Nat} {v : Value} {cs : List SV} (hv : VR w F ρ (.ptr b ver i o) v) (hb : hget H b = some (.box cs)) (hi : i = 0) :
    ∃ l vs ty fz, ρ b = some l ∧ l.virt = false ∧ l.arr = false ∧ l.ver = 0 ∧ v = .pointer (some ⟨l.blk, o, none⟩) ∧ w.heap[l.blk]? = some (.cells vs ty fz) ∧ Thawed fz vs.size ∧ vs.size = cs.length ∧ CellsR w F ρ vs 0 cs ∧
      BR C w F ρ l (.box cs) := by
  obtain ⟨l, hl, hbr⟩ := hr.live b _ hb rfl
  have hbr' := hbr
  obtain ⟨h1, h2, h3, h4, h5, vs, ty, fz, h6, h7, h8, h9⟩ := hbr
  cases hv with
  | ptr h hv hc ha =>
    rw [hl] at h; cases h
    obtain ⟨_, rfl⟩ := ha (by omega)
    subst hi
    exact ⟨l, vs, ty, fz, hl, h1, h2, h4, by simp [h3], h6, h7, h8, h9, hbr'⟩
theorem ptr_arr (hr : HR C ρ F H w) {b ver i o z : Nat} {v : Value} {L : List (List SV)} {ex : Bool} (hv : VR w F ρ (.ptr b ver i o) v) (hb : hget H b = some (.arr ver z L ex)) :
    ∃ l vs ty fz, ρ b = some l ∧ l.virt = false ∧ l.ver = ver ∧ l.arr = true ∧ l.esz = z ∧ v = .pointer (some ⟨l.blk, l.base + i * z + o, none⟩) ∧ w.heap[l.blk]? = some (.cells vs ty fz) ∧ Thawed fz vs.size ∧
      l.base + l.cap * z ≤ vs.size ∧ L.length ≤ l.cap ∧ (∀ (i : Nat) cs, L[i]? = some cs → cs.length = z) ∧ (∀ (i : Nat) cs, L[i]? = some cs → CellsR w F ρ vs (l.base + i * z) cs) ∧ BR C w F ρ l (.arr ver z L ex) := by
  obtain ⟨l, hl, hbr⟩ := hr.live b _ hb rfl
  have hbr' := hbr
  obtain ⟨h1, h2, h3, h4, h5, h6, h7, h8⟩ := hbr
  cases hv with
  | ptr h hv hc ha =>
    rw [hl] at h; cases h
    obtain ⟨hvi, rfl⟩ := ha h2.symm
    obtain ⟨vs, ty, fz, k1, k2, k3, k4⟩ := h8 hvi
    exact ⟨l, vs, ty, fz, hl, hvi, h2, h1, h3, by rw [h3], k1, k2, k3, h5, h4, k4, hbr'⟩
theorem elem_le {L : List (List SV)} {i z cap base n : Nat} {cs : List SV} (hi : L[i]? = some cs) (hz : cs.length = z) (hL : L.length ≤ cap) (hn : base + cap * z ≤ n) : base + i * z + cs.length ≤ n := by
  have h1 := (List.getElem?_eq_some_iff.1 hi).1
  have h2 : (i + 1) * z ≤ cap * z := Nat.mul_le_mul_right z (by omega)
  rw [Nat.add_mul, Nat.one_mul] at h2
  omega
theorem load_vr {c : SV} {t : TypeId} {ag : Bool} {n : Nat} {u : Value} (hag : cag C.P t = some ag) (hsz : csz C.P t = some n) (hr : HR C ρ F H w) (hv : VR w F ρ c u)
    (h : sload ag n H c = some s) : ∃ q val, u = .pointer (some q) ∧ (loadVar t q).run C.P w = .ok val w ∧ VR w F ρ s val := by
  unfold sload at h
  split at h
  · rename_i b ver i o
    split at h
    · rename_i cs hb
      replace h := bif_some h
      obtain ⟨hi, h⟩ := h
      obtain ⟨l, vs, ty, fz, hl, k1, k1a, k2, k3, k4, k5, k6, k7, _⟩ := ptr_box hr hv hb (by simpa using hi)
      subst k3
      obtain ⟨val, r1, r2⟩ := load_cells hag hsz k4 k7 (by omega) h
      rw [Nat.zero_add] at r1
      exact ⟨_, val, rfl, r1, r2⟩
    · rename_i ver' z L ex hb
      replace h := bif_some h
      obtain ⟨hve, h⟩ := h
      have hve : ver = ver' := by simpa using hve
      subst hve
      split at h
      · rename_i cs hcs
        obtain ⟨l, vs, ty, fz, hl, k1, k2, k2a, k3, k4, k5, k6, k7, k8, k9, k10, _⟩ := ptr_arr hr hv hb
        subst k4
        obtain ⟨val, r1, r2⟩ := load_cells hag hsz k5 (k10 i cs hcs) (elem_le hcs (k9 i cs hcs) k8 k7) h
        exact ⟨_, val, rfl, r1, r2⟩
      · cases h
    · cases h
  · rename_i cs
    cases hv with
    | eptr V hF hc h1 hv =>
      rename_i B o
      have hle := part1_le h
      have r := run_loadVar_fn (w := w) hag hsz (B := B) (o := o) V (fun j hj => hc j _ (List.getElem?_eq_getElem (by omega)))
      refine ⟨_, _, rfl, r, ?_⟩
      unfold part1 at h
      cases ag with
      | false =>
        simp only [cond_false] at h
        exact (hv 0 s h).mono (fun _ _ => rfl) (fun _ h => h) (noMap_le _)
      | true =>
        simp at hle
        simp [hle] at h
        subst h
        refine .agg (by simp; omega) (fun j c hj => ?_) (fun j c v hj hv' => ?_)
        · rw [List.getElem?_take] at hj
          split at hj
          · exact h1 j c hj
          · cases hj
        · rw [List.getElem?_take] at hj
          split at hj
          · rename_i hlt
            simp [hlt] at hv'
            subst hv'
            exact (hv j c hj).mono (fun _ _ => rfl) (fun _ h => h) (noMap_le _)
          · cases hj
  · cases h
theorem ok_load {t : TypeId} {ag : Bool} {n : Nat} {x : Operand} {y : Opd} (hag : cag C.P t = some ag) (hsz : csz C.P t = some n) (hx : copd x = some y) (hr : HR C ρ F H w) (he : ER w F ρ e a.tmps)
    (h : sload ag n H (ev e y) = some s) : OpOK C (do pure (.value (← Instr.loadAt t (a.eval x)))) ρ F H w s H := by
  obtain ⟨q, val, hu, h1, h2⟩ := load_vr hag hsz hr (copd_vr hx he) h
  refine OpOK.val hr (val := val) ?_ h2
  unfold Instr.loadAt
  rw [hu]
  simpa [Instr.sureAddr, Sem.run] using h1
theorem spl_cells {vs : Array Value} {at_ o n : Nat} {cs xs : List SV} {v : Value} (hc : CellsR w F ρ vs at_ cs) (hx : CellsR w F ρ v.cells 0 xs) (hn : xs.length = n) (hxn : xs.length = v.cells.size) (hle : o + n ≤ cs.length)
    (hsz : at_ + cs.length ≤ vs.size) : CellsR w F ρ (spl vs (at_ + o) v.cells.toList) at_ (put1 cs o n xs) := by
  intro j c hj
  have hl : v.cells.toList.length = n := by simp; omega
  rw [spl_get (by omega), hl]
  unfold put1 at hj
  rw [List.append_assoc, List.getElem?_append] at hj
  have ht : (cs.take o).length = o := by simp; omega
  rw [ht] at hj
  split at hj
  · rename_i hlt
    rw [List.getElem?_take, if_pos hlt] at hj
    rw [if_pos (by omega)]
    exact hc j c hj
  · rename_i hge
    rw [List.getElem?_append] at hj
    split at hj
    · rename_i hlt
      rw [if_neg (by omega), if_pos (by omega)]
      obtain ⟨v', h1, h2, h3⟩ := hx _ c hj
      refine ⟨v', ?_, h2, h3⟩
      rw [Array.getElem?_toList, show at_ + j - (at_ + o) = 0 + (j - o) by omega]
      exact h1
    · rename_i hge2
      rw [List.getElem?_drop] at hj
      rw [if_neg (by omega), if_neg (by omega)]
      have : o + n + (j - o - xs.length) = j := by omega
      rw [this] at hj
      exact hc j c hj
theorem put1_length {cs xs : List SV} {o n : Nat} (hn : xs.length = n) (hle : o + n ≤ cs.length) : (put1 cs o n xs).length = cs.length := by
  unfold put1; simp; omega
theorem cells_keep {vs : Array Value} {k n at_ : Nat} {xs : List Value} {cs : List SV} (hc : CellsR w F ρ vs at_ cs) (hle : k + xs.length ≤ vs.size) (hap : at_ + cs.length ≤ k ∨ k + xs.length ≤ at_) :
    CellsR w F ρ (spl vs k xs) at_ cs := by
  intro j c hj
  have hlt := (List.getElem?_eq_some_iff.1 hj).1
  obtain ⟨v, h1, h2⟩ := hc j c hj
  refine ⟨v, ?_, h2⟩
  rw [spl_get hle]
  rcases hap with h | h
  · rw [if_pos (by omega)]; exact h1
  · rw [if_neg (by omega), if_neg (by omega)]; exact h1
theorem put_self {b : Nat} {l : Loc} (h : ρ b = some l) : ρ.put b l = ρ := by
  funext b'
  by_cases e : b' = b
  · subst e; rw [Map.put_same, h]
  · rw [Map.put_other _ _ e]
theorem set_cells (hr : HR C ρ F H w) {b : Nat} {x y : SBlk} {l : Loc} {refs : Nat} {vs' : Array Value} {ty : TypeId} {fz : Nat × Nat} (hH : hset H b y refs = some H') (hb : H.bl[b]? = some x) (hx : x.live = true)
    (hl : ρ b = some l) (hv : l.virt = false) (hy : y.live = true → ∀ ρ1 : Map, (ρ1 = ρ ∨ ∃ N, refs ≤ N ∧ ρ1 = ρ.cut N) → BR C w F ρ1 l x → BR C (setB w l.blk vs' ty fz) F ρ1 l y)
    (hlk : (∃ r st p, x = .loop r st p) → ∃ r st p, y = .loop r st p := by (rintro ⟨_, _, _, h⟩; cases h)) :
    HR C ρ F H' (setB w l.blk vs' ty fz) ∧ Ext C ρ F H w ρ F H' (setB w l.blk vs' ty fz) := by
  have := hr.set (w' := setB w l.blk vs' ty fz) (l' := l) hH hb hx hl (by rw [setB_size]; exact Nat.le_refl _) (fun B hB hne => setB_other (hne hv)) (fun _ => .inl ⟨hv, rfl⟩) (.inl rfl) (fun hyl => by
    rw [put_self hl]
    obtain ⟨l2, h2, hbr⟩ := hr.live b x hb hx
    rw [hl] at h2; cases h2
    exact hy hyl ρ (.inl rfl) hbr) (fun hyl N hN hbN hbr => by rw [put_self hl]; exact hy hyl _ (.inr ⟨N, hN, rfl⟩) hbr) hlk
  rwa [put_self hl] at this
def CutOK (C : Ctx) (ρ : Map) (F : Nat → Prop) (H H' : Heap) (w w' : World) (refs : Nat) : Prop :=
  ∀ N, refs ≤ N → ∀ (b : Nat) z z' l, H.bl[b]? = some z → z.live = true → H'.bl[b]? = some z' → ρ b = some l → BR C w F (ρ.cut N) l z → BR C w' F (ρ.cut N) l z'
theorem cut_cells (hr : HR C ρ F H w) {b : Nat} {x y : SBlk} {l : Loc} {refs : Nat} {vs' : Array Value} {ty : TypeId} {fz : Nat × Nat} (hH : hset H b y refs = some H') (hb : H.bl[b]? = some x) (hx : x.live = true)
    (hl : ρ b = some l) (hv : l.virt = false) (hy : ∀ ρ1 : Map, (ρ1 = ρ ∨ ∃ N, refs ≤ N ∧ ρ1 = ρ.cut N) → BR C w F ρ1 l x → BR C (setB w l.blk vs' ty fz) F ρ1 l y) :
    CutOK C ρ F H H' w (setB w l.blk vs' ty fz) refs := by
  intro N hN b' z z' l' hz hzl hz' hl' hbr
  have hbl : H'.bl = H.bl.set b y ∧ b < H.bl.length := by
    unfold hset at hH
    replace hH := bif_some hH
    obtain ⟨h1, h2⟩ := hH
    simp only [Bool.and_eq_true, decide_eq_true_eq] at h1
    cases h2
    exact ⟨rfl, h1.2⟩
  have hk : Keeps F w (setB w l.blk vs' ty fz) := fun B hB => setB_other (fun h => (hr.own b l ⟨⟨x, hb, hx⟩, hl, hv⟩).1 (h ▸ hB))
  rw [hbl.1] at hz'
  by_cases e : b' = b
  · subst e
    rw [hz] at hb; cases hb
    rw [hl] at hl'; cases hl'
    simp [hbl.2] at hz'
    subst hz'
    exact hy _ (.inr ⟨N, hN, rfl⟩) hbr
  · rw [List.getElem?_set_ne (Ne.symm e), hz] at hz'
    cases hz'
    exact hbr.mono hk (fun _ h => h) (Map.le_refl _) (fun hv' => setB_other (fun h => e (hr.apart b' b l' l ⟨⟨z, hz, hzl⟩, hl', hv'⟩ ⟨⟨x, hb, hx⟩, hl, hv⟩ h)))
theorem setB_keeps (hr : HR C ρ F H w) {b : Nat} {x : SBlk} {l : Loc} (hb : H.bl[b]? = some x) (hx : x.live = true) (hl : ρ b = some l) (hv : l.virt = false) {vs : Array Value} {ty : TypeId} {fz : Nat × Nat} :
    Keeps F w (setB w l.blk vs ty fz) := fun B hB => setB_other (fun h => (hr.own b l ⟨⟨x, hb, hx⟩, hl, hv⟩).1 (h ▸ hB))
theorem and_cut {A : Prop} {P Q R : Prop} (h1 : A → P ∧ Q) (h2 : A → R) (a : A) : P ∧ Q ∧ R := ⟨(h1 a).1, (h1 a).2, h2 a⟩
theorem store_ex {t : TypeId} {n : Nat} {c p : SV} {u val : Value} (hsz : csz C.P t = some n) (hr : HR C ρ F H w) (hp : VR w F ρ p u) (hv : VR w F ρ c val)
    (h : sstore n H c p = some H') : ∃ w', (Instr.storeAt t u val).run C.P w = .ok () w' ∧ HR C ρ F H' w' ∧ Ext C ρ F H w ρ F H' w' ∧ CutOK C ρ F H H' w w' c.refs := by
  have hv1 : ∀ ρ1 : Map, (ρ1 = ρ ∨ ∃ N, c.refs ≤ N ∧ ρ1 = ρ.cut N) → VR w F ρ1 c val := fun ρ1 h => by
    rcases h with rfl | ⟨N, hN, rfl⟩
    · exact hv
    · exact hv.cut N hN
  unfold Instr.storeAt
  unfold sstore at h
  split at h
  · rename_i b ver i o
    simp only [Option.bind_eq_some_iff] at h
    obtain ⟨xs, hxs, h⟩ := h
    obtain ⟨q1, q2, _⟩ := cells1_vr hxs hv
    have q3 := cells_one q2 q1
    replace h := bif_some h
    obtain ⟨hn, h⟩ := h
    have hn : xs.length = n := by simpa using hn
    · split at h
      · rename_i cs hb
        replace h := bif_some h
        obtain ⟨hi, h⟩ := h
        simp only [Bool.and_eq_true, beq_iff_eq, decide_eq_true_eq] at hi
        · obtain ⟨hi, hle⟩ := hi
          obtain ⟨l, vs, ty, fz, hl, k1, k1a, k2, k3, k4, k5, k6, k7, kb⟩ := ptr_box hr hp hb hi
          rw [k3]
          have r := run_storeVar_at (o := o) hsz k4 k5 (by omega) (by omega) q3
          have hk : Keeps F w (setB w l.blk (spl vs o val.cells.toList) ty fz) := setB_keeps hr hb rfl hl k1
          have hsz' : (spl vs o val.cells.toList).size = vs.size := spl_size (by simp; omega)
          have hlt : l.blk < w.heap.size := (Array.getElem?_eq_some_iff.1 k4).1
          refine ⟨_, by simpa [Instr.sureAddr, Sem.run] using r, and_cut (fun hy => (set_cells hr h hb rfl hl k1 (fun _ => hy))) (fun hy => cut_cells hr h hb rfl hl k1 hy) (fun ρ1 hρ kb1 => ?_)⟩
          obtain ⟨g1, g2, g3, g4, g5, vs2, ty2, fz2, j1, j2, j3, j4⟩ := kb1
          rw [k4] at j1; cases j1
          obtain ⟨_, q2', _⟩ := cells1_vr hxs (hv1 ρ1 hρ)
          refine ⟨g1, g2, g3, g4, by rw [put1_length hn hle]; exact g5, _, ty, fz, setB_same hlt, by rw [hsz']; exact k5, by rw [hsz', put1_length hn hle]; exact k6, ?_⟩
          have := spl_cells (at_ := 0) j4 q2' hn q1 hle (by omega)
          rw [Nat.zero_add] at this
          exact this.mono hk (fun _ h => h) (Map.le_refl _)
      · rename_i ver' z L ex hb
        replace h := bif_some h
        obtain ⟨hve, h⟩ := h
        have hve : ver = ver' := by simpa using hve
        · subst hve
          split at h
          · rename_i cs hcs
            replace h := bif_some h
            obtain ⟨hle, h⟩ := h
            have hle : o + n ≤ cs.length := by simpa using hle
            · skip
              obtain ⟨l, vs, ty, fz, hl, k1, k2, k2a, k3, k4, k5, k6, k7, k8, k9, k10, kb⟩ := ptr_arr hr hp hb
              rw [k4]
              have hel := elem_le hcs (k9 i cs hcs) k8 k7
              have r := run_storeVar_at (o := l.base + i * z + o) hsz k5 k6 (by omega) (by omega) q3
              have hk : Keeps F w (setB w l.blk (spl vs (l.base + i * z + o) val.cells.toList) ty fz) := setB_keeps hr hb rfl hl k1
              have hsz' : (spl vs (l.base + i * z + o) val.cells.toList).size = vs.size := spl_size (by simp; omega)
              have hlt : l.blk < w.heap.size := (Array.getElem?_eq_some_iff.1 k5).1
              have hli := (List.getElem?_eq_some_iff.1 hcs).1
              refine ⟨_, by simpa [Instr.sureAddr, Sem.run] using r, and_cut (fun hy => (set_cells hr h hb rfl hl k1 (fun _ => hy))) (fun hy => cut_cells hr h hb rfl hl k1 hy) (fun ρ1 hρ kb1 => ?_)⟩
              obtain ⟨g1, g2, g3, g4, g5, g6, g7, g8⟩ := kb1
              obtain ⟨vs2, ty2, fz2, j1, j2, j3, j4⟩ := g8 k1
              rw [k5] at j1; cases j1
              obtain ⟨_, q2', _⟩ := cells1_vr hxs (hv1 ρ1 hρ)
              refine ⟨g1, g2, g3, fun j ds hj => ?_, by simpa using g5, by simpa using g6, g7, fun _ => ⟨_, ty, fz, setB_same hlt, by rw [hsz']; exact k6, by rw [hsz']; exact k7, fun j ds hj => ?_⟩⟩
              · by_cases e1 : j = i
                · subst e1
                  simp [hli] at hj
                  subst hj
                  rw [put1_length hn hle]; exact k9 j cs hcs
                · rw [List.getElem?_set_ne (Ne.symm e1)] at hj
                  exact g4 j ds hj
              · by_cases e1 : j = i
                · subst e1
                  simp [hli] at hj
                  subst hj
                  exact (spl_cells (j4 j cs hcs) q2' hn q1 hle hel).mono hk (fun _ h => h) (Map.le_refl _)
                · rw [List.getElem?_set_ne (Ne.symm e1)] at hj
                  have hd := k9 j ds hj
                  have hz := k9 i cs hcs
                  refine (cells_keep (n := 0) (j4 j ds hj) (by simp; omega) ?_).mono hk (fun _ h => h) (Map.le_refl _)
                  simp only [Array.length_toList]
                  rcases Nat.lt_or_gt_of_ne e1 with hlt' | hlt'
                  · left
                    have : (j + 1) * z ≤ i * z := Nat.mul_le_mul_right z hlt'
                    rw [Nat.add_mul, Nat.one_mul] at this
                    omega
                  · right
                    have : (i + 1) * z ≤ j * z := Nat.mul_le_mul_right z hlt'
                    rw [Nat.add_mul, Nat.one_mul] at this
                    omega
          · cases h
      · cases h
  · cases h
theorem ok_store {t : TypeId} {n : Nat} {x y : Operand} {x' y' : Opd} (hsz : csz C.P t = some n) (hx : copd x = some x') (hy : copd y = some y') (hr : HR C ρ F H w) (he : ER w F ρ e a.tmps)
    (h : sstore n H (ev e y') (ev e x') = some H') : OpOK C (do Instr.storeAt t (a.eval x) (a.eval y); pure .skip) ρ F H w .undef H' := by
  obtain ⟨w', h1, h2, h3, _⟩ := store_ex hsz hr (copd_vr hx he) (copd_vr hy he) h
  exact ⟨undef, w', .inr ⟨by simp [h1, pure, Sem.run], rfl⟩, ρ, F, .undef _, h2, h3⟩
end
end Go.Sh
namespace Go.Sh
set_option linter.unusedSectionVars false
set_option linter.unusedVariables false
set_option linter.unusedSimpArgs false
set_option linter.unnecessarySimpa false
section
variable {C : Ctx} {ρ : Map} {F : Nat → Prop} {H H' : Heap} {w : World} {e : Env} {a : Act} {s c d : SV}
theorem cur_ptr (hr : HR C ρ F H w) {b ver i o : Nat} {v : Value} (hc : cur H (.ptr b ver i o) = true) (hv : VR w F ρ (.ptr b ver i o) v) :
    ∃ l, ρ b = some l ∧ ver = l.ver ∧ l.virt = false ∧ v = .pointer (some ⟨l.blk, l.base + i * l.esz + o, none⟩) := by
  have key : ∀ l, ρ b = some l → ver = l.ver → ∃ l, ρ b = some l ∧ ver = l.ver ∧ l.virt = false ∧ v = .pointer (some ⟨l.blk, l.base + i * l.esz + o, none⟩) := by
    intro l hl hve
    cases hv with
    | ptr h h1 h2 h3 =>
      rw [hl] at h; cases h
      obtain ⟨k1, k2⟩ := h3 hve
      exact ⟨l, hl, hve, k1, k2⟩
  unfold cur at hc
  split at hc
  · rename_i b' v' i' o' heq
    cases heq
    split at hc
    · rename_i cs hb
      obtain ⟨l, hl, hbr⟩ := hr.live b _ hb rfl
      refine key l hl ?_
      cases hv with
      | ptr h h1 h2 h3 => rw [hl] at h; cases h; have := hbr.2.2.2.1; omega
    · rename_i v'' z L ex hb
      obtain ⟨l, hl, hbr⟩ := hr.live b _ hb rfl
      refine key l hl ?_
      have := hbr.2.1
      simp at hc; omega
    · cases hc
  · rename_i heq; cases heq
  · rename_i hne _; exact absurd rfl (hne b ver i o)
theorem cur_slc (hr : HR C ρ F H w) {b ver off n : Nat} {v : Value} (hc : cur H (.slc b ver off n) = true) (hv : VR w F ρ (.slc b ver off n) v) :
    ∃ l z L ex, ρ b = some l ∧ hget H b = some (.arr ver z L ex) ∧ BR C w F ρ l (.arr ver z L ex) ∧ (l.virt = true → ∃ a, v = .slice a 0 0 ∧ off = 0 ∧ n = 0) ∧
      (l.virt = false → off + n ≤ l.cap ∧ ∃ a, v = .slice a n (l.cap - off) ∧ (off < l.cap → a = some ⟨l.blk, l.base + off * l.esz, none⟩)) := by
  unfold cur at hc
  split at hc
  · rename_i heq; cases heq
  · rename_i b' v' o' n' heq
    cases heq
    split at hc
    · rename_i v'' z L ex hb
      simp at hc
      subst hc
      obtain ⟨l, hl, hbr⟩ := hr.live b _ hb rfl
      cases hv with
      | slc h h1 h2 h3 =>
        rw [hl] at h; cases h
        obtain ⟨k1, k2⟩ := h3 hbr.2.1.symm
        exact ⟨l, z, L, ex, hl, hb, hbr, k1, k2⟩
    · cases hc
  · rename_i hne; exact absurd rfl (hne b ver off n)
theorem curZ_cur {z : Nat} (h : curZ H z c = true) : cur H c = true := by
  unfold curZ at h
  split at h
  · unfold cur
    split at h
    · rename_i hb; simp only [hb]; simp at h; simpa using h.1
    · cases h
  · rfl
  · cases h
theorem ok_nilChk {x : Operand} {y : Opd} (hx : copd x = some y) (hr : HR C ρ F H w) (he : ER w F ρ e a.tmps) (o : Oper) (ho : o.op = .nilCheck x)
    (h : sop e H (.nilChk y) = some (s, H')) : OpOK C (execOp a.eval o) ρ F H w s H' := by
  have hv := copd_vr hx he
  simp only [sop] at h
  replace h := bif_some h; obtain ⟨hc, h⟩ := h
  simp only [Option.map_eq_some_iff, Prod.mk.injEq] at h
  obtain ⟨s', h, rfl, rfl⟩ := h
  suffices hs : ∃ u, a.eval x = .pointer (some u) ∧ s' = ev e y by
    obtain ⟨u, hu, rfl⟩ := hs
    refine ⟨a.eval x, w, .inl ?_, Done.same hr hv⟩
    unfold execOp
    simp only [ho, hu]
    rfl
  generalize ev e y = c at *
  generalize a.eval x = u at *
  unfold nilChk1 at h
  split at h
  · cases h
    obtain ⟨l, _, _, _, rfl⟩ := cur_ptr hr hc hv
    exact ⟨_, rfl, rfl⟩
  · cases h
    cases hv
    exact ⟨_, rfl, rfl⟩
  · cases h
theorem run_eqGuard_plain {op : BinOp} {t : TypeId} {x y : Operand} {u v : Value} (hu : one1 u = true) (hn : u ≠ .nilIface) : (eqGuard op t x y u v).run C.P w = .ok () w := by
  unfold eqGuard
  cases op <;> simp <;> (try rfl) <;> (cases u <;> first | rfl | exact absurd rfl hn | (simp [one1] at hu; done))
theorem ok_binv {op : BinOp} {t : TypeId} {x y : Operand} {u v : Value} (hu : one1 u = true) (hn : u ≠ .nilIface) {val : Value} (hr : HR C ρ F H w) (h : (binOp op t u v).run C.P w = .ok val w) (hs : VR w F ρ s val) :
    OpOK C (do pure (.value (← (do eqGuard op t x y u v; binOp op t u v)))) ρ F H w s H := by
  refine OpOK.val hr ?_ hs
  simp only [Sem.run_bind, run_eqGuard_plain hu hn, Result.andThen, h]
theorem bin_int {op : BinOp} {t : TypeId} {k k2 : IntKind} {p q : Int} (h : sbin op (.int k p) (.int k2 q) = some s) : ∃ val, (binOp op t (.int k p) (.int k2 q)).run C.P w = .ok val w ∧ VR w F ρ s val := by
  cases op <;> simp only [sbin] at h <;> (try (cases h; done)) <;> (replace h := bif_some h) <;> (obtain ⟨hc, h⟩ := h) <;> (try simp only [Bool.and_eq_true, beq_iff_eq, Bool.not_eq_true', decide_eq_false_iff_not, decide_eq_true_eq] at hc) <;>
    simp only [Option.some.injEq] at h <;> subst h
  case add => subst hc; exact ⟨_, by simp [binOp, Op.intArith, Sem.run, pure], .int _ _⟩
  case sub => subst hc; exact ⟨_, by simp [binOp, Op.intArith, Sem.run, pure], .int _ _⟩
  case mul => subst hc; exact ⟨_, by simp [binOp, Op.intArith, Sem.run, pure], .int _ _⟩
  case quo => obtain ⟨rfl, hq⟩ := hc; exact ⟨_, by simp [binOp, Op.intDiv, hq, Sem.run, pure], .int _ _⟩
  case rem => obtain ⟨rfl, hq⟩ := hc; exact ⟨_, by simp [binOp, Op.intDiv, hq, Sem.run, pure], .int _ _⟩
  case and => subst hc; exact ⟨_, by simp [binOp, Op.intBits, Sem.run, pure], .int _ _⟩
  case or => subst hc; exact ⟨_, by simp [binOp, Op.intBits, Sem.run, pure], .int _ _⟩
  case xor => subst hc; exact ⟨_, by simp [binOp, Op.intBits, Sem.run, pure], .int _ _⟩
  case shl => exact ⟨_, by simp [binOp, Op.shift, Int.not_lt.2 hc, Sem.run, pure], .int _ _⟩
  case shr => exact ⟨_, by simp [binOp, Op.shift, Int.not_lt.2 hc, Sem.run, pure], .int _ _⟩
  case lss => subst hc; exact ⟨_, by simp [binOp, Op.intCmp, Sem.run, pure], .bool _⟩
  case leq => subst hc; exact ⟨_, by simp [binOp, Op.intCmp, Sem.run, pure], .bool _⟩
  case gtr => subst hc; exact ⟨_, by simp [binOp, Op.intCmp, Sem.run, pure], .bool _⟩
  case geq => subst hc; exact ⟨_, by simp [binOp, Op.intCmp, Sem.run, pure], .bool _⟩
  case eql => subst hc; refine ⟨.bool (p == q), by simp [binOp, Op.intCmp, Sem.run, pure], ?_⟩; rw [show decide (p = q) = (p == q) by by_cases h : p = q <;> simp [h]]; exact .bool _
  case neq => subst hc; refine ⟨.bool (p != q), by simp [binOp, Op.intCmp, Sem.run, pure], ?_⟩; rw [show (!decide (p = q)) = (p != q) by by_cases h : p = q <;> simp [h, bne]]; exact .bool _
end
end Go.Sh
namespace Go.Sh
set_option linter.unusedSectionVars false
set_option linter.unusedVariables false
set_option linter.unusedSimpArgs false
set_option linter.unnecessarySimpa false
section
variable {C : Ctx} {ρ : Map} {F : Nat → Prop} {H H' : Heap} {w : World} {e : Env} {a : Act} {s c d : SV}
theorem bytes_eq (p q : ByteArray) : (p.toList == q.toList) = decide (p = q) := by
  have h : ∀ x : ByteArray, x.toList = x.data.toList := fun x => by
    simp [ByteArray.toList_eq]
  rw [h, h]
  by_cases e : p = q
  · subst e; simp
  · have : p.data.toList ≠ q.data.toList := fun h => e (by cases p; cases q; simp at h; rw [h])
    simp [e]
    exact fun h => this (by rw [h])
theorem bin_str {op : BinOp} {t : TypeId} {p q : ByteArray} (h : sbin op (.str p) (.str q) = some s) : ∃ val, (binOp op t (.string p) (.string q)).run C.P w = .ok val w ∧ VR w F ρ s val := by
  cases op <;> simp only [sbin] at h <;> (try (cases h; done))
  case add =>
    replace h := bif_some h
    obtain ⟨hc, h⟩ := h
    cases h
    simp at hc
    refine ⟨_, ?_, .str _⟩
    have : ¬ ((p.size + q.size : Nat) : Int) > IntKind.i64.max := by
      have : IntKind.i64.max = 9223372036854775807 := by decide
      omega
    simp only [binOp, Op.stringOp, if_neg this]
    rfl
  case eql => cases h; exact ⟨_, by simp [binOp, Op.stringOp, bytes_eq, Sem.run, pure], .bool _⟩
  case neq => cases h; exact ⟨_, by simp [binOp, Op.stringOp, bytes_eq, Sem.run, pure], .bool _⟩
theorem bin_bool {op : BinOp} {t : TypeId} {p q : Bool} (ht : C.P.underlying t = some .bool) (h : sbinB op (.bool p) (.bool q) = some s) : ∃ val, (binOp op t (.bool p) (.bool q)).run C.P w = .ok val w ∧ VR w F ρ s val := by
  have he : (Op.equal t (.bool p) (.bool q)).run C.P w = .ok (p == q) w := by
    have h1 : ∀ d, (Op.equalIn (d + 1) t (.bool p) (.bool q)).run C.P w = .ok (p == q) w := fun d => by
      simp only [Op.equalIn, Sem.run_bind, run_underlying ht, Result.andThen]
      rfl
    exact h1 9999
  cases op <;> simp only [sbinB] at h <;> (try (cases h; done))
  case eql => cases h; exact ⟨_, by simp [binOp, he], .bool _⟩
  case neq => cases h; exact ⟨_, by simp [binOp, he], .bool _⟩
theorem sbin_kinds {op : BinOp} (h : sbin op c d = some s) : (∃ k p k2 q, c = .int k p ∧ d = .int k2 q) ∨ (∃ p q, c = .str p ∧ d = .str q) := by
  unfold sbin at h
  split at h <;> first | exact .inl ⟨_, _, _, _, rfl, rfl⟩ | exact .inr ⟨_, _, rfl, rfl⟩ | (cases h; done)
theorem ok_bin {op : BinOp} {t : TypeId} {x y : Operand} {x' y' : Opd} (hx : copd x = some x') (hy : copd y = some y')
    (hr : HR C ρ F H w) (he : ER w F ρ e a.tmps) (h : sbin op (ev e x') (ev e y') = some s) :
    OpOK C (do pure (.value (← (do eqGuard op t x y (a.eval x) (a.eval y); binOp op t (a.eval x) (a.eval y))))) ρ F H w s H := by
  have h1 := copd_vr hx he
  have h2 := copd_vr hy he
  generalize ev e x' = c at *
  generalize ev e y' = d at *
  rcases sbin_kinds h with ⟨k, p, k2, q, rfl, rfl⟩ | ⟨p, q, rfl, rfl⟩
  · rw [vr_int h1, vr_int h2]
    obtain ⟨val, r1, r2⟩ := bin_int (C := C) (w := w) (F := F) (ρ := ρ) (t := t) h
    exact ok_binv rfl (by simp) hr r1 r2
  · rw [vr_str h1, vr_str h2]
    obtain ⟨val, r1, r2⟩ := bin_str (C := C) (w := w) (F := F) (ρ := ρ) (t := t) h
    exact ok_binv rfl (by simp) hr r1 r2
theorem ok_binB {op : BinOp} {t : TypeId} {x y : Operand} {x' y' : Opd} (hx : copd x = some x') (hy : copd y = some y')
    (hr : HR C ρ F H w) (he : ER w F ρ e a.tmps) (hb2 : C.P.underlying t = some .bool) (h : sbinB op (ev e x') (ev e y') = some s) :
    OpOK C (do pure (.value (← (do eqGuard op t x y (a.eval x) (a.eval y); binOp op t (a.eval x) (a.eval y))))) ρ F H w s H := by
  have h1 := copd_vr hx he
  have h2 := copd_vr hy he
  generalize ev e x' = c at *
  generalize ev e y' = d at *
  have hk : ∃ p q, c = .bool p ∧ d = .bool q := by
    unfold sbinB at h
    split at h <;> first | exact ⟨_, _, rfl, rfl⟩ | (cases h; done)
  obtain ⟨p, q, rfl, rfl⟩ := hk
  rw [vr_bool h1, vr_bool h2]
  obtain ⟨val, r1, r2⟩ := bin_bool (w := w) (F := F) (ρ := ρ) hb2 h
  exact ok_binv rfl (by simp) hr r1 r2
theorem ok_notB {t : TypeId} {x : Operand} {y : Opd} (hx : copd x = some y) (hr : HR C ρ F H w) (he : ER w F ρ e a.tmps) {b : Bool} (h : ev e y = .bool b) :
    OpOK C (do pure (.value (← Op.unary .not (a.eval x)))) ρ F H w (.bool (!b)) H := by
  have h1 := copd_vr hx he
  rw [h] at h1
  rw [vr_bool h1]
  exact OpOK.val hr (val := .bool (!b)) rfl (.bool _)
theorem ok_negI {x : Operand} {y : Opd} (hx : copd x = some y) (hr : HR C ρ F H w) (he : ER w F ρ e a.tmps) {k : IntKind} {n : Int} (h : ev e y = .int k n) :
    OpOK C (do pure (.value (← Op.unary .neg (a.eval x)))) ρ F H w (.int k (k.wrap (0 - n))) H := by
  have h1 := copd_vr hx he
  rw [h] at h1
  rw [vr_int h1]
  exact OpOK.val hr (val := .int k (k.wrap (0 - n))) rfl (.int _ _)
theorem ok_convI {sr ds : TypeId} {k j : IntKind} {x : Operand} {y : Opd} (hx : copd x = some y) (hs : C.P.underlying sr = some (.int j)) (hd : C.P.underlying ds = some (.int k)) (hr : HR C ρ F H w) (he : ER w F ρ e a.tmps)
    {k' : IntKind} {n : Int} (h : ev e y = .int k' n) : OpOK C (do pure (.value (← convert sr ds (a.eval x)))) ρ F H w (.int k (k.wrap n)) H := by
  have h1 := copd_vr hx he
  rw [h] at h1
  rw [vr_int h1]
  refine OpOK.val hr (val := .int k (k.wrap n)) ?_ (.int _ _)
  unfold convert
  simp only [Sem.run_bind, run_underlying hs, run_underlying hd, Result.andThen]
  rfl
theorem ok_convS {sr ds : TypeId} {x : Operand} {y : Opd} (hx : copd x = some y) (hs : C.P.underlying sr = some .string) (hd : C.P.underlying ds = some .string) (hr : HR C ρ F H w) (he : ER w F ρ e a.tmps)
    {t : ByteArray} (h : ev e y = .str t) : OpOK C (do pure (.value (← convert sr ds (a.eval x)))) ρ F H w (.str t) H := by
  have h1 := copd_vr hx he
  rw [h] at h1
  rw [vr_str h1]
  refine OpOK.val hr (val := .string t) ?_ (.str _)
  unfold convert
  simp only [Sem.run_bind, run_underlying hs, run_underlying hd, Result.andThen]
  rfl
theorem ok_mkfn {f : FuncId} {fs cs : Array Operand} {cs' : List Opd} (hf : fs.isEmpty = true) (hx : copds cs = some cs') (hr : HR C ρ F H w) (he : ER w F ρ e a.tmps) :
    OpOK C (do pure (.value (← Instr.makeFunc (.func f) (fs.map a.eval) (cs.map a.eval)))) ρ F H w (.fn f (cs'.map (ev e))) H := by
  obtain ⟨h1, h2⟩ := copds_vr hx he
  have : fs.map a.eval = #[] := by
    have : fs = #[] := by simpa using hf
    subst this; simp
  rw [this]
  exact OpOK.val hr (val := .func (.func f) #[] (cs.map a.eval)) rfl (.fn (by simpa using h1) h2)
theorem ok_mkbfn {f : FuncId} {fs cs : Array Operand} {cs' : List Opd} (hf : cs.isEmpty = true) (hx : copds fs = some cs') (hr : HR C ρ F H w) (he : ER w F ρ e a.tmps) :
    OpOK C (do pure (.value (← Instr.makeFunc (.func f) (fs.map a.eval) (cs.map a.eval)))) ρ F H w (.bfn f (cs'.map (ev e))) H := by
  obtain ⟨h1, h2⟩ := copds_vr hx he
  have : cs.map a.eval = #[] := by
    have : cs = #[] := by simpa using hf
    subst this; simp
  rw [this]
  exact OpOK.val hr (val := .func (.func f) (fs.map a.eval) #[]) rfl (.bfn (by simpa using h1) h2)
theorem cfields_run {t : TypeId} {fs : List Field} {i : Nat} {f : Field} (h : cfields C.P t = some fs) (hf : fs[i]? = some f) : ∃ gs, C.P.underlying t = some (.struct gs) ∧ gs[i]? = some f := by
  unfold cfields at h
  split at h
  · rename_i gs hu
    cases h
    exact ⟨gs, hu, by simpa using hf⟩
  · cases h
theorem faddr_vr {off : Nat} {v : Value} (hr : HR C ρ F H w) (hc : cur H c = true) (hv : VR w F ρ c v) (h : faddr1 off c = some s) :
    ∃ B o, v = .pointer (some ⟨B, o, none⟩) ∧ VR w F ρ s (.pointer (some ⟨B, o + off, none⟩)) := by
  unfold faddr1 at h
  split at h
  · rename_i b ver i o
    cases h
    obtain ⟨l, h1, h2, h3, rfl⟩ := cur_ptr hr hc hv
    exact ⟨_, _, rfl, .ptr h1 (by omega) rfl (fun _ => ⟨h3, by rw [Nat.add_assoc]⟩)⟩
  · rename_i cs
    cases h
    cases hv with
    | eptr V hF hk h1 hv =>
      refine ⟨_, _, rfl, .eptr (fun j => V (off + j)) hF (fun j c hj => ?_) (fun j c hj => ?_) (fun j c hj => ?_)⟩ <;> rw [List.getElem?_drop] at hj
      · rw [Nat.add_assoc]; exact hk _ c hj
      · exact h1 _ c hj
      · exact hv _ c hj
  · cases h
theorem ok_faddr {t : TypeId} {i n : Nat} {fs : List Field} {f : Field} {x : Operand} {y : Opd} (hx : copd x = some y) (hfs : cfields C.P t = some fs) (hf : fs[i]? = some f) (hn : csz C.P f.type = some (n + 1))
    (hr : HR C ρ F H w) (he : ER w F ρ e a.tmps) (hc : cur H (ev e y) = true) (h : faddr1 f.offset (ev e y) = some s) : OpOK C (do pure (.value (← Instr.fieldAt t (a.eval x) i))) ρ F H w s H := by
  obtain ⟨gs, h1, h2⟩ := cfields_run hfs hf
  obtain ⟨B, o, h3, h4⟩ := faddr_vr hr hc (copd_vr hx he) h
  refine OpOK.val hr ?_ h4
  unfold Instr.fieldAt
  simp only [Sem.run_bind, run_underlying h1, Result.andThen, h2, h3, Instr.sureAddr, fieldPlace, run_sizeOf' hn]
  simp [Sem.run, pure, add_none]
theorem ok_field {t : TypeId} {i n : Nat} {ag : Bool} {fs : List Field} {f : Field} {x : Operand} {y : Opd} {cs : List SV} (hx : copd x = some y) (hfs : cfields C.P t = some fs) (hf : fs[i]? = some f) (hag : cag C.P f.type = some ag)
    (hn : csz C.P f.type = some n) (hr : HR C ρ F H w) (he : ER w F ρ e a.tmps) (hc : ev e y = .agg cs) (h : part1 ag n cs f.offset = some s) : OpOK C (do pure (.value (← Instr.field t (a.eval x) i))) ρ F H w s H := by
  obtain ⟨gs, h1, h2⟩ := cfields_run hfs hf
  have hv := copd_vr hx he
  rw [hc] at hv
  obtain ⟨vs, h3, h4, h5⟩ := vr_agg_cells hv
  obtain ⟨p1, p2⟩ := part1_vr h h5 (by omega)
  suffices hs : ∃ val, (part f.type vs f.offset).run C.P w = .ok val w ∧ VR w F ρ s val by
    obtain ⟨val, r1, r2⟩ := hs
    refine OpOK.val hr ?_ r2
    unfold Instr.field
    simp only [Sem.run_bind, run_underlying h1, Result.andThen, h2, h3, asAgg]
    simpa [Sem.run, pure] using r1
  unfold part
  cases ag with
  | true =>
    refine ⟨_, by simp only [Sem.run_bind, run_isAgg' hag, Result.andThen, if_true, run_sizeOf' hn]; rfl, by simpa using p1 rfl⟩
  | false =>
    obtain ⟨v, k1, k2⟩ := p2 rfl
    rw [Nat.zero_add] at k1
    refine ⟨v, by simp only [Sem.run_bind, run_isAgg' hag, Result.andThen, Bool.false_eq_true, if_false, k1]; rfl, k2⟩
theorem ok_extract {x : Operand} {y : Opd} {vs : List SV} {i : Nat} (hx : copd x = some y) (hr : HR C ρ F H w) (he : ER w F ρ e a.tmps) (hc : ev e y = .tup vs) (h : vs[i]? = some s) :
    OpOK C (do pure (.value (← Instr.extract (a.eval x) i))) ρ F H w s H := by
  have hv := copd_vr hx he
  rw [hc] at hv
  generalize a.eval x = u at *
  cases hv with
  | tup hn hv =>
    rename_i us
    have hlt := (List.getElem?_eq_some_iff.1 h).1
    have hu : us[i]? = some us[i] := Array.getElem?_eq_getElem (by omega)
    refine OpOK.val hr (val := us[i]) ?_ (hv i s _ h hu)
    simp only [Instr.extract, hu]
    rfl
theorem sidx_vr {n i : Nat} {v : Value} (h : sidx n c = some i) (hv : VR w F ρ c v) : ∃ k j, v = .int k j ∧ 0 ≤ j ∧ j < n ∧ i = j.toNat := by
  unfold sidx at h
  split at h
  · rename_i k j
    replace h := bif_some h
    obtain ⟨hc, h⟩ := h
    cases h
    simp at hc
    exact ⟨k, j, vr_int hv, hc.1, hc.2, rfl⟩
  · cases h
theorem ok_iaddrA {t el : TypeId} {len n i : Nat} {x ix : Operand} {x' i' : Opd} (hx : copd x = some x') (hi : copd ix = some i') (hu : C.P.underlying t = some (.array len el)) (hn : csz C.P el = some (n + 1))
    (hr : HR C ρ F H w) (he : ER w F ρ e a.tmps) (hc : cur H (ev e x') = true) (h1 : sidx len (ev e i') = some i) (h : faddr1 (i * (n + 1)) (ev e x') = some s) :
    OpOK C (do pure (.value (← Instr.indexAt t (a.eval x) (a.eval ix)))) ρ F H w s H := by
  obtain ⟨B, o, h3, h4⟩ := faddr_vr hr hc (copd_vr hx he) h
  obtain ⟨k, j, h5, h6, h7, rfl⟩ := sidx_vr h1 (copd_vr hi he)
  refine OpOK.val hr ?_ h4
  unfold Instr.indexAt
  simp only [Sem.run_bind, h5, asIntOf, run_underlying hu, Result.andThen, h3, Instr.sureAddr]
  simp only [pure, Sem.run, Result.andThen, h6, h7, and_self, if_true, Sem.run_bind, run_sizeOf' hn, add_none]
theorem ok_iaddrS {t el : TypeId} {n : Nat} {x ix : Operand} {x' i' : Opd} (hx : copd x = some x') (hi : copd ix = some i') (hu : C.P.underlying t = some (.slice el)) (hn : csz C.P el = some (n + 1))
    (hr : HR C ρ F H w) (he : ER w F ρ e a.tmps) (hc : curZ H (n + 1) (ev e x') = true) (h : siaddr (ev e x') (ev e i') = some s) :
    OpOK C (do pure (.value (← Instr.indexAt t (a.eval x) (a.eval ix)))) ρ F H w s H := by
  have hv := copd_vr hx he
  have hvi := copd_vr hi he
  generalize ev e x' = c at *
  generalize ev e i' = d at *
  suffices hs : ∃ B o len cap k j, a.eval x = .slice (some ⟨B, o, none⟩) len cap ∧ a.eval ix = .int k j ∧ 0 ≤ j ∧ j < len ∧ VR w F ρ s (.pointer (some ⟨B, o + j.toNat * (n + 1), none⟩)) by
    obtain ⟨B, o, len, cap, k, j, h1, h2, h3, h4, h5⟩ := hs
    refine OpOK.val hr ?_ h5
    unfold Instr.indexAt
    simp only [Sem.run_bind, h2, asIntOf, run_underlying hu, Result.andThen, h1, Instr.sureAddr]
    simp only [pure, Sem.run, Result.andThen, h3, h4, and_self, if_true, Sem.run_bind, run_sizeOf' hn, add_none]
  generalize a.eval x = u at *
  unfold siaddr at h
  split at h
  · rename_i z L f
    simp only [Option.bind_eq_some_iff, Option.map_eq_some_iff] at h
    obtain ⟨i, hi', cs, hcs, rfl⟩ := h
    obtain ⟨k, j, h5, h6, h7, rfl⟩ := sidx_vr hi' hvi
    cases hv with
    | lst V hcap hfull hz hat h1 hv =>
      have hzn : z = n + 1 := by
        unfold curZ at hc
        simp at hc
        rcases hc with hc | hc
        · exact hc
        · subst hc; simp at hcs
      subst hzn
      rcases hat with h0 | ⟨B, o, ha, hF, hk⟩
      · subst h0; simp at hcs
      · subst ha
        exact ⟨B, o, _, _, k, j, rfl, h5, h6, h7, .eptr (fun q => V j.toNat q) hF (fun q c hq => hk _ q cs c hcs hq) (fun q c hq => h1 _ q cs c hcs hq) (fun q c hq => hv _ q cs c hcs hq)⟩
  · rename_i b ver off m
    simp only [Option.map_eq_some_iff] at h
    obtain ⟨i, hi', rfl⟩ := h
    obtain ⟨k, j, h5, h6, h7, rfl⟩ := sidx_vr hi' hvi
    obtain ⟨l, z, L, ex, hl, hb, hbr, g1, g2⟩ := cur_slc hr (curZ_cur hc) hv
    have hzn : z = n + 1 := by
      unfold curZ at hc
      simp [hb] at hc
      exact hc
    subst hzn
    cases hvi' : l.virt with
    | true =>
      obtain ⟨_, _, _, rfl⟩ := g1 hvi'
      simp at h7; omega
    | false =>
      obtain ⟨g3, q, rfl, g4⟩ := g2 hvi'
      have := g4 (by omega)
      subst this
      refine ⟨_, _, _, _, k, j, rfl, h5, h6, h7, .ptr hl (Nat.le_of_eq hbr.2.1.symm) rfl (fun _ => ⟨hvi', ?_⟩)⟩
      have e1 : l.esz = n + 1 := hbr.2.2.1
      rw [e1, Nat.add_mul]
      congr 3
      simp [Nat.add_assoc]
  · cases h
end
end Go.Sh
namespace Go.Sh
set_option linter.unusedSectionVars false
set_option linter.unusedVariables false
set_option linter.unusedSimpArgs false
set_option linter.unnecessarySimpa false
section
variable {C : Ctx} {ρ : Map} {F : Nat → Prop} {H H' : Heap} {w : World} {e : Env} {a : Act} {s c d : SV}
theorem ok_indexA {t el : TypeId} {len n i : Nat} {ag : Bool} {x ix : Operand} {x' i' : Opd} {cs : List SV} (hx : copd x = some x') (hi : copd ix = some i') (hu : C.P.underlying t = some (.array len el)) (hag : cag C.P el = some ag) (hn : csz C.P el = some n)
    (hr : HR C ρ F H w) (he : ER w F ρ e a.tmps) (hc : ev e x' = .agg cs) (h1 : sidx len (ev e i') = some i) (h : part1 ag n cs (i * n) = some s) :
    OpOK C (do pure (.value (← Instr.index t (a.eval x) (a.eval ix)))) ρ F H w s H := by
  have hv := copd_vr hx he
  rw [hc] at hv
  obtain ⟨vs, h3, h4, h5⟩ := vr_agg_cells hv
  obtain ⟨k, j, k5, k6, k7, rfl⟩ := sidx_vr h1 (copd_vr hi he)
  obtain ⟨p1, p2⟩ := part1_vr h h5 (by omega)
  suffices hs : ∃ val, (part el vs (j.toNat * n)).run C.P w = .ok val w ∧ VR w F ρ s val by
    obtain ⟨val, r1, r2⟩ := hs
    refine OpOK.val hr ?_ r2
    unfold Instr.index
    simp only [Sem.run_bind, k5, asIntOf, run_underlying hu, Result.andThen, h3]
    simp only [pure, Sem.run, Result.andThen, k6, k7, and_self, if_true, Sem.run_bind, run_sizeOf' hn]
    exact r1
  unfold part
  cases ag with
  | true => exact ⟨_, by simp only [Sem.run_bind, run_isAgg' hag, Result.andThen, if_true, run_sizeOf' hn]; rfl, by simpa using p1 rfl⟩
  | false =>
    obtain ⟨v, k1, k2⟩ := p2 rfl
    rw [Nat.zero_add] at k1
    exact ⟨v, by simp only [Sem.run_bind, run_isAgg' hag, Result.andThen, Bool.false_eq_true, if_false, k1]; rfl, k2⟩
theorem ok_indexS {t : TypeId} {i : Nat} {x ix : Operand} {x' i' : Opd} {b : ByteArray} {y : UInt8} (hx : copd x = some x') (hi : copd ix = some i') (hu : C.P.underlying t = some .string)
    (hr : HR C ρ F H w) (he : ER w F ρ e a.tmps) (hc : ev e x' = .str b) (h1 : sidx b.size (ev e i') = some i) (h : b.data[i]? = some y) :
    OpOK C (do pure (.value (← Instr.index t (a.eval x) (a.eval ix)))) ρ F H w (.int .u8 y.toNat) H := by
  have hv := copd_vr hx he
  rw [hc] at hv
  obtain ⟨k, j, k5, k6, k7, rfl⟩ := sidx_vr h1 (copd_vr hi he)
  have hb : b[j.toNat]? = some y := by
    obtain ⟨hlt, hv'⟩ := Array.getElem?_eq_some_iff.1 h
    have hlt' : j.toNat < b.size := hlt
    rw [getElem?_pos b j.toNat hlt']
    exact congrArg some hv'
  refine OpOK.val hr (val := .int .u8 y.toNat) ?_ (.int _ _)
  unfold Instr.index
  simp only [Sem.run_bind, k5, asIntOf, run_underlying hu, Result.andThen, vr_str hv]
  simp only [pure, Sem.run, Result.andThen, k6, if_true, hb]
theorem ok_lenS {ats : Array TypeId} {t0 ty : TypeId} {x : Operand} {y : Opd} {b : ByteArray} (hx : copd x = some y) (h0 : ats[0]? = some t0) (hu : C.P.underlying t0 = some .string) (hr : HR C ρ F H w) (he : ER w F ρ e a.tmps) (hc : ev e y = .str b) :
    OpOK C (do pure (.value (← Builtin.len_ ats ty #[a.eval x]))) ρ F H w (.int .i64 b.size) H := by
  have hv := copd_vr hx he
  rw [hc] at hv
  refine OpOK.val hr (val := .int .i64 b.size) ?_ (.int _ _)
  unfold Builtin.len_
  simp only [h0]
  simp [run_underlying hu, vr_str hv, goInt]
theorem lenL_vr {n : Nat} {v : Value} (hr : HR C ρ F H w) (hc : cur H c = true) (h : lenL c = some n) (hv : VR w F ρ c v) : ∃ q cap, v = .slice q n cap := by
  unfold lenL at h
  split at h
  · cases h
    cases hv
    exact ⟨_, _, rfl⟩
  · cases h
    obtain ⟨l, z, L, ex, _, _, _, g1, g2⟩ := cur_slc hr hc hv
    cases hvi : l.virt with
    | true => obtain ⟨q, rfl, _, rfl⟩ := g1 hvi; exact ⟨_, _, rfl⟩
    | false => obtain ⟨_, q, rfl, _⟩ := g2 hvi; exact ⟨_, _, rfl⟩
  · cases h
theorem ok_lenL {ats : Array TypeId} {t0 el ty : TypeId} {x : Operand} {y : Opd} {n : Nat} (hx : copd x = some y) (h0 : ats[0]? = some t0) (hu : C.P.underlying t0 = some (.slice el)) (hr : HR C ρ F H w) (he : ER w F ρ e a.tmps)
    (hc : cur H (ev e y) = true) (h : lenL (ev e y) = some n) : OpOK C (do pure (.value (← Builtin.len_ ats ty #[a.eval x]))) ρ F H w (.int .i64 n) H := by
  obtain ⟨q, cap, hq⟩ := lenL_vr hr hc h (copd_vr hx he)
  refine OpOK.val hr (val := .int .i64 n) ?_ (.int _ _)
  unfold Builtin.len_
  simp only [h0]
  simp [run_underlying hu, hq, goInt]
theorem ok_lenA {ats : Array TypeId} {t0 el ty : TypeId} {x : Operand} {n : Nat} (h0 : ats[0]? = some t0) (hu : C.P.underlying t0 = some (.array n el)) (hr : HR C ρ F H w) :
    OpOK C (do pure (.value (← Builtin.len_ ats ty #[a.eval x]))) ρ F H w (.int .i64 n) H := by
  refine OpOK.val hr (val := .int .i64 n) ?_ (.int _ _)
  unfold Builtin.len_
  simp only [h0]
  simp [run_underlying hu, goInt]
theorem foldI_run {f : Int → Int → Int} {g : Value → Value → Sem Value} (hg : ∀ k x k2 y, g (.int k x) (.int k2 y) = pure (.int k (f x y))) :
    ∀ (cs : List SV) (vs : List Value) (x : Int) (k : IntKind) (s : SV), cs.length = vs.length → (∀ (j : Nat) c v, cs[j]? = some c → vs[j]? = some v → VR w F ρ c v) → foldI f x k cs = some s →
    ∃ n, s = .int k n ∧ (vs.foldlM g (.int k x)).run C.P w = .ok (.int k n) w := by
  intro cs
  induction cs with
  | nil =>
    intro vs x k s hn _ h
    simp [foldI] at h
    subst h
    cases vs with
    | nil => exact ⟨x, rfl, rfl⟩
    | cons _ _ => simp at hn
  | cons c cs ih =>
    intro vs x k s hn hv h
    cases vs with
    | nil => simp at hn
    | cons v vs =>
      cases c <;> simp only [foldI] at h <;> (try (cases h; done))
      rename_i k2 y
      replace h := bif_some h
      obtain ⟨_, h⟩ := h
      have h0 := vr_int (hv 0 _ v rfl rfl)
      subst h0
      obtain ⟨n, rfl, hrun⟩ := ih vs (f x y) k s (by simpa using hn) (fun j c v hc hv' => hv (j + 1) c v (by simpa using hc) (by simpa using hv')) h
      refine ⟨n, rfl, ?_⟩
      simp only [List.foldlM_cons, Sem.run_bind, hg]
      exact hrun
theorem fold1_run {f : Int → Int → Int} {g : Value → Value → Sem Value} (hg : ∀ k x k2 y, g (.int k x) (.int k2 y) = pure (.int k (f x y))) {xs : Array Operand} {ys : List Opd} (hx : copds xs = some ys) (he : ER w F ρ e a.tmps)
    (h : fold1 f (ys.map (ev e)) = some s) : ∃ k n x r, s = .int k n ∧ (xs.map a.eval).toList = x :: r ∧ (r.foldlM g x).run C.P w = .ok (.int k n) w := by
  obtain ⟨h1, h2⟩ := copds_vr hx he
  generalize ys.map (ev e) = cs at *
  cases cs with
  | nil => simp [fold1] at h
  | cons c cs =>
    cases c <;> simp only [fold1] at h <;> (try (cases h; done))
    rename_i k x
    cases hl : (xs.map a.eval).toList with
    | nil => simp at hl; subst hl; simp at h1
    | cons v vs =>
      have hg' : ∀ j : Nat, (xs.map a.eval)[j]? = (v :: vs)[j]? := fun j => by rw [← hl]; simp
      have h0 := vr_int (h2 0 _ v rfl (by rw [hg']; rfl))
      subst h0
      have hlen := congrArg List.length hl
      obtain ⟨n, rfl, hrun⟩ := foldI_run (C := C) (w := w) (F := F) (ρ := ρ) hg cs vs x k s (by simp at h1 hlen; omega) (fun j c v hc hv => h2 (j + 1) c v (by simpa using hc) (by rw [hg']; simpa using hv)) h
      exact ⟨k, n, _, _, rfl, rfl, hrun⟩
theorem ok_max {ats : Array TypeId} {ty : TypeId} {xs : Array Operand} {ys : List Opd} (hx : copds xs = some ys) (hr : HR C ρ F H w) (he : ER w F ρ e a.tmps)
    (h : fold1 (fun a b => if b > a then b else a) (ys.map (ev e)) = some s) : OpOK C (do pure (.value (← Builtin.max_ ats ty (xs.map a.eval)))) ρ F H w s H := by
  obtain ⟨k, n, x, r, rfl, h1, h2⟩ := fold1_run (C := C) (g := Builtin.max2) (fun _ _ _ _ => rfl) hx he h
  refine OpOK.val hr ?_ (.int k n)
  unfold Builtin.max_
  simp only [h1]
  exact h2
theorem ok_min {ats : Array TypeId} {ty : TypeId} {xs : Array Operand} {ys : List Opd} (hx : copds xs = some ys) (hr : HR C ρ F H w) (he : ER w F ρ e a.tmps)
    (h : fold1 (fun a b => if b < a then b else a) (ys.map (ev e)) = some s) : OpOK C (do pure (.value (← Builtin.min_ ats ty (xs.map a.eval)))) ρ F H w s H := by
  obtain ⟨k, n, x, r, rfl, h1, h2⟩ := fold1_run (C := C) (g := Builtin.min2) (fun _ _ _ _ => rfl) hx he h
  refine OpOK.val hr ?_ (.int k n)
  unfold Builtin.min_
  simp only [h1]
  exact h2
theorem sbnd_run {y n : Nat} {v : Value} {code : BoundsCode} (h : sbnd y c = some n) (hv : VR w F ρ c v) : n ≤ y ∧ ∀ z, y ≤ z → (Instr.sliceBound v z code).run C.P w = .ok n w := by
  unfold sbnd at h
  split at h
  · rename_i k j
    replace h := bif_some h
    obtain ⟨hc, h⟩ := h
    cases h
    simp at hc
    refine ⟨by omega, fun z hz => ?_⟩
    rw [vr_int hv]
    unfold Instr.sliceBound
    have : 0 ≤ j ∧ j ≤ (z : Int) := by omega
    simp only [Sem.run_bind, asIntOf, pure, Sem.run, Result.andThen, this, and_self, if_true]
  · cases h
theorem copdO_vr {x : Option Operand} {y : Option Opd} (h : copdO x = some y) (he : ER w F ρ e a.tmps) : (x = none ∧ y = none) ∨ ∃ p q, x = some p ∧ y = some q ∧ VR w F ρ (ev e q) (a.eval p) := by
  cases x with
  | none => simp [copdO] at h; exact .inl ⟨rfl, h.symm⟩
  | some p =>
    simp only [copdO, Option.map_eq_some_iff] at h
    obtain ⟨q, h1, rfl⟩ := h
    exact .inr ⟨p, q, rfl, rfl, copd_vr h1 he⟩
theorem bounds2 {isS : Bool} {n cap h l : Nat} {lo hi : Option Operand} {lo' hi' : Option Opd} (hlo : copdO lo = some lo') (hhi : copdO hi = some hi') (he : ER w F ρ e a.tmps) (hcap : n ≤ cap)
    (h1 : obnd n n (hi'.map (ev e)) = some h) (h2 : obnd h 0 (lo'.map (ev e)) = some l) : l ≤ h ∧ h ≤ n ∧ (Instr.sliceBounds isS n cap (lo.map a.eval) (hi.map a.eval) none).run C.P w = .ok (l, h, cap) w := by
  have a1 : h ≤ n ∧ (match hi.map a.eval, (none : Option Value) with
      | some v, some _ => Instr.sliceBound v cap .slice3B
      | some v, none => Instr.sliceBound v cap (if isS then .sliceAcap else .sliceAlen)
      | none, none => pure n
      | none, some _ => stuck "Slice: max without high").run C.P w = .ok h w := by
    rcases copdO_vr hhi he with ⟨rfl, rfl⟩ | ⟨p, q, rfl, rfl, hv⟩
    · simp [obnd] at h1; subst h1; exact ⟨Nat.le_refl _, rfl⟩
    · obtain ⟨k1, k2⟩ := sbnd_run (C := C) (code := if isS then .sliceAcap else .sliceAlen) h1 hv
      exact ⟨k1, k2 cap hcap⟩
  have a2 : l ≤ h ∧ (match lo.map a.eval with
      | some v => Instr.sliceBound v h (if (none : Option Value).isSome then .slice3C else .sliceB)
      | none => pure 0).run C.P w = .ok l w := by
    rcases copdO_vr hlo he with ⟨rfl, rfl⟩ | ⟨p, q, rfl, rfl, hv⟩
    · simp [obnd] at h2; subst h2; exact ⟨Nat.zero_le _, rfl⟩
    · obtain ⟨k1, k2⟩ := sbnd_run (C := C) (code := .sliceB) h2 hv
      exact ⟨k1, k2 h (Nat.le_refl _)⟩
  refine ⟨a2.1, a1.1, ?_⟩
  have b1 := a1.2
  have b2 := a2.2
  unfold Instr.sliceBounds
  simp only [Sem.run_bind, pure, Sem.run, Result.andThen_ok] at b1 b2 ⊢
  cases hi <;> cases lo <;> simp only [Option.map_none, Option.map_some] at b1 b2 ⊢ <;> simp_all [Sem.run, pure]
end
end Go.Sh
namespace Go.Sh
set_option linter.unusedSectionVars false
set_option linter.unusedVariables false
set_option linter.unusedSimpArgs false
set_option linter.unnecessarySimpa false
section
variable {C : Ctx} {ρ : Map} {F : Nat → Prop} {H H' : Heap} {w : World} {e : Env} {a : Act} {s c d : SV}
theorem ok_sliceS {t : TypeId} {x : Operand} {y : Opd} {lo hi : Option Operand} {lo' hi' : Option Opd} {b : ByteArray} (hx : copd x = some y) (hlo : copdO lo = some lo') (hhi : copdO hi = some hi') (hu : C.P.underlying t = some .string)
    (hr : HR C ρ F H w) (he : ER w F ρ e a.tmps) (hc : ev e y = .str b) (h : ssliceS b (lo'.map (ev e)) (hi'.map (ev e)) = some s) :
    OpOK C (do pure (.value (← Instr.sliceAt t (a.eval x) (lo.map a.eval) (hi.map a.eval) ((none : Option Operand).map a.eval)))) ρ F H w s H := by
  have hv := copd_vr hx he
  rw [hc] at hv
  unfold ssliceS at h
  simp only [Option.bind_eq_some_iff, Option.map_eq_some_iff] at h
  obtain ⟨h1, k1, l1, k2, rfl⟩ := h
  obtain ⟨_, _, hrun⟩ := bounds2 (C := C) (w := w) (isS := false) hlo hhi he (Nat.le_refl b.size) k1 k2
  refine OpOK.val hr (val := .string (b.extract l1 h1)) ?_ (.str _)
  unfold Instr.sliceAt
  simp only [Sem.run_bind, run_underlying hu, Result.andThen, Instr.slice, vr_str hv, Option.map_none, hrun]
  simp [Sem.run, pure, hrun]
theorem take_drop_get {A : Type} {L : List A} {h l i : Nat} {x : A} (hx : ((L.take h).drop l)[i]? = some x) : L[l + i]? = some x ∧ l + i < h := by
  rw [List.getElem?_drop, List.getElem?_take] at hx
  split at hx
  · exact ⟨hx, by assumption⟩
  · cases hx
theorem orElse_some {A : Type} {x : Option A} {f : Unit → Option A} {s : A} (h : x.orElse f = some s) : x = some s ∨ f () = some s := by
  cases x with
  | none => exact .inr h
  | some y => exact .inl h
theorem ok_sliceX {t el : TypeId} {n : Nat} {x : Operand} {y : Opd} {lo hi mx : Option Operand} {lo' hi' mx' : Option Opd} (hx : copd x = some y) (hlo : copdO lo = some lo') (hhi : copdO hi = some hi') (hmx : copdO mx = some mx')
    (hu : C.P.underlying t = some (.slice el)) (hn : csz C.P el = some n) (hr : HR C ρ F H w) (he : ER w F ρ e a.tmps) (hc : curZ H n (ev e y) = true)
    (h : ssliceX H (ev e y) (lo'.map (ev e)) (hi'.map (ev e)) (mx'.map (ev e)) = some s) :
    OpOK C (do pure (.value (← Instr.sliceAt t (a.eval x) (lo.map a.eval) (hi.map a.eval) (mx.map a.eval)))) ρ F H w s H := by
  have hv := copd_vr hx he
  generalize ev e y = c at *
  unfold ssliceX at h
  split at h
  · rename_i b v off m hvv hh hm
    cases hmx' : mx' with
    | some q => rw [hmx'] at hm; cases hm
    | none =>
      have hmn : mx = none := by
        rcases copdO_vr hmx he with ⟨e1, _⟩ | ⟨_, _, _, e2, _⟩
        · exact e1
        · rw [hmx'] at e2; cases e2
      subst hmx' hmn
      split at h
      · rename_i v0 z L ex hb0
        simp only [Option.bind_eq_some_iff, Option.map_eq_some_iff] at h
        obtain ⟨h1, k1, l1, k2, rfl⟩ := h
        obtain ⟨l, z9, L9, ex9, hl, hb, hbr, g1, g2⟩ := cur_slc hr (curZ_cur hc) hv
        rw [hb0] at hb
        cases hb
        have hb := hb0
        have hzn : z = n := by
          unfold curZ at hc
          simp [hb] at hc
          exact hc
        subst hzn
        have hver : v = l.ver := hbr.2.1.symm
        have hesz : l.esz = z := hbr.2.2.1
        have hLc : L.length ≤ l.cap := hbr.2.2.2.2.1
        have k1' : obnd (L.length - off) (L.length - off) (hi'.map (ev e)) = some h1 := by rw [hh]; exact k1
        have his : ∃ u, hi = some u := by
          rcases copdO_vr hhi he with ⟨_, e2⟩ | ⟨p, q, e1, _, _⟩
          · rw [e2] at hh; cases hh
          · exact ⟨p, e1⟩
        obtain ⟨u, rfl⟩ := his
        suffices hs : ∃ q len cap, a.eval x = .slice q len cap ∧ L.length - off ≤ cap ∧ (L.length - off ≤ cap → l1 ≤ h1 → h1 ≤ L.length - off → VR w F ρ (.slc b v (off + l1) (h1 - l1)) (.slice (if cap = l1 then q else q.map (·.add (l1 * z))) (h1 - l1) (cap - l1))) by
          obtain ⟨q, len, cap, j1, j2, j3⟩ := hs
          obtain ⟨p1, p2, hrun⟩ := bounds2 (C := C) (w := w) (isS := true) hlo hhi he j2 k1' k2
          refine OpOK.val hr ?_ (j3 j2 p1 p2)
          unfold Instr.sliceAt
          have hrun' : (Instr.sliceBounds true len cap (lo.map a.eval) (some (a.eval u)) none).run C.P w = .ok (l1, h1, cap) w := hrun
          simp only [Sem.run_bind, run_underlying hu, Result.andThen, Instr.slice, j1, Option.map_some, Option.map_none, hrun', run_sizeOf' hn]
          rfl
        cases hvi : l.virt with
        | true =>
          obtain ⟨q, hq, rfl, rfl⟩ := g1 hvi
          have hcap0 := hbr.2.2.2.2.2.2.1 hvi
          refine ⟨q, 0, 0, hq, by omega, fun j2 p1 p2 => ?_⟩
          have : h1 = 0 := by omega
          subst this
          have : l1 = 0 := by omega
          subst this
          exact .slc hl (Nat.le_of_eq hver) rfl (fun _ => ⟨fun _ => ⟨q, rfl, rfl, rfl⟩, (fun hf => by rw [hvi] at hf; cases hf)⟩)
        | false =>
          obtain ⟨g3, q, hq, g4⟩ := g2 hvi
          refine ⟨q, m, l.cap - off, hq, by omega, fun j2 p1 p2 => ?_⟩
          refine .slc hl (Nat.le_of_eq hver) rfl (fun _ => ⟨(fun hf => by rw [hvi] at hf; cases hf), fun _ => ⟨by omega, _, by congr 1; omega, fun hlt => ?_⟩⟩)
          rw [if_neg (by omega), g4 (by omega)]
          simp [add_none, hesz, Nat.add_mul, Nat.add_assoc]
      · cases h
  · cases h
theorem ok_sliceL {t el : TypeId} {n : Nat} {x : Operand} {y : Opd} {lo hi mx : Option Operand} {lo' hi' mx' : Option Opd} (hx : copd x = some y) (hlo : copdO lo = some lo') (hhi : copdO hi = some hi') (hmx : copdO mx = some mx')
    (hu : C.P.underlying t = some (.slice el)) (hn : csz C.P el = some n) (hr : HR C ρ F H w) (he : ER w F ρ e a.tmps) (hc : curZ H n (ev e y) = true) (hsome : mx'.isSome = true → hi'.isSome = true)
    (h : sslice (ev e y) (lo'.map (ev e)) (hi'.map (ev e)) (mx'.map (ev e)) = some s) :
    OpOK C (do pure (.value (← Instr.sliceAt t (a.eval x) (lo.map a.eval) (hi.map a.eval) (mx.map a.eval)))) ρ F H w s H := by
  have hv := copd_vr hx he
  generalize ev e y = c at *
  suffices hs : ∃ q len cap l1 h1 m1, a.eval x = .slice q len cap ∧ (Instr.sliceBounds true len cap (lo.map a.eval) (hi.map a.eval) (mx.map a.eval)).run C.P w = .ok (l1, h1, m1) w ∧
      VR w F ρ s (.slice (if m1 = l1 then q else q.map (·.add (l1 * n))) (h1 - l1) (m1 - l1)) by
    obtain ⟨q, len, cap, l1, h1, m1, k1, k2, k3⟩ := hs
    refine OpOK.val hr ?_ k3
    unfold Instr.sliceAt
    simp only [Sem.run_bind, run_underlying hu, Result.andThen, Instr.slice, k1, k2, run_sizeOf' hn]
    rfl
  cases hmx' : mx' with
  | none =>
    have hmn : mx = none := by
      rcases copdO_vr hmx he with ⟨e1, _⟩ | ⟨_, _, _, e2, _⟩
      · exact e1
      · rw [hmx'] at e2; cases e2
    subst hmx' hmn
    simp only [Option.map_none] at h ⊢
    unfold sslice at h
    split at h
    · rename_i z L f
      simp only [Option.bind_eq_some_iff, Option.map_eq_some_iff, obnd, Option.some.injEq] at h
      obtain ⟨m, rfl, h1, k1, l1, k2, rfl⟩ := h
      generalize a.eval x = u at *
      cases hv with
      | lst V hcap hfull hz hat h1' hv =>
        rename_i q cap
        obtain ⟨p1, p2, hrun⟩ := bounds2 (C := C) (w := w) (isS := true) hlo hhi he hcap k1 k2
        refine ⟨q, _, cap, l1, h1, cap, rfl, hrun, ?_⟩
        have hlen : ((L.take h1).drop l1).length = h1 - l1 := by simp; omega
        rw [← hlen]
        refine .lst (fun i j => V (l1 + i) j) (by rw [hlen]; omega) (fun hf => ?_) (fun i cs hi => hz _ cs (take_drop_get hi).1) ?_ (fun i j cs c hi hj => h1' _ j cs c (take_drop_get hi).1 hj) (fun i j cs c hi hj => hv _ j cs c (take_drop_get hi).1 hj)
        · simp at hf
          rw [hlen, hfull hf.1, hf.2]
        · by_cases hemp : (L.take h1).drop l1 = []
          · exact .inl hemp
          · right
            have hlt : l1 < h1 := by
              have : 0 < ((L.take h1).drop l1).length := List.length_pos_iff.2 hemp
              omega
            rcases hat with h0 | ⟨B, o, ha, hF, hk⟩
            · subst h0; simp at p2; omega
            · subst ha
              have hne : L ≠ [] := fun h => by subst h; simp at p2; omega
              have hzn : z = n := by
                unfold curZ at hc
                simp at hc
                rcases hc with hc | hc
                · exact hc
                · exact absurd hc hne
              subst hzn
              refine ⟨B, o + l1 * z, ?_, hF, fun i j cs c hi hj => ?_⟩
              · rw [if_neg (by omega)]; simp [add_none]
              · have := hk _ j cs c (take_drop_get hi).1 hj
                rw [Nat.add_mul] at this
                rw [Nat.add_assoc o]
                exact this
    · rename_i b ver off m
      simp only [Option.bind_eq_some_iff, Option.map_eq_some_iff] at h
      obtain ⟨h1, k1, l1, k2, rfl⟩ := h
      obtain ⟨l, z, L, ex, hl, hb, hbr, g1, g2⟩ := cur_slc hr (curZ_cur hc) hv
      have hzn : z = n := by
        unfold curZ at hc
        simp [hb] at hc
        exact hc
      subst hzn
      have hver : ver = l.ver := hbr.2.1.symm
      have hesz : l.esz = z := hbr.2.2.1
      cases hvi : l.virt with
      | true =>
        obtain ⟨q, hq, rfl, rfl⟩ := g1 hvi
        obtain ⟨p1, p2, hrun⟩ := bounds2 (C := C) (w := w) (isS := true) hlo hhi he (Nat.le_refl 0) k1 k2
        have : h1 = 0 := by omega
        subst this
        have : l1 = 0 := by omega
        subst this
        exact ⟨q, 0, 0, 0, 0, 0, hq, hrun, .slc hl (Nat.le_of_eq hver) rfl (fun _ => ⟨fun _ => ⟨q, rfl, rfl, rfl⟩, (fun hf => by rw [hvi] at hf; cases hf)⟩)⟩
      | false =>
        obtain ⟨g3, q, hq, g4⟩ := g2 hvi
        obtain ⟨p1, p2, hrun⟩ := bounds2 (C := C) (w := w) (isS := true) hlo hhi he (show m ≤ l.cap - off by omega) k1 k2
        refine ⟨q, m, l.cap - off, l1, h1, l.cap - off, hq, hrun, .slc hl (Nat.le_of_eq hver) rfl (fun _ => ⟨(fun hf => by rw [hvi] at hf; cases hf), fun _ => ⟨by omega, _, by congr 1; omega, fun hlt => ?_⟩⟩)⟩
        rw [if_neg (by omega), g4 (by omega)]
        simp [add_none, hesz, Nat.add_mul, Nat.add_assoc]
    · cases h
  | some mq =>
    obtain ⟨mo, rfl, hmv⟩ : ∃ mo, mx = some mo ∧ VR w F ρ (ev e mq) (a.eval mo) := by
      rcases copdO_vr hmx he with ⟨_, e2⟩ | ⟨p, q, e1, e2, e3⟩
      · rw [hmx'] at e2; cases e2
      · rw [hmx'] at e2; cases e2; exact ⟨p, e1, e3⟩
    subst hmx'
    simp only [Option.map_some] at h ⊢
    have hb3 : ∀ {n0 cap m h1 l1 : Nat}, n0 ≤ cap → sbnd n0 (ev e mq) = some m → obnd m n0 (hi'.map (ev e)) = some h1 → obnd h1 0 (lo'.map (ev e)) = some l1 → hi'.isSome = true →
        l1 ≤ h1 ∧ h1 ≤ m ∧ m ≤ n0 ∧ (Instr.sliceBounds true n0 cap (lo.map a.eval) (hi.map a.eval) (some (a.eval mo))).run C.P w = .ok (l1, h1, m) w := by
      intro n0 cap m h1 l1 hcap km kh kl hsome
      obtain ⟨m1, m2⟩ := sbnd_run (C := C) (code := .slice3Acap) km hmv
      rcases copdO_vr hhi he with ⟨_, rfl⟩ | ⟨hp, hq, rfl, rfl, hhv⟩
      · cases hsome
      · obtain ⟨h3, h4⟩ := sbnd_run (C := C) (code := .slice3B) kh hhv
        have a2 : l1 ≤ h1 ∧ (match lo.map a.eval with
            | some v => Instr.sliceBound v h1 (if (some (a.eval mo)).isSome then .slice3C else .sliceB)
            | none => pure 0).run C.P w = .ok l1 w := by
          rcases copdO_vr hlo he with ⟨rfl, rfl⟩ | ⟨p, q, rfl, rfl, hv⟩
          · simp [obnd] at kl; subst kl; exact ⟨Nat.zero_le _, rfl⟩
          · obtain ⟨k1, k2⟩ := sbnd_run (C := C) (code := .slice3C) kl hv
            exact ⟨k1, k2 h1 (Nat.le_refl _)⟩
        refine ⟨a2.1, h3, m1, ?_⟩
        have b2 := a2.2
        have b1 := h4 m (Nat.le_refl _)
        have b0 := m2 cap hcap
        unfold Instr.sliceBounds
        simp only [Sem.run_bind, pure, Sem.run, Result.andThen_ok] at b0 b1 b2 ⊢
        cases lo <;> simp only [Option.map_none, Option.map_some] at b2 ⊢ <;> simp_all [Sem.run, pure]
    have hsome := hsome rfl
    unfold sslice at h
    split at h
    · rename_i z L f
      simp only [Option.bind_eq_some_iff, Option.map_eq_some_iff, obnd] at h
      obtain ⟨m, km, h1, k1, l1, k2, rfl⟩ := h
      generalize a.eval x = u at *
      cases hv with
      | lst V hcap hfull hz hat h1' hv =>
        rename_i q cap
        obtain ⟨p1, p2, p3, hrun⟩ := hb3 hcap km k1 k2 hsome
        refine ⟨q, _, cap, l1, h1, m, rfl, hrun, ?_⟩
        have hlen : ((L.take h1).drop l1).length = h1 - l1 := by simp; omega
        rw [← hlen]
        refine .lst (fun i j => V (l1 + i) j) (by rw [hlen]; omega) (fun hf => ?_) (fun i cs hi => hz _ cs (take_drop_get hi).1) ?_ (fun i j cs c hi hj => h1' _ j cs c (take_drop_get hi).1 hj) (fun i j cs c hi hj => hv _ j cs c (take_drop_get hi).1 hj)
        · simp at hf
          rw [hlen, hf]
        · by_cases hemp : (L.take h1).drop l1 = []
          · exact .inl hemp
          · right
            have hlt : l1 < h1 := by
              have : 0 < ((L.take h1).drop l1).length := List.length_pos_iff.2 hemp
              omega
            rcases hat with h0 | ⟨B, o, ha, hF, hk⟩
            · subst h0; simp at p3; omega
            · subst ha
              have hne : L ≠ [] := fun h => by subst h; simp at p3; omega
              have hzn : z = n := by
                unfold curZ at hc
                simp at hc
                rcases hc with hc | hc
                · exact hc
                · exact absurd hc hne
              subst hzn
              refine ⟨B, o + l1 * z, ?_, hF, fun i j cs c hi hj => ?_⟩
              · rw [if_neg (by omega)]; simp [add_none]
              · have := hk _ j cs c (take_drop_get hi).1 hj
                rw [Nat.add_mul] at this
                rw [Nat.add_assoc o]
                exact this
    · rename_i b ver off m0
      simp only [Option.bind_eq_some_iff, Option.map_eq_some_iff, obnd] at h
      obtain ⟨m, km, h1, k1, l1, k2, h⟩ := h
      obtain ⟨l, z, L, ex, hl, hb, hbr, g1, g2⟩ := cur_slc hr (curZ_cur hc) hv
      have hsl : ∃ q cap, a.eval x = .slice q m0 cap ∧ m0 ≤ cap := by
        cases hvi : l.virt with
        | true => obtain ⟨q, hq, _, rfl⟩ := g1 hvi; exact ⟨q, 0, hq, Nat.le_refl _⟩
        | false => obtain ⟨g3, q, hq, _⟩ := g2 hvi; exact ⟨q, _, hq, by omega⟩
      obtain ⟨q, cap, hq, hcap⟩ := hsl
      obtain ⟨p1, p2, p3, hrun⟩ := hb3 hcap km k1 k2 hsome
      refine ⟨q, m0, cap, l1, h1, m, hq, hrun, ?_⟩
      replace h := Option.some.inj h
      cases hml : m == l1 with
      | false => rw [hml, cond_false] at h; rw [← h]; exact VR.undef _
      | true =>
      rw [hml, cond_true] at h
      rw [← h]
      have hml : m = l1 := by simpa using hml
      have e1 : h1 - l1 = 0 := by omega
      have e2 : m - l1 = 0 := by omega
      rw [e1, e2]
      exact VR.lst (L := []) (fun _ _ => undef) (Nat.le_refl _) (fun _ => rfl) (by simp) (.inl rfl) (by simp) (by simp)
    · cases h
end
end Go.Sh
namespace Go.Sh
set_option linter.unusedSectionVars false
set_option linter.unusedVariables false
set_option linter.unusedSimpArgs false
set_option linter.unnecessarySimpa false
section
variable {C : Ctx} {ρ : Map} {F : Nat → Prop} {H H' : Heap} {w : World} {e : Env} {a : Act} {s c d : SV}
theorem fill_spl (off : Nat) : ∀ (l : List Value) (k : Nat) (cells : Array Value), off + k + l.length ≤ cells.size →
    (l.zipIdx k).foldl (fun (cs : Array Value) (p : Value × Nat) => cs.setIfInBounds (off + p.2) p.1) cells = spl cells (off + k) l
  | [], k, cells, _ => by simp [spl]
  | v :: r, k, cells, h => by
    simp only [List.length_cons] at h
    rw [List.zipIdx_cons, List.foldl_cons, fill_spl off r (k + 1) _ (by simp; omega)]
    apply Array.ext_getElem?
    intro j
    rw [spl_get (by simp; omega), spl_get (by simp; omega)]
    simp only [List.length_cons]
    by_cases e1 : j < off + k
    · have e2 : j < off + (k + 1) := by omega
      simp only [e1, e2, if_true]
      rw [Array.getElem?_setIfInBounds_ne (by omega)]
    · by_cases e2 : j = off + k
      · subst e2
        have e3 : off + k < off + (k + 1) := by omega
        have e4 : ¬ off + k < off + k := by omega
        have e5 : off + k < off + k + (r.length + 1) := by omega
        simp only [e3, e4, e5, if_true, if_false]
        have : off + k < cells.size := by omega
        simp [this]
      · have a1 : ¬ j < off + (k + 1) := by omega
        simp only [a1, e1, if_false]
        by_cases e3 : j < off + (k + 1) + r.length
        · have e4 : j < off + k + (r.length + 1) := by omega
          simp only [e3, e4, if_true]
          rw [show j - (off + k) = (j - (off + (k + 1))) + 1 by omega]
          simp
        · have e4 : ¬ j < off + k + (r.length + 1) := by omega
          simp only [e3, e4, if_false]
          rw [Array.getElem?_setIfInBounds_ne (by omega)]
theorem fill_step {place : Nat → Option (Nat × Nat)} {cells : Array Value} {i off : Nat} {v : Value} {rest : List (Nat × Value)} (hp : place i = some (off, v.cells.size)) (hle : off + v.cells.size ≤ cells.size) :
    Instr.fill place cells ((i, v) :: rest) = Instr.fill place (spl cells off v.cells.toList) rest := by
  have : (v.cells.zipIdx.foldl (fun cs (c, j) => cs.setIfInBounds (off + j) c) cells) = spl cells off v.cells.toList := by
    have := fill_spl off v.cells.toList 0 cells (by simpa using hle)
    rw [Nat.add_zero] at this
    rw [← this, ← Array.foldl_toList, Array.toList_zipIdx]
  simp only [Instr.fill, hp]
  rw [if_neg (by simp; omega), this]
theorem fillP_run {place : Nat → Option (Nat × Nat)} : ∀ (qs : List (Nat × Operand)) (ps : List (Nat × Nat × Opd)) (z r : List SV) (cells : Array Value),
    ps.length = qs.length → (∀ (j : Nat) p q, qs[j]? = some q → ps[j]? = some p → place q.1 = some (p.1, p.2.1) ∧ copd q.2 = some p.2.2) → ER w F ρ e a.tmps → z.length = cells.size → CellsR w F ρ cells 0 z → fillP (ev e) z ps = some r →
    ∃ out, Instr.fill place cells (qs.map fun q => (q.1, a.eval q.2)) = some out ∧ r.length = out.size ∧ CellsR w F ρ out 0 r
  | [], [], z, r, cells, _, _, _, hz, hc, h => by
    simp [fillP] at h; subst h
    exact ⟨cells, rfl, hz, hc⟩
  | [], _ :: _, _, _, _, hl, _, _, _, _, _ => by simp at hl
  | _ :: _, [], _, _, _, hl, _, _, _, _, _ => by simp at hl
  | q :: qs, (off, n, x) :: ps, z, r, cells, hl, hp, he, hz, hc, h => by
    obtain ⟨h1, h2⟩ := hp 0 _ _ rfl rfl
    simp only [fillP, Option.bind_eq_some_iff] at h
    obtain ⟨cs, hcs, h⟩ := h
    replace h := bif_some h
    obtain ⟨hb, h⟩ := h
    simp at hb
    obtain ⟨hn, hle⟩ := hb
    obtain ⟨k1, k2, _⟩ := cells1_vr hcs (copd_vr h2 he)
    have hsz : (spl cells off (a.eval q.2).cells.toList).size = cells.size := spl_size (by simp; omega)
    have hnew := spl_cells (at_ := 0) hc k2 hn k1 hle (by omega)
    rw [Nat.zero_add] at hnew
    obtain ⟨out, o1, o2, o3⟩ := fillP_run qs ps _ r (spl cells off (a.eval q.2).cells.toList) (by simpa using hl) (fun j p q hq hp' => hp (j + 1) p q (by simpa using hq) (by simpa using hp')) he
      (by rw [put1_length hn hle, hsz]; exact hz) hnew h
    refine ⟨out, ?_, o2, o3⟩
    simp only [List.map_cons]
    rw [fill_step (by rw [h1, ← k1, hn]) (by omega)]
    exact o1
theorem run_places {P : Program} {w : World} : ∀ (fs : List Field), (∀ f ∈ fs, (csz P f.type).isSome = true) → Sem.run P (fs.mapM (fun (f : Field) => (do pure (f.offset, ← sizeOf f.type) : Sem (Nat × Nat)))) w = .ok (fs.map fun (f : Field) => (f.offset, (csz P f.type).getD 0)) w
  | [], _ => rfl
  | f :: fs, h => by
    obtain ⟨n, hn⟩ := Option.isSome_iff_exists.1 (h f (by simp))
    have ih := run_places (P := P) (w := w) fs (fun g hg => h g (by simp [hg]))
    simp only [List.mapM_cons, Sem.run_bind, run_sizeOf' hn, Result.andThen, List.map_cons, hn, Option.getD_some]
    simp only [pure, Sem.run, Result.andThen, Sem.run_bind] at ih ⊢
    rw [ih]
theorem ok_build {t : TypeId} {qs : Array (Nat × Operand)} {z r : List SV} {ps : List (Nat × Nat × Opd)} (hz : czero C.P t = some z) (hp : cbuild C.P t qs.toList = some ps) (hr : HR C ρ F H w) (he : ER w F ρ e a.tmps)
    (h : fillP (ev e) z ps = some r) : OpOK C (do pure (.value (← Instr.build t (qs.map fun (i, x) => (i, a.eval x))))) ρ F H w (.agg r) H := by
  obtain ⟨i, v, hi, hv, h1, h2⟩ := czero_vr (w := w) (F := F) (ρ := ρ) hz
  have fin : ∀ out : Array Value, r.length = out.size → CellsR w F ρ out 0 r → VR w F ρ (.agg r) (.agg out) := fun out o1 o2 =>
    .agg o1 (fun j c hj => let ⟨_, _, _, h⟩ := o2 j c hj; h) (fun j c v hj hv => by
      obtain ⟨v', h3, h4, _⟩ := o2 j c hj
      rw [Nat.zero_add] at h3
      rw [h3] at hv; cases hv; exact h4)
  have hlist : (qs.map fun (i, x) => (i, a.eval x)).toList = qs.toList.map fun q => (q.1, a.eval q.2) := by simp
  unfold cbuild at hp
  split at hp
  · rename_i fs hu
    cases hall : fs.toList.all (fun f => (csz C.P f.type).isSome) with
    | false => rw [hall] at hp; simp at hp
    | true =>
      rw [hall] at hp
      simp only [Bool.not_true, cond_false] at hp
      obtain ⟨p1, p2⟩ := allS_map hp
      have hpl := run_places (P := C.P) (w := w) fs.toList (fun f hf => List.all_eq_true.1 hall f hf)
      obtain ⟨out, o1, o2, o3⟩ := fillP_run (place := ((fs.toList.map fun f => (f.offset, (csz C.P f.type).getD 0)).toArray[·]?)) qs.toList ps z r v.cells p1 (fun j p q hq hp' => by
        have := p2 j q p hq hp'
        split at this
        · rename_i f hf
          split at this
          · rename_i n x hn hx
            cases this
            refine ⟨?_, hx⟩
            simp [hf, hn]
          · cases this
        · cases this) he h1 h2 h
      refine OpOK.val hr ?_ (fin out o2 o3)
      unfold Instr.build
      simp only [Sem.run_bind, run_zeroValue' hi hv, Result.andThen, run_underlying hu, Array.mapM_eq_mapM_toList]
      rw [Sem.run_map, hpl]
      simp only [Result.andThen, hlist, o1]
      rfl
  · rename_i n el hu
    split at hp
    · rename_i m hm
      obtain ⟨p1, p2⟩ := allS_map hp
      obtain ⟨out, o1, o2, o3⟩ := fillP_run (place := fun i => some (i * m, m)) qs.toList ps z r v.cells p1 (fun j p q hq hp' => by
        have := p2 j q p hq hp'
        simp only [Option.map_eq_some_iff] at this
        obtain ⟨x, hx, rfl⟩ := this
        exact ⟨rfl, hx⟩) he h1 h2 h
      refine OpOK.val hr ?_ (fin out o2 o3)
      unfold Instr.build
      simp only [Sem.run_bind, run_zeroValue' hi hv, Result.andThen, run_underlying hu, run_sizeOf' hm, hlist, o1]
      rfl
    · cases hp
  · cases hp
end
end Go.Sh
namespace Go.Sh
set_option linter.unusedSectionVars false
set_option linter.unusedVariables false
set_option linter.unusedSimpArgs false
set_option linter.unnecessarySimpa false
section
variable {C : Ctx} {ρ : Map} {F : Nat → Prop} {H H' : Heap} {w : World} {e : Env} {a : Act} {s c d : SV}
def RowsR (w : World) (F : Nat → Prop) (ρ : Map) (vs : Array Value) (at_ z : Nat) (L : List (List SV)) : Prop :=
  (∀ (i : Nat) cs, L[i]? = some cs → cs.length = z) ∧ ∀ (i : Nat) cs, L[i]? = some cs → CellsR w F ρ vs (at_ + i * z) cs
theorem push_arr (hr : HR C ρ F H w) {L : List (List SV)} {z cap : Nat} {ex : Bool} {vs : Array Value} {ty : TypeId} {w' : World} (hw : w'.heap = w.heap.push (.cells vs ty)) (hcap : L.length ≤ cap) (hex : ex = true → cap = L.length)
    (hsz : cap * z ≤ vs.size) (hc : RowsR w F ρ vs 0 z L) (n : Nat) (hn : n ≤ L.length) (hout : w'.os = w.os ∧ w'.output = w.output := by exact ⟨rfl, rfl⟩) :
    Done C ρ F H w (.slc H.bl.length 0 0 n) (hnew H (.arr 0 z L ex)) (.slice (some ⟨w.heap.size, 0, none⟩) n cap) w' := by
  let l : Loc := { blk := w.heap.size, base := 0, cap := cap, esz := z, ver := 0, virt := false, arr := true }
  have hh : ∀ B, B < w.heap.size → w'.heap[B]? = w.heap[B]? := fun B hB => by
    rw [hw]; simp [Array.getElem?_push, Nat.ne_of_lt hB]
  have hk : Keeps F w w' := fun B hB => hh B (hr.fro B hB)
  have hle : ρ.le (ρ.put H.bl.length l) := fun b l' h => ⟨l', by rw [Map.put_other _ _ (Nat.ne_of_lt (hr.dom b l' h))]; exact h, .inl rfl⟩
  have hp := hr.push (w' := w') (by rw [hw]; simp) hh (.arr 0 z L ex) l (fun _ => ⟨Nat.le_refl _, by rw [hw]; simp [l]⟩)
    ⟨rfl, rfl, rfl, hc.1, hcap, hex, (fun h => by cases h), fun _ => ⟨vs, ty, (0, 0), by rw [hw]; simp [l], fun o ho => by simp, by simpa [l] using hsz, fun i cs hi => by
      have := hc.2 i cs hi
      exact this.mono hk (fun _ h => h) hle⟩⟩ hout
  exact ⟨_, F, .slc (l := l) (Map.put_same _ _ _) (Nat.le_refl _) rfl (fun _ => ⟨(fun h => by cases h), fun _ => ⟨by simp [l]; omega, _, rfl, fun _ => by simp [l]⟩⟩), hp.1, hp.2⟩
theorem fillS_run {z : Nat} : ∀ (qs : List (Nat × Operand)) (ps : List (Nat × Opd)) (L r : List (List SV)) (cells : Array Value),
    ps.length = qs.length → (∀ (j : Nat) p q, qs[j]? = some q → ps[j]? = some p → q.1 = p.1 ∧ copd q.2 = some p.2) → ER w F ρ e a.tmps → L.length * z ≤ cells.size → RowsR w F ρ cells 0 z L → fillS (ev e) z L ps = some r →
    ∃ out, Instr.fill (fun i => some (i * z, z)) cells (qs.map fun q => (q.1, a.eval q.2)) = some out ∧ r.length = L.length ∧ out.size = cells.size ∧ RowsR w F ρ out 0 z r
  | [], [], L, r, cells, _, _, _, hz, hc, h => by
    simp [fillS] at h; subst h
    exact ⟨cells, rfl, rfl, rfl, hc⟩
  | [], _ :: _, _, _, _, hl, _, _, _, _, _ => by simp at hl
  | _ :: _, [], _, _, _, hl, _, _, _, _, _ => by simp at hl
  | q :: qs, (i, x) :: ps, L, r, cells, hl, hp, he, hz, hc, h => by
    obtain ⟨h1, h2⟩ := hp 0 _ _ rfl rfl
    simp only [fillS, Option.bind_eq_some_iff] at h
    obtain ⟨cs, hcs, h⟩ := h
    replace h := bif_some h
    obtain ⟨hb, h⟩ := h
    simp at hb
    obtain ⟨hn, hlt⟩ := hb
    simp only at h1 h2
    obtain ⟨k1, k2, _⟩ := cells1_vr hcs (copd_vr h2 he)
    have hm : (i + 1) * z ≤ L.length * z := Nat.mul_le_mul_right z hlt
    rw [Nat.add_mul, Nat.one_mul] at hm
    have hle : i * z + (a.eval q.2).cells.size ≤ cells.size := by omega
    have hsz : (spl cells (i * z) (a.eval q.2).cells.toList).size = cells.size := spl_size (by simp; omega)
    have hrow : RowsR w F ρ (spl cells (i * z) (a.eval q.2).cells.toList) 0 z (L.set i cs) := by
      refine ⟨fun j ds hj => ?_, fun j ds hj => ?_⟩
      · by_cases e1 : j = i
        · subst e1; simp [hlt] at hj; subst hj; exact hn
        · rw [List.getElem?_set_ne (Ne.symm e1)] at hj; exact hc.1 j ds hj
      · by_cases e1 : j = i
        · subst e1
          simp [hlt] at hj
          subst hj
          obtain ⟨old, hold⟩ : ∃ o, L[j]? = some o := ⟨L[j], List.getElem?_eq_getElem hlt⟩
          have := spl_cells (at_ := 0 + j * z) (o := 0) (n := z) (hc.2 j old hold) k2 hn k1 (by rw [hc.1 j old hold]; omega) (by rw [hc.1 j old hold]; omega)
          rw [Nat.add_zero, Nat.zero_add] at this
          rw [Nat.zero_add]
          intro q' c' hq'
          refine this q' c' ?_
          have hlen := (List.getElem?_eq_some_iff.1 hq').1
          unfold put1
          rw [List.take_zero, List.nil_append, List.getElem?_append_left hlen]
          exact hq'
        · rw [List.getElem?_set_ne (Ne.symm e1)] at hj
          refine cells_keep (n := 0) (hc.2 j ds hj) (by simp; omega) ?_
          have hd := hc.1 j ds hj
          simp only [Array.length_toList]
          rcases Nat.lt_or_gt_of_ne e1 with hlt' | hlt'
          · left
            have : (j + 1) * z ≤ i * z := Nat.mul_le_mul_right z hlt'
            rw [Nat.add_mul, Nat.one_mul] at this
            omega
          · right
            have : (i + 1) * z ≤ j * z := Nat.mul_le_mul_right z hlt'
            rw [Nat.add_mul, Nat.one_mul] at this
            omega
    obtain ⟨out, o1, o2, o3, o4⟩ := fillS_run qs ps _ r (spl cells (i * z) (a.eval q.2).cells.toList) (by simpa using hl) (fun j p q hq hp' => hp (j + 1) p q (by simpa using hq) (by simpa using hp')) he
      (by rw [hsz]; simpa using hz) hrow h
    refine ⟨out, ?_, by simpa using o2, o3.trans hsz, o4⟩
    simp only [List.map_cons]
    rw [h1, fill_step (by rw [← k1, hn]) hle]
    exact o1
def zeroRow (zs : Array Value) (n : Nat) : Array Value := (Array.range n).map fun i => zs[i % zs.size]!
theorem zeroRow_rows {z n : Nat} {zs : Array Value} {zl : List SV} (hz : zl.length = z) (hzs : zl.length = zs.size) (hc : CellsR w F ρ zs 0 zl) (h0 : 0 < z) : RowsR w F ρ (zeroRow zs (n * z)) 0 z (List.replicate n zl) := by
  refine ⟨fun i cs hi => ?_, fun i cs hi => ?_⟩ <;> rw [List.getElem?_replicate] at hi <;> split at hi <;> (try (cases hi; done)) <;> cases hi
  · exact hz
  · rename_i hlt
    intro j c hj
    have hjl := (List.getElem?_eq_some_iff.1 hj).1
    obtain ⟨v, h1, h2, h3⟩ := hc j c hj
    have hm : (i + 1) * z ≤ n * z := Nat.mul_le_mul_right z hlt
    rw [Nat.add_mul, Nat.one_mul] at hm
    refine ⟨v, ?_, h2, h3⟩
    rw [Nat.zero_add] at h1 ⊢
    unfold zeroRow
    have hmod : (i * z + j) % zs.size = j := by
      rw [← hzs, hz, Nat.add_comm, Nat.add_mul_mod_self_right, Nat.mod_eq_of_lt (by omega)]
    simp only [Array.getElem?_map, Array.getElem?_range, show i * z + j < n * z by omega, if_true, Option.map_some, hmod]
    congr 1
    have hj' : j < zs.size := by omega
    rw [getElem!_pos zs j hj']
    rw [Array.getElem?_eq_getElem hj'] at h1
    exact Option.some.inj h1
theorem ok_bslice {t el : TypeId} {n z : Nat} {qs : Array (Nat × Operand)} {zl : List SV} {ps : List (Nat × Opd)} {L : List (List SV)} (he0 : celem C.P t = some el) (hsz : csz C.P el = some (z + 1)) (hz : czero C.P el = some zl)
    (hp : allS (qs.toList.map fun p => (copd p.2).map fun x => (p.1, x)) = some ps) (hlim : n * (z + 1) ≤ 16777216) (hzl : zl.length = z + 1) (hr : HR C ρ F H w) (he : ER w F ρ e a.tmps)
    (h : fillS (ev e) (z + 1) (List.replicate n zl) ps = some L) : OpOK C (do pure (.value (← Instr.buildSlice t n (qs.map fun (i, x) => (i, a.eval x))))) ρ F H w (.slc H.bl.length 0 0 n) (hnew H (.arr 0 (z + 1) L true)) := by
  obtain ⟨i, v, hi, hv, h1, h2⟩ := czero_vr (w := w) (F := F) (ρ := ρ) hz
  have hu : C.P.underlying t = some (.slice el) := by
    unfold celem at he0
    split at he0
    · cases he0; assumption
    · cases he0
  have hlist : (qs.map fun (i, x) => (i, a.eval x)).toList = qs.toList.map fun q => (q.1, a.eval q.2) := by simp
  obtain ⟨p1, p2⟩ := allS_map hp
  have hzr : (zeroRow v.cells (n * (z + 1))).size = n * (z + 1) := by simp [zeroRow]
  obtain ⟨out, o1, o2, o3, o4⟩ := fillS_run qs.toList ps (List.replicate n zl) L (zeroRow v.cells (n * (z + 1))) p1 (fun j p q hq hp' => by
    have := p2 j q p hq hp'
    simp only [Option.map_eq_some_iff] at this
    obtain ⟨x, hx, rfl⟩ := this
    exact ⟨rfl, hx⟩) he (by rw [hzr]; simp) (zeroRow_rows hzl h1 h2 (Nat.succ_pos z)) h
  have hlen : L.length = n := by simpa using o2
  refine OpOK.valD (w' := { w with heap := w.heap.push (.cells out el) }) ?_ (push_arr hr rfl (Nat.le_refl L.length) (fun _ => rfl) (by rw [o3, hzr, hlen]; exact Nat.le_refl _) o4 n (by omega))
  have hlim' : ¬ n * (z + 1) > 2 ^ 24 := by omega
  unfold Instr.buildSlice
  simp only [Sem.run_bind, run_underlying hu, Result.andThen, run_sizeOf' hsz, if_neg hlim']
  by_cases h0 : n * (z + 1) = 0
  · have hzz : (Array.range (n * (z + 1))).map (fun x => (#[] : Array Value)[x % (#[] : Array Value).size]!) = zeroRow v.cells (n * (z + 1)) := by
      unfold zeroRow; rw [h0]; simp
    simp only [h0, if_true, pure, Sem.run, Result.andThen, Sem.run_bind]
    rw [h0] at hzz
    rw [h0] at o1
    simp only [hzz, hlist, o1]
    simp [newRow, newObj, Sem.run, hlen]
  · simp only [h0, if_false, Sem.run_bind, run_zeroValue' hi hv, Result.andThen, pure, Sem.run]
    have hzz : (Array.range (n * (z + 1))).map (fun x => v.cells[x % v.cells.size]!) = zeroRow v.cells (n * (z + 1)) := rfl
    simp only [hzz, hlist, o1]
    simp [newRow, newObj, Sem.run, hlen]
end
end Go.Sh
namespace Go.Sh
set_option linter.unusedSectionVars false
set_option linter.unusedVariables false
set_option linter.unusedSimpArgs false
set_option linter.unnecessarySimpa false
section
variable {C : Ctx} {ρ : Map} {F : Nat → Prop} {H H' : Heap} {w : World} {e : Env} {a : Act} {s c d : SV}
theorem cell_heap {w' : World} (h : w'.heap = w.heap) (ad : Addr) : w'.cell? ad = w.cell? ad := by simp [World.cell?, h]
theorem rows_nil {vs : Array Value} {at_ z : Nat} : RowsR w F ρ vs at_ z [] := ⟨by simp, by simp⟩
theorem rows_ok {vs : Array Value} {z : Nat} {X : List (List SV)} (h : RowsR w F ρ vs 0 z X) (hn : vs.size = X.length * z) : ∀ v ∈ vs.toList, one1 v = true := by
  intro v hv
  obtain ⟨j, hj, rfl⟩ := List.mem_iff_getElem.1 hv
  simp at hj
  have hz : 0 < z := by
    rcases Nat.eq_zero_or_pos z with h0 | h0
    · subst h0; omega
    · exact h0
  have hi : j / z < X.length := by
    apply Nat.div_lt_of_lt_mul
    rw [Nat.mul_comm]; omega
  have hx : X[j / z]? = some X[j / z] := List.getElem?_eq_getElem hi
  have hl := h.1 _ _ hx
  have hm : j % z < (X[j / z]).length := by rw [hl]; exact Nat.mod_lt _ hz
  obtain ⟨v', h1, h2, h3⟩ := h.2 _ _ hx (j % z) _ (List.getElem?_eq_getElem hm)
  have : 0 + j / z * z + j % z = j := by
    rw [Nat.zero_add, Nat.mul_comm]; exact Nat.div_add_mod j z
  rw [this, Array.getElem?_eq_getElem (by omega)] at h1
  have : v' = vs.toList[j] := by simpa using (Option.some.inj h1).symm
  rw [← this]
  exact h2.one h3
def SrcR (C : Ctx) (w : World) (F : Nat → Prop) (H : Heap) (ρ ρ1 : Map) (c : SV) : Prop := ∀ b ver off n l x, c = .slc b ver off n → ρ b = some l → hget H b = some x → x.live = true → BR C w F ρ1 l x
theorem srcR_self (hr : HR C ρ F H w) : SrcR C w F H ρ ρ c := fun b ver off n l x _ hl hb hx => by
  obtain ⟨l', h1, h2⟩ := hr.live b x hb hx
  rw [hl] at h1; cases h1
  exact h2
theorem rd_run (hr : HR C ρ F H w) {z : Nat} (hz : 0 < z) {X : List (List SV)} {v : Value} (hv : VR w F ρ c v) (h : rdL z H c = some X) :
    ∃ q cap cells, v = .slice q X.length cap ∧ (∀ w' : World, w'.heap = w.heap → (Builtin.firstCells z X.length v).run C.P w' = .ok cells w') ∧ cells.size = X.length * z ∧ ∀ ρ1 : Map, SrcR C w F H ρ ρ1 c → RowsR w F ρ1 cells 0 z X := by
  unfold rdL at h
  split at h
  · rename_i z' L f
    replace h := bif_some h
    obtain ⟨hc, h⟩ := h
    have h' : L = X := Option.some.inj h
    subst h'
    clear h
    cases hv with
    | lst V hcap hfull hz' hat h1 hv =>
      rename_i q cap
      rcases hat with h0 | ⟨B, o, ha, hF, hk⟩
      · subst h0
        refine ⟨q, cap, #[], rfl, fun w' hw => ?_, by simp, fun _ _ => rows_nil⟩
        cases q with
        | none => rfl
        | some q => simp only [Builtin.firstCells, List.length_nil, Nat.zero_mul]; rfl
      · subst ha
        by_cases h0 : L = []
        · subst h0
          exact ⟨_, cap, #[], rfl, fun w' hw => by simp only [Builtin.firstCells, List.length_nil, Nat.zero_mul]; rfl, by simp, fun _ _ => rows_nil⟩
        · have hzz : z' = z := by
            simp at hc
            rcases hc with hc | hc
            · exact hc
            · exact absurd hc h0
          subst hzz
          refine ⟨_, cap, ((List.range (L.length * z')).map fun j => V (j / z') (j % z')).toArray, rfl, fun w' hw => ?_, by simp, fun ρ1 _ => ⟨fun i cs hi => hz' i cs hi, fun i cs hi j c hj => ?_⟩⟩
          · simp only [Builtin.firstCells]
            refine run_loadCells w' _ _ _ (fun j hj => ?_)
            rw [add_none, cell_heap hw]
            have hi : j / z' < L.length := Nat.div_lt_of_lt_mul (by rw [Nat.mul_comm]; exact hj)
            have hx : L[j / z']? = some L[j / z'] := List.getElem?_eq_getElem hi
            have hm : j % z' < (L[j / z']).length := by rw [hz' _ _ hx]; exact Nat.mod_lt _ hz
            have := hk _ _ _ _ hx (List.getElem?_eq_getElem hm)
            rw [Nat.add_assoc, Nat.mul_comm, Nat.div_add_mod] at this
            exact this
          · have hil := (List.getElem?_eq_some_iff.1 hi).1
            have hjl := (List.getElem?_eq_some_iff.1 hj).1
            rw [hz' i cs hi] at hjl
            have hm : (i + 1) * z' ≤ L.length * z' := Nat.mul_le_mul_right z' hil
            rw [Nat.add_mul, Nat.one_mul] at hm
            refine ⟨V i j, ?_, (hv i j cs c hi hj).mono (fun _ _ => rfl) (fun _ h => h) (noMap_le _), h1 i j cs c hi hj⟩
            have e1 : (i * z' + j) / z' = i := by
              rw [Nat.add_comm, Nat.add_mul_div_right _ _ hz, Nat.div_eq_of_lt hjl, Nat.zero_add]
            have e2 : (i * z' + j) % z' = j := by rw [Nat.add_comm, Nat.add_mul_mod_self_right, Nat.mod_eq_of_lt hjl]
            rw [Nat.zero_add]
            have hlt : i * z' + j < L.length * z' := by omega
            simp only [List.getElem?_toArray, List.getElem?_map, List.getElem?_range hlt, Option.map_some, e1, e2]
  · rename_i b ver off n
    split at h
    · rename_i ver' z' L ex hb
      replace h := bif_some h
      obtain ⟨hc, h⟩ := h
      simp at hc
      obtain ⟨⟨rfl, rfl⟩, hle⟩ := hc
      cases h
      obtain ⟨l, z2, L2, ex2, hl, hb2, hbr, g1, g2⟩ := cur_slc hr (by unfold cur; simp [hb]) hv
      rw [hb] at hb2; cases hb2
      have hlen : ((L.drop off).take n).length = n := by simp; omega
      cases hvi : l.virt with
      | true =>
        obtain ⟨q, rfl, rfl, rfl⟩ := g1 hvi
        simp only [List.take_zero, List.length_nil, Nat.zero_mul]
        refine ⟨q, 0, #[], rfl, fun w' hw => ?_, by simp, fun _ _ => rows_nil⟩
        cases q with
        | none => rfl
        | some q => simp only [Builtin.firstCells, Nat.zero_mul]; rfl
      | false =>
        obtain ⟨g3, q, rfl, g4⟩ := g2 hvi
        obtain ⟨h1, h2, h3, h4, h5, h6, h7, h8⟩ := hbr
        obtain ⟨vs, ty, fz, k1, k2, k3, k4⟩ := h8 hvi
        rw [hlen]
        by_cases hn0 : n = 0
        · subst hn0
          simp only [List.take_zero]
          refine ⟨q, _, #[], rfl, fun w' hw => ?_, by simp, fun _ _ => rows_nil⟩
          cases q with
          | none => rfl
          | some q => simp only [Builtin.firstCells, Nat.zero_mul]; rfl
        · have := g4 (by omega)
          subst this
          have hm : (off + n) * z' ≤ l.cap * z' := Nat.mul_le_mul_right z' g3
          rw [Nat.add_mul] at hm
          refine ⟨_, _, vs.extract (l.base + off * z') (l.base + off * z' + n * z'), rfl, fun w' hw => ?_, by simp; omega, fun ρ1 hρ1 => ⟨fun i cs hi => ?_, fun i cs hi => ?_⟩⟩
          · simp only [Builtin.firstCells, h3]
            rw [run_loadCells w' _ _ (fun j => vs.getD (l.base + off * z' + j) undef) (fun j hj => by
              rw [add_none, cell_heap hw, cell_at k1]
              have : l.base + off * z' + j < vs.size := by omega
              simp [this])]
            congr 1
            apply Array.ext
            · simp; omega
            · intro j h1 h2
              simp at h1
              have : l.base + off * z' + j < vs.size := by omega
              simp [this]
          · obtain ⟨e1, _⟩ : L[off + i]? = some cs ∧ True := by
              rw [List.getElem?_take] at hi
              split at hi
              · rw [List.getElem?_drop] at hi; exact ⟨hi, trivial⟩
              · cases hi
            exact h4 _ cs e1
          · obtain ⟨e1, e2⟩ : L[off + i]? = some cs ∧ i < n := by
              rw [List.getElem?_take] at hi
              split at hi
              · rw [List.getElem?_drop] at hi; exact ⟨hi, by assumption⟩
              · cases hi
            intro j c hj
            have hjl := (List.getElem?_eq_some_iff.1 hj).1
            rw [h4 _ cs e1] at hjl
            obtain ⟨_, _, _, _, _, _, _, h9⟩ := hρ1 b _ _ _ l _ rfl hl hb rfl
            obtain ⟨vs2, ty2, fz2, m1, m2, m3, m4⟩ := h9 hvi
            rw [k1] at m1; cases m1
            obtain ⟨v', p1, p2⟩ := m4 _ cs e1 j c hj
            refine ⟨v', ?_, p2⟩
            have hm2 : (i + 1) * z' ≤ n * z' := Nat.mul_le_mul_right z' e2
            rw [Nat.add_mul, Nat.one_mul] at hm2
            rw [Array.getElem?_extract, if_pos (by omega)]
            rw [Nat.add_mul] at p1
            rw [show l.base + off * z' + (0 + i * z' + j) = l.base + (off * z' + i * z') + j by omega]
            exact p1
    · cases h
  · cases h
end
end Go.Sh
namespace Go.Sh
set_option linter.unusedSectionVars false
set_option linter.unusedVariables false
set_option linter.unusedSimpArgs false
set_option linter.unnecessarySimpa false
section
variable {C : Ctx} {ρ : Map} {F : Nat → Prop} {H H' : Heap} {w : World} {e : Env} {a : Act} {s c d : SV}
structure ApT (P : Program) (ats : Array TypeId) (el : TypeId) (z : Nat) (i : TypeInfo) (zv : Value) : Prop where
  t0 : ∃ t, ats[0]? = some t ∧ P.underlying t = some (.slice el)
  t1 : ∃ t el', ats[1]? = some t ∧ P.underlying t = some (.slice el')
  inf : P.info? el = some i
  size : i.size = z
  zero : i.zero = some zv
  zsz : zv.cells.size = z
  zpos : 0 < z
  byt : 0 < i.bytes
theorem ApT.csz {P : Program} {ats : Array TypeId} {el : TypeId} {z : Nat} {i : TypeInfo} {zv : Value} (h : ApT P ats el z i zv) : csz P el = some z := by
  unfold Go.Sh.csz; rw [h.inf]; simp [h.size]
theorem run_append_fits {P : Program} {ats : Array TypeId} {el : TypeId} {z : Nat} {i : TypeInfo} {zv : Value} (hT : ApT P ats el z i zv) {ty : TypeId} {base q : Option Addr} {sl sc m mc : Nat} {cells : Array Value}
    (hx : (Builtin.firstCells z m (.slice q m mc)).run P w = .ok cells w) (hfit : sl + m ≤ sc) {w' : World} (hst : ∀ ad, base = some ad → (storeCells (ad.add (sl * z)) cells.toList).run P w = .ok () w') (hno : base = none → w' = w) :
    (Builtin.append_ ats ty #[.slice base sl sc, .slice q m mc]).run P w = .ok (.slice base (sl + m) sc) w' := by
  obtain ⟨t0, h0, hu0⟩ := hT.t0
  obtain ⟨t1, el', h1, hu1⟩ := hT.t1
  unfold Builtin.append_
  simp only [h0, h1, List.getElem?_toArray, List.getElem?_cons_zero, List.getElem?_cons_succ, Sem.run_bind, run_underlying hu0, run_underlying hu1, Result.andThen, run_sizeOf' hT.csz]
  simp only [pure, Sem.run, Result.andThen, Builtin.lenOf, Bool.false_eq_true, if_false, hfit, if_true, Sem.run_bind, Bool.not_false]
  rw [hx]
  cases base with
  | none => simp only [hno rfl]; rfl
  | some ad => simp only [hst ad rfl, Sem.run_bind, Result.andThen]; rfl
theorem run_append_grows {P : Program} {ats : Array TypeId} {el : TypeId} {z : Nat} {i : TypeInfo} {zv : Value} (hT : ApT P ats el z i zv) {ty : TypeId} {base q : Option Addr} {sl sc m mc : Nat} {cells old : Array Value}
    (hx : ∀ w', w'.heap = w.heap → (Builtin.firstCells z m (.slice q m mc)).run P w' = .ok cells w') (ho : ∀ w', w'.heap = w.heap → (Builtin.firstCells z sl (.slice base sl sc)).run P w' = .ok old w') (hfit : ¬ sl + m ≤ sc) (hb : (sl + m) * i.bytes ≤ mostLen) :
    ∃ nc w' vs ty', sl + m ≤ nc ∧ (w'.heap = w.heap.push (.cells vs ty') ∧ w'.os = w.os ∧ w'.output = w.output) ∧ (∃ rest, vs = old ++ cells ++ rest ∧ rest.size = (nc - (sl + m)) * z) ∧
      (Builtin.append_ ats ty #[.slice base sl sc, .slice q m mc]).run P w = .ok (.slice (some ⟨w.heap.size, 0, none⟩) (sl + m) nc) w' := by
  obtain ⟨t0, h0, hu0⟩ := hT.t0
  obtain ⟨t1, el', h1, hu1⟩ := hT.t1
  have hbp := hT.byt
  have hml : mostLen = 1099511627776 := rfl
  have g1 : ¬ Builtin.nextslicecap (sl + m) sc * i.bytes > 2 ^ 48 := by
    have := growslice_fits (need := sl + m) (old := sc) (bytes := i.bytes) (by omega) (by omega)
    omega
  have hle : sl + m ≤ (sl + m) * i.bytes := Nat.le_mul_of_pos_right _ hbp
  have g2 : ¬ (9223372036854775807 < ((sl : Int) + (m : Int))) := by omega
  have g1' : ¬ (281474976710656 < Builtin.nextslicecap (sl + m) sc * i.bytes) := by omega
  refine ⟨grownCap w (sl + m) sc el, w.drew.alloc (.cells (old ++ cells ++ Builtin.zeroCells zv.cells (grownCap w (sl + m) sc el - (sl + m))) el), _, el, ?_, ⟨rfl, rfl, rfl⟩, ⟨_, rfl, by simp [Builtin.zeroCells, hT.zsz]⟩, ?_⟩
  · show sl + m ≤ (sl + m) + _ % _
    omega
  · have hf := hx w.drew rfl
    have hfo := ho w.drew rfl
    have hi := hT.inf
    have hsz := hT.size
    have hz := hT.zero
    simp [Builtin.append_, h0, h1, run_underlying hu0, run_underlying hu1, sizeOf, typeInfo, zeroValue, hi, hz, hsz, Builtin.lenOf, hfit, g2, g1', Question.forced, hf, hfo, newRow, grownCap]
end
end Go.Sh
namespace Go.Sh
set_option linter.unusedSectionVars false
set_option linter.unusedVariables false
set_option linter.unusedSimpArgs false
set_option linter.unnecessarySimpa false
section
variable {C : Ctx} {ρ : Map} {F : Nat → Prop} {H H' : Heap} {w : World} {e : Env} {a : Act} {s c d : SV}
theorem cells_left {vs ws : Array Value} {at_ : Nat} {cs : List SV} (hc : CellsR w F ρ vs at_ cs) : CellsR w F ρ (vs ++ ws) at_ cs := by
  intro j c hj
  obtain ⟨v, h1, h2⟩ := hc j c hj
  have := (Array.getElem?_eq_some_iff.1 h1).1
  exact ⟨v, by rw [Array.getElem?_append_left this]; exact h1, h2⟩
theorem cells_right {vs ws : Array Value} {at_ : Nat} {cs : List SV} (hc : CellsR w F ρ ws at_ cs) : CellsR w F ρ (vs ++ ws) (vs.size + at_) cs := by
  intro j c hj
  obtain ⟨v, h1, h2⟩ := hc j c hj
  refine ⟨v, ?_, h2⟩
  rw [Array.getElem?_append_right (by omega), show vs.size + at_ + j - vs.size = at_ + j by omega]
  exact h1
theorem rows_append {vs ws rest : Array Value} {z : Nat} {Y X : List (List SV)} (hy : RowsR w F ρ vs 0 z Y) (hs : vs.size = Y.length * z) (hx : RowsR w F ρ ws 0 z X) : RowsR w F ρ (vs ++ ws ++ rest) 0 z (Y ++ X) := by
  refine ⟨fun i cs hi => ?_, fun i cs hi => ?_⟩ <;> rw [List.getElem?_append] at hi <;> split at hi
  · exact hy.1 i cs hi
  · exact hx.1 _ cs hi
  · exact cells_left (cells_left (hy.2 i cs hi))
  · rename_i hge
    have := cells_left (ws := rest) (cells_right (vs := vs) (hx.2 _ cs hi))
    rw [hs, Nat.zero_add, ← Nat.add_mul, show Y.length + (i - Y.length) = i by omega] at this
    rwa [Nat.zero_add]
theorem rows_spl {vs xs : Array Value} {z base off cap : Nat} {L X : List (List SV)} (hL : ∀ (i : Nat) cs, L[i]? = some cs → cs.length = z) (hc : ∀ (i : Nat) cs, L[i]? = some cs → CellsR w F ρ vs (base + i * z) cs) (hx : RowsR w F ρ xs 0 z X) (hn : xs.size = X.length * z)
    (ho : off ≤ L.length) (hfit : off + X.length ≤ cap) (hLc : L.length ≤ cap) (hsz : base + cap * z ≤ vs.size) :
    RowsR w F ρ (spl vs (base + off * z) xs.toList) base z (L.take off ++ X ++ L.drop (off + X.length)) := by
  have hm : (off + X.length) * z ≤ cap * z := Nat.mul_le_mul_right z hfit
  rw [Nat.add_mul] at hm
  have hle : base + off * z + xs.toList.length ≤ vs.size := by simp; omega
  have ht : (L.take off).length = off := by simp; omega
  have key : ∀ (i : Nat) cs, (L.take off ++ X ++ L.drop (off + X.length))[i]? = some cs → (off ≤ i ∧ i < off + X.length ∧ X[i - off]? = some cs) ∨ ((i < off ∨ off + X.length ≤ i) ∧ L[i]? = some cs) := by
    intro i cs hi
    rw [List.append_assoc, List.getElem?_append, ht] at hi
    split at hi
    · rename_i hlt
      rw [List.getElem?_take, if_pos hlt] at hi
      exact .inr ⟨.inl hlt, hi⟩
    · rename_i hge
      rw [List.getElem?_append] at hi
      split at hi
      · exact .inl ⟨by omega, by omega, hi⟩
      · rename_i h2
        rw [List.getElem?_drop, show off + X.length + (i - off - X.length) = i by omega] at hi
        exact .inr ⟨.inr (by omega), hi⟩
  refine ⟨fun i cs hi => ?_, fun i cs hi => ?_⟩
  · rcases key i cs hi with ⟨_, _, h⟩ | ⟨_, h⟩
    · exact hx.1 _ cs h
    · exact hL i cs h
  · rcases key i cs hi with ⟨h1, h2, h⟩ | ⟨h1, h⟩
    · intro j c hj
      have hjl := (List.getElem?_eq_some_iff.1 hj).1
      rw [hx.1 _ cs h] at hjl
      obtain ⟨v, p1, p2⟩ := hx.2 _ cs h j c hj
      refine ⟨v, ?_, p2⟩
      have hp := (Array.getElem?_eq_some_iff.1 p1).1
      have e1 : i * z = off * z + (i - off) * z := by rw [← Nat.add_mul]; congr 1; omega
      rw [spl_get hle, if_neg (by omega), if_pos (by simp; omega), Array.getElem?_toList]
      rw [show base + i * z + j - (base + off * z) = 0 + (i - off) * z + j by omega]
      exact p1
    · refine cells_keep (n := 0) (hc i cs h) hle ?_
      rw [hL i cs h]
      simp only [Array.length_toList, hn]
      rcases h1 with h1 | h1
      · left
        have : (i + 1) * z ≤ off * z := Nat.mul_le_mul_right z h1
        rw [Nat.add_mul, Nat.one_mul] at this
        omega
      · right
        have : (off + X.length) * z ≤ i * z := Nat.mul_le_mul_right z h1
        rw [Nat.add_mul] at this
        omega
theorem rows_cut {vs : Array Value} {z at_ N : Nat} {X : List (List SV)} (h : RowsR w F ρ vs at_ z X) (hN : SV.refs.refsL X.flatten ≤ N) : RowsR w F (ρ.cut N) vs at_ z X := by
  refine ⟨h.1, fun i cs hi j c hj => ?_⟩
  obtain ⟨v, h1, h2, h3⟩ := h.2 i cs hi j c hj
  have hm : c ∈ X.flatten := List.mem_flatten.2 ⟨cs, List.mem_of_getElem? hi, List.mem_of_getElem? hj⟩
  obtain ⟨m, hm⟩ := List.getElem?_of_mem hm
  exact ⟨v, h1, h2.cut N (refsL_le hN m c hm), h3⟩
def Cutd (ρ ρ1 : Map) (r : Nat) : Prop := ρ1 = ρ ∨ ∃ N, r ≤ N ∧ ρ1 = ρ.cut N
theorem rows_cutd {vs : Array Value} {z at_ : Nat} {X : List (List SV)} {ρ1 : Map} (h : RowsR w F ρ vs at_ z X) (hN : Cutd ρ ρ1 (SV.refs.refsL X.flatten)) : RowsR w F ρ1 vs at_ z X := by
  rcases hN with rfl | ⟨N, hN, rfl⟩
  · exact h
  · exact rows_cut h hN
theorem append_new {ats : Array TypeId} {el : TypeId} {z : Nat} {i : TypeInfo} {zv : Value} (hT : ApT C.P ats el z i zv) {ty : TypeId} (hr : HR C ρ F H w) {Y X : List (List SV)} {sv xv : Value} {base : Option Addr} {sc : Nat} (hsv : VR w F ρ s sv) (hxv : VR w F ρ c xv)
    (hY : rdL z H s = some Y) (hX : rdL z H c = some X) (he : sv = .slice base Y.length sc) (hg : ¬ Y.length + X.length ≤ sc) (hb : (Y.length + X.length) * i.bytes ≤ mostLen) :
    ∃ nc w' vs ty', Y.length + X.length ≤ nc ∧ (w'.heap = w.heap.push (.cells vs ty') ∧ w'.os = w.os ∧ w'.output = w.output) ∧ nc * z ≤ vs.size ∧ (∀ ρ1 : Map, SrcR C w F H ρ ρ1 s → Cutd ρ ρ1 (SV.refs.refsL X.flatten) → RowsR w F ρ1 vs 0 z (Y ++ X)) ∧
      (Builtin.append_ ats ty #[sv, xv]).run C.P w = .ok (.slice (some ⟨w.heap.size, 0, none⟩) (Y.length + X.length) nc) w' := by
  obtain ⟨q, mc, cells, rfl, k1, k2, k3⟩ := rd_run hr hT.zpos hxv hX
  obtain ⟨q', mc', old, h1, j1, j2, j3⟩ := rd_run hr hT.zpos hsv hY
  subst he
  cases h1
  obtain ⟨nc, w', vs, ty', g1, g2, ⟨rest, g3, g4⟩, g5⟩ := run_append_grows hT (ty := ty) k1 j1 hg hb
  refine ⟨nc, w', vs, ty', g1, g2, ?_, ?_, g5⟩
  · rw [g3]
    simp only [Array.size_append, j2, k2, g4]
    rw [← Nat.add_mul, ← Nat.add_mul]
    exact Nat.mul_le_mul_right z (by omega)
  · intro ρ1 h1 h2
    rw [g3]; exact rows_append (j3 ρ1 h1) j2 (rows_cutd (k3 ρ (srcR_self hr)) h2)
theorem set_arr (hr : HR C ρ F H w) {b ver z : Nat} {L L' : List (List SV)} {ex : Bool} {l : Loc} {refs : Nat} (hb : hget H b = some (.arr ver z L ex)) (hl : ρ b = some l) (hbr : BR C w F ρ l (.arr ver z L ex))
    (hH : hset H b (.arr (ver + 1) z L' false) refs = some H') {w' : World} {l' : Loc} (hv' : l'.ver = ver + 1) (ha : l'.arr = true) (hs : w.heap.size ≤ w'.heap.size) (hh : ∀ B, B < w.heap.size → (l.virt = false → B ≠ l.blk) → w'.heap[B]? = w.heap[B]?)
    (hl' : l'.virt = false → (l.virt = false ∧ l'.blk = l.blk) ∨ (w.heap.size ≤ l'.blk ∧ l'.blk < w'.heap.size))
    (hy : ∀ ρ1 : Map, Cutd ρ ρ1 refs → BR C w F ρ1 l (.arr ver z L ex) → BR C w' F (ρ1.put b l') l' (.arr (ver + 1) z L' false)) {off n : Nat} {val : Value} (hone : one1 val = true)
    (hval : (l'.virt = true → ∃ a, val = .slice a 0 0 ∧ off = 0 ∧ n = 0) ∧
        (l'.virt = false → off + n ≤ l'.cap ∧ ∃ a, val = .slice a n (l'.cap - off) ∧ (off < l'.cap → a = some ⟨l'.blk, l'.base + off * l'.esz, none⟩))) (hout : w'.os = w.os ∧ w'.output = w.output := by exact ⟨rfl, rfl⟩) :
    Done C ρ F H w (.slc b (ver + 1) off n) H' val w' := by
  obtain ⟨p1, p2⟩ := hr.set (w' := w') hH hb rfl hl hs hh hl' (.inr ⟨hbr.1, by have := hbr.2.1; omega⟩) (fun _ => hy ρ (.inl rfl) hbr) (fun _ N hN hbN h => by
    have := hy (ρ.cut N) (.inr ⟨N, hN, rfl⟩) h
    have e : (ρ.put b l').cut N = (ρ.cut N).put b l' := by
      funext b'
      unfold Map.cut Map.put
      by_cases e : b' = b
      · subst e; simp [hbN]
      · simp [e]
    rw [e]; exact this) (hout := hout)
  exact ⟨_, F, .slc (Map.put_same _ _ _) (by omega) hone (fun _ => hval), p1, p2⟩
theorem append_none {ats : Array TypeId} {el : TypeId} {z : Nat} {i : TypeInfo} {zv : Value} (hT : ApT C.P ats el z i zv) {ty : TypeId} (hr : HR C ρ F H w) {xv : Value} {base : Option Addr} {sl sc : Nat} (hxv : VR w F ρ c xv)
    (hX : rdL z H c = some []) (hg : sl ≤ sc) : (Builtin.append_ ats ty #[.slice base sl sc, xv]).run C.P w = .ok (.slice base sl sc) w := by
  obtain ⟨q, mc, cells, rfl, k1, k2, k3⟩ := rd_run hr hT.zpos hxv hX
  have h0 : cells = #[] := Array.eq_empty_of_size_eq_zero (by simpa using k2)
  subst h0
  have := run_append_fits hT (ty := ty) (base := base) (k1 w rfl) (by simpa using hg) (w' := w) (fun ad _ => rfl) (fun _ => rfl)
  simpa using this
theorem append_store {ats : Array TypeId} {el : TypeId} {z : Nat} {i : TypeInfo} {zv : Value} (hT : ApT C.P ats el z i zv) {ty : TypeId} (hr : HR C ρ F H w) {X : List (List SV)} {xv : Value} {b v off n : Nat} {L : List (List SV)} {ex : Bool} {l : Loc}
    (hxv : VR w F ρ c xv) (hX : rdL z H c = some X) (hb : hget H b = some (.arr v z L ex)) (hl : ρ b = some l) (hbr : BR C w F ρ l (.arr v z L ex)) (hvi : l.virt = false) (hle : off + n ≤ L.length) (hfit : off + n + X.length ≤ l.cap) :
    ∃ vs' ty' fz, (Builtin.append_ ats ty #[.slice (some ⟨l.blk, l.base + off * z, none⟩) n (l.cap - off), xv]).run C.P w = .ok (.slice (some ⟨l.blk, l.base + off * z, none⟩) (n + X.length) (l.cap - off)) (setB w l.blk vs' ty' fz) ∧
      Thawed fz vs'.size ∧ l.base + l.cap * z ≤ vs'.size ∧ (∀ ρ1 : Map, BR C w F ρ1 l (.arr v z L ex) → Cutd ρ ρ1 (SV.refs.refsL X.flatten) → RowsR (setB w l.blk vs' ty' fz) F ρ1 vs' l.base z (L.take (off + n) ++ X ++ L.drop (off + n + X.length))) ∧ (setB w l.blk vs' ty' fz).heap[l.blk]? = some (.cells vs' ty' fz) := by
  obtain ⟨q, mc, cells, rfl, k1, k2, k3⟩ := rd_run hr hT.zpos hxv hX
  obtain ⟨h1, h2, h3, h4, h5, h6, h7, h8⟩ := hbr
  obtain ⟨vs, ty', fz, g1, g2, g3, g4⟩ := h8 hvi
  have hm : (off + n + X.length) * z ≤ l.cap * z := Nat.mul_le_mul_right z hfit
  rw [Nat.add_mul] at hm
  have hsz : (spl vs (l.base + (off + n) * z) cells.toList).size = vs.size := spl_size (by simp; omega)
  have hlt : l.blk < w.heap.size := (Array.getElem?_eq_some_iff.1 g1).1
  have hst := run_storeCells_spl (P := C.P) l.blk (l.base + (off + n) * z) ty' fz cells.toList 0 vs w g1 g2 (by simp; omega) (fun x hx => rows_ok (k3 ρ (srcR_self hr)) k2 x hx)
  refine ⟨spl vs (l.base + (off + n) * z) cells.toList, ty', fz, ?_, by rw [hsz]; exact g2, by rw [hsz]; exact g3, ?_, setB_same hlt⟩
  · refine run_append_fits hT (k1 w rfl) (by omega) (fun ad hd => ?_) (fun h => by cases h)
    cases hd
    rw [add_none, show l.base + off * z + n * z = l.base + (off + n) * z by rw [Nat.add_mul]; omega]
    exact hst
  · intro ρ1 hb1 hc1
    obtain ⟨_, _, _, _, _, _, _, q8⟩ := hb1
    obtain ⟨vs2, ty2, fz2, m1, m2, m3, m4⟩ := q8 hvi
    rw [g1] at m1; cases m1
    have := rows_spl (xs := cells) h4 m4 (rows_cutd (k3 ρ (srcR_self hr)) hc1) k2 hle hfit h5 g3
    have hk : Keeps F w (setB w l.blk (spl vs (l.base + (off + n) * z) cells.toList) ty' fz) := setB_keeps hr hb rfl hl hvi
    exact ⟨this.1, fun j cs hj => (this.2 j cs hj).mono hk (fun _ h => h) (Map.le_refl _)⟩
theorem ok_append {ats : Array TypeId} {el : TypeId} {z : Nat} {i : TypeInfo} {zv : Value} (hT : ApT C.P ats el z i zv) {ty : TypeId} (hr : HR C ρ F H w) {X : List (List SV)} {sv xv : Value} (hsv : VR w F ρ s sv) (hxv : VR w F ρ c xv)
    (hX : rdL z H c = some X) (h : sappend z i.bytes H s X = some (d, H')) : ∃ val w', (Builtin.append_ ats ty #[sv, xv]).run C.P w = .ok val w' ∧ Done C ρ F H w d H' val w' := by
  have hz := hT.zpos
  unfold sappend at h
  split at h
  · rename_i z0 L f
    replace h := bif_some h
    obtain ⟨hb, h⟩ := h
    replace hb := of_decide_eq_true hb
    cases hsv with
    | lst V hcap hfull hz' hat h1 hv =>
      rename_i q cap
      split at h
      · replace h := bif_some h
        obtain ⟨hf, h⟩ := h
        simp only [Option.some.injEq, Prod.mk.injEq] at h
        obtain ⟨rfl, rfl⟩ := h
        have hc0 : cap = 0 := hfull hf
        subst hc0
        cases X with
        | nil =>
          refine ⟨_, w, append_none hT hr hxv hX (Nat.le_refl _), ?_⟩
          let l : Loc := { blk := 0, base := 0, cap := 0, esz := z, ver := 0, virt := true, arr := true }
          have hp := hr.push (w' := w) (Nat.le_refl _) (fun _ _ => rfl) (.arr 0 z [] false) l (fun h => by cases h) ⟨rfl, rfl, rfl, by simp, Nat.le_refl _, (fun h => by cases h), fun _ => rfl, fun h => by cases h⟩
          exact ⟨_, F, .slc (l := l) (Map.put_same _ _ _) (Nat.le_refl _) rfl (fun _ => ⟨fun _ => ⟨q, rfl, rfl, rfl⟩, fun h => by cases h⟩), hp.1, hp.2⟩
        | cons x X =>
          obtain ⟨nc, w', vs, ty', g1, g2, g3, g4, g5⟩ := append_new hT (ty := ty) hr (.lst V hcap hfull hz' hat h1 hv) hxv (Y := []) (by simp [rdL]) hX rfl (by simp) hb
          refine ⟨_, w', g5, ?_⟩
          have := push_arr hr (ex := false) (hout := g2.2) g2.1 (by simpa using g1) (fun h => by cases h) g3 (g4 ρ (srcR_self hr) (.inl rfl)) (x :: X).length (by simp)
          simpa using this
      · simp only [Option.some.injEq, Prod.mk.injEq] at h
        obtain ⟨rfl, rfl⟩ := h
        exact ⟨_, w, append_none hT hr hxv hX hcap, Done.same hr (.lst V hcap hfull hz' hat h1 hv)⟩
      · rename_i hne1 hne2
        replace h := bif_some h
        obtain ⟨hf, h⟩ := h
        simp only [Bool.and_eq_true, beq_iff_eq] at hf
        obtain ⟨hf, rfl⟩ := hf
        simp only [Option.some.injEq, Prod.mk.injEq] at h
        obtain ⟨rfl, rfl⟩ := h
        have hc0 := hfull hf
        have hX0 : 0 < X.length := by
          cases X with
          | nil => exact absurd rfl hne2
          | cons _ _ => simp
        obtain ⟨nc, w', vs, ty', g1, g2, g3, g4, g5⟩ := append_new hT (ty := ty) hr (.lst V hcap hfull hz' hat h1 hv) hxv (Y := L) (by simp [rdL]) hX rfl (by omega) hb
        refine ⟨_, w', g5, ?_⟩
        have := push_arr hr (ex := false) (hout := g2.2) g2.1 (by simpa using g1) (fun h => by cases h) g3 (g4 ρ (srcR_self hr) (.inl rfl)) (L.length + X.length) (by simp)
        simpa using this
  · rename_i b v off n
    replace h := bif_some h
    obtain ⟨hb, h⟩ := h
    replace hb := of_decide_eq_true hb
    split at h
    · rename_i v' z' L ex hg
      replace h := bif_some h
      obtain ⟨hc, h⟩ := h
      simp only [Bool.and_eq_true, beq_iff_eq, decide_eq_true_eq] at hc
      obtain ⟨⟨rfl, rfl⟩, hle⟩ := hc
      have hY : rdL z' H (.slc b v off n) = some ((L.drop off).take n) := by
        simp [rdL, hg, hle]
      have hYl : ((L.drop off).take n).length = n := by simp; omega
      obtain ⟨l, z2, L2, ex2, hl, hb2, hbr, g1, g2⟩ := cur_slc hr (by unfold cur; simp [hg]) hsv
      rw [hg] at hb2; cases hb2
      have hbr' := hbr
      obtain ⟨b1, b2, b3, b4, b5, b6, b7, b8⟩ := hbr'
      obtain ⟨base, sc, hse, hsc⟩ : ∃ base sc, sv = .slice base n sc ∧ n ≤ sc := by
        cases hvi : l.virt with
        | true => obtain ⟨q, p1, p2, p3⟩ := g1 hvi; exact ⟨q, 0, by rw [p1, p3], by omega⟩
        | false => obtain ⟨p1, q, p2, p3⟩ := g2 hvi; exact ⟨q, _, p2, by omega⟩
      cases hi : (!ex && off == 0 && n == L.length) with
      | true =>
        rw [hi] at h
        simp only [Bool.and_eq_true, beq_iff_eq, Bool.not_eq_true'] at hi
        obtain ⟨⟨he0, rfl⟩, hn⟩ := hi
        simp only [cond_true, Option.map_eq_some_iff, Prod.mk.injEq] at h
        obtain ⟨H1, hH, rfl, rfl⟩ := h
        have hY' : (L.drop 0).take n = L := by rw [hn]; simp
        rw [hY'] at hY hYl
        have hLX : ∀ (j : Nat) cs, (L ++ X)[j]? = some cs → cs.length = z' := fun j cs hj => by
          rw [List.getElem?_append] at hj
          obtain ⟨q, mc, cells, _, _, _, k3⟩ := rd_run hr hz hxv hX
          split at hj
          · exact b4 j cs hj
          · exact (k3 ρ (srcR_self hr)).1 _ cs hj
        have hle' : ∀ (ρ1 : Map) (l' : Loc), Cutd ρ ρ1 (SV.refs.refsL X.flatten) → l'.ver = v + 1 → ρ1.le (ρ1.put b l') := fun ρ1 l' hc hv' b' l1 h1 => by
          have h2 : ρ b' = some l1 := by
            rcases hc with rfl | ⟨N, _, rfl⟩
            · exact h1
            · unfold Map.cut at h1
              split at h1
              · exact h1
              · cases h1
          by_cases e : b' = b
          · subst e; rw [hl] at h2; cases h2; exact ⟨_, Map.put_same _ _ _, .inr ⟨b1, by omega⟩⟩
          · exact ⟨l1, by rw [Map.put_other _ _ e]; exact h1, .inl rfl⟩
        by_cases hX0 : X = []
        · subst hX0
          subst hse
          refine ⟨_, w, append_none hT hr hxv hX hsc, ?_⟩
          rw [List.append_nil] at hH
          refine set_arr hr hg hl hbr hH (w' := w) (l' := { l with ver := v + 1 }) rfl b1 (Nat.le_refl _) (fun _ _ _ => rfl) (fun h => .inl ⟨h, rfl⟩) (fun ρ1 hρ1 hbr1 => ⟨b1, rfl, b3, b4, b5, (fun h => by cases h), b7, fun h => ?_⟩) rfl ⟨fun h => ?_, fun h => ?_⟩
          · obtain ⟨vs, ty', fz, e1, e2, e3, e4⟩ := hbr1.2.2.2.2.2.2.2 h
            exact ⟨vs, ty', fz, e1, e2, e3, fun j cs hj => (e4 j cs hj).mono (fun _ _ => rfl) (fun _ h => h) (hle' ρ1 _ hρ1 rfl)⟩
          · obtain ⟨q, p1, p2, p3⟩ := g1 h
            exact ⟨q, by rw [p1], p2, by simpa using p3⟩
          · obtain ⟨p1, q, p2, p3⟩ := g2 h
            exact ⟨by simpa using p1, q, by simpa using p2, by simpa using p3⟩
        · have hXp : 0 < X.length := by
            cases X with
            | nil => exact absurd rfl hX0
            | cons _ _ => simp
          by_cases hfit : l.virt = false ∧ n + X.length ≤ l.cap
          · obtain ⟨hvi, hfit⟩ := hfit
            obtain ⟨p1, q, p2, p3⟩ := g2 hvi
            have := p3 (by omega)
            subst this
            rw [p2, b3]
            obtain ⟨vs', ty', fz, e1, e2, e3, e4, e5⟩ := append_store hT (ty := ty) hr hxv hX hg hl hbr hvi hle (by omega)
            refine ⟨_, _, e1, ?_⟩
            have hc : L.take (0 + n) ++ X ++ L.drop (0 + n + X.length) = L ++ X := by
              rw [Nat.zero_add, hn, List.take_length, List.drop_of_length_le (by omega), List.append_nil]
            refine set_arr hr hg hl hbr hH (l' := { l with ver := v + 1 }) rfl b1 (by rw [setB_size]; exact Nat.le_refl _) (fun B _ hB => setB_other (hB hvi)) (fun h => .inl ⟨h, rfl⟩) (fun ρ1 hρ1 hbr1 => ⟨b1, rfl, b3, hLX, by simp; omega, (fun h => by cases h), b7, fun h => ?_⟩) rfl ⟨fun h => ?_, fun h => ?_⟩
            · have e6 := e4 ρ1 hbr1 hρ1
              rw [hc] at e6
              exact ⟨vs', ty', fz, e5, e2, e3, fun j cs hj => (e6.2 j cs hj).mono (fun _ _ => rfl) (fun _ h => h) (hle' ρ1 _ hρ1 rfl)⟩
            · simp [hvi] at h
            · exact ⟨by simpa using hfit, _, rfl, fun _ => by simp [b3]⟩
          · have hg' : ¬ L.length + X.length ≤ sc := by
              cases hvi : l.virt with
              | true => obtain ⟨q, p1, p2, p3⟩ := g1 hvi; rw [p1] at hse; cases hse; omega
              | false => obtain ⟨p1, q, p2, p3⟩ := g2 hvi; rw [p2] at hse; cases hse; have : ¬ n + X.length ≤ l.cap := fun h => hfit ⟨hvi, h⟩; omega
            obtain ⟨nc, w', vs, ty', e1, e2, e3, e4, e5⟩ := append_new hT (ty := ty) hr hsv hxv hY hX (by rw [hse, hn]) hg' (by rw [← hn]; exact hb)
            refine ⟨_, w', e5, ?_⟩
            have hkeep : ∀ B, B < w.heap.size → w'.heap[B]? = w.heap[B]? := fun B hB => by
              rw [e2.1]; simp [Array.getElem?_push, Nat.ne_of_lt hB]
            rw [hn]
            refine set_arr hr hg hl hbr hH (hout := e2.2) (l' := { blk := w.heap.size, base := 0, cap := nc, esz := z', ver := v + 1, virt := false, arr := true }) rfl rfl (by rw [e2.1]; simp) (fun B hB _ => hkeep B hB) (fun _ => .inr ⟨Nat.le_refl _, by rw [e2.1]; simp⟩)
              (fun ρ1 hρ1 hbr1 => ⟨rfl, rfl, rfl, hLX, by simpa using e1, (fun h => by cases h), (fun h => by cases h), fun _ => ?_⟩) rfl ⟨fun h => (by cases h), fun _ => ⟨by simpa using e1, _, rfl, fun _ => by simp⟩⟩
            have e6 := e4 ρ1 (fun b' _ _ _ l2 x hs h1 h2 _ => by cases hs; rw [hl] at h1; cases h1; rw [hg] at h2; cases h2; exact hbr1) hρ1
            exact ⟨vs, ty', (0, 0), by rw [e2.1]; simp, fun o ho => by simp, by simpa using e3, fun j cs hj => (e6.2 j cs hj).mono (fun B hB => hkeep B (hr.fro B hB)) (fun _ h => h) (hle' ρ1 _ hρ1 rfl)⟩
      | false =>
        rw [hi] at h
        simp only [cond_false] at h
        cases hfit : decide (off + n + X.length ≤ L.length) with
        | true =>
          rw [hfit] at h
          replace hfit := of_decide_eq_true hfit
          simp only [cond_true, Option.map_eq_some_iff, Prod.mk.injEq] at h
          obtain ⟨H1, hH, rfl, rfl⟩ := h
          by_cases hX0 : X = []
          · subst hX0
            subst hse
            refine ⟨_, w, append_none hT hr hxv hX hsc, ?_⟩
            rw [List.append_nil, List.length_nil, Nat.add_zero, List.take_append_drop] at hH
            obtain ⟨p1, p2⟩ := hr.set (w' := w) (l' := l) hH hg rfl hl (Nat.le_refl _) (fun _ _ _ => rfl) (fun h => .inl ⟨h, rfl⟩) (.inl rfl) (fun _ => by rw [put_self hl]; exact hbr) (fun _ N _ _ h => by rw [put_self hl]; exact h)
            rw [put_self hl] at p1 p2
            exact ⟨ρ, F, hsv, p1, p2⟩
          · have hXp : 0 < X.length := by
              cases X with
              | nil => exact absurd rfl hX0
              | cons _ _ => simp
            have hvi : l.virt = false := by
              cases hvi : l.virt with
              | true => have := b7 hvi; omega
              | false => rfl
            obtain ⟨p1, q, p2, p3⟩ := g2 hvi
            have := p3 (by omega)
            subst this
            rw [p2, b3]
            obtain ⟨vs', ty', fz, e1, e2, e3, e4, e5⟩ := append_store hT (ty := ty) hr hxv hX hg hl hbr hvi hle (by omega)
            refine ⟨_, _, e1, ?_⟩
            have hlen : (L.take (off + n) ++ X ++ L.drop (off + n + X.length)).length = L.length := by simp; omega
            obtain ⟨r1, r2⟩ := set_cells (vs' := vs') (ty := ty') (fz := fz) hr hH hg rfl hl hvi (fun _ ρ1 hρ1 hbr1 => ⟨b1, b2, b3, (e4 ρ1 hbr1 hρ1).1, by rw [hlen]; exact b5, by rw [hlen]; exact b6, b7, fun _ => ⟨vs', ty', fz, e5, e2, e3, (e4 ρ1 hbr1 hρ1).2⟩⟩)
            exact ⟨ρ, F, .slc hl (by omega) rfl (fun _ => ⟨fun h => (by rw [hvi] at h; cases h), fun _ => ⟨by omega, _, rfl, fun _ => by rw [b3]⟩⟩), r1, r2⟩
        | false =>
          rw [hfit] at h
          replace hfit := of_decide_eq_false hfit
          simp only [cond_false] at h
          replace h := bif_some h
          obtain ⟨hex, h⟩ := h
          simp only [Option.some.injEq, Prod.mk.injEq] at h
          obtain ⟨rfl, rfl⟩ := h
          have hcap := b6 hex
          have hg' : ¬ ((L.drop off).take n).length + X.length ≤ sc := by
            rw [hYl]
            cases hvi : l.virt with
            | true => obtain ⟨q, p1, p2, p3⟩ := g1 hvi; rw [p1] at hse; cases hse; have := b7 hvi; omega
            | false => obtain ⟨p1, q, p2, p3⟩ := g2 hvi; rw [p2] at hse; cases hse; omega
          obtain ⟨nc, w', vs, ty', e1, e2, e3, e4, e5⟩ := append_new hT (ty := ty) hr hsv hxv hY hX (by rw [hse, hYl]) hg' (by rw [hYl]; exact hb)
          refine ⟨_, w', e5, ?_⟩
          rw [hYl]
          exact push_arr hr (ex := false) (hout := e2.2) e2.1 (by simpa using e1) (fun h => by cases h) e3 (e4 ρ (srcR_self hr) (.inl rfl)) _ (by rw [List.length_append, hYl]; exact Nat.le_refl _)
    · cases h
  · cases h
end
end Go.Sh
namespace Go.Sh
set_option linter.unusedSectionVars false
set_option linter.unusedVariables false
set_option linter.unusedSimpArgs false
set_option linter.unnecessarySimpa false
section
variable {C : Ctx} {ρ : Map} {F : Nat → Prop} {H H' : Heap} {w : World} {e : Env} {a : Act} {s c d : SV}
theorem wrap_small {n : Int} (h0 : 0 ≤ n) (h1 : n ≤ mostLen) : IntKind.i64.wrap n = n := by
  have : mostLen = 1099511627776 := rfl
  rw [IntKind.wrap_i64]; omega
theorem ok_mkslice {t el : TypeId} {i : TypeInfo} {z : List SV} (hu : C.P.underlying t = some (.slice el)) (hi : C.P.info? el = some i) (hz : czero C.P el = some z) (hzl : z.length = i.size) (h0 : 0 < i.size) (hbp : 0 < i.bytes) (hr : HR C ρ F H w)
    {lv cv : Value} {ls cs : SV} (hl : VR w F ρ ls lv) (hc : VR w F ρ cs cv) (h : smake i.size z i.bytes H ls cs = some (d, H')) : ∃ val w', (Instr.makeSlice t lv cv).run C.P w = .ok val w' ∧ Done C ρ F H w d H' val w' := by
  unfold smake at h
  split at h
  · rename_i l c
    replace h := bif_some h
    obtain ⟨hb, h⟩ := h
    simp only [Bool.and_eq_true, decide_eq_true_eq] at hb
    obtain ⟨⟨h1, h2⟩, h3⟩ := hb
    simp only [Option.some.injEq, Prod.mk.injEq] at h
    obtain ⟨rfl, rfl⟩ := h
    obtain rfl := vr_int hl
    obtain rfl := vr_int hc
    obtain ⟨i', v, hi', hv, k1, k2⟩ := czero_vr (w := w) (F := F) (ρ := ρ) hz
    rw [hi] at hi'; cases hi'
    have hzr : (zeroRow v.cells (c.toNat * i.size)).size = c.toNat * i.size := by simp [zeroRow]
    have hrow := zeroRow_rows (n := c.toNat) hzl k1 k2 h0
    refine ⟨.slice (some ⟨w.heap.size, 0, none⟩) l.toNat c.toNat, { w with heap := w.heap.push (.cells (zeroRow v.cells (c.toNat * i.size)) el) }, ?_, push_arr hr rfl (by simp) (fun _ => by simp) (by rw [hzr]; exact Nat.le_refl _) hrow l.toNat (by simp; omega)⟩
    have hm : c ≤ c * i.bytes := by
      have : c * 1 ≤ c * i.bytes := Int.mul_le_mul_of_nonneg_left (by omega) (by omega)
      omega
    have hml : (mostLen : Int) = 1099511627776 := rfl
    have wl : IntKind.i64.wrap l = l := wrap_small h1 (by omega)
    have wc : IntKind.i64.wrap c = c := wrap_small (by omega) (by omega)
    have n1 : ¬ c < 0 := by omega
    have n2 : ¬ (281474976710656 < (i.bytes : Int) * c) := by rw [Int.mul_comm]; omega
    have n3 : ¬ l < 0 := by omega
    have n4 : ¬ c < l := by omega
    by_cases hn : c.toNat * i.size = 0
    · have hzz : (Array.range (c.toNat * i.size)).map (fun x => (#[] : Array Value)[x % (#[] : Array Value).size]!) = zeroRow v.cells (c.toNat * i.size) := by
        unfold zeroRow; rw [hn]; simp
      have hask : ∀ w : World, (askRoom (c.toNat * i.bytes)).run C.P w = .ok () w := fun w => by unfold askRoom; split <;> rfl
      unfold Instr.makeSlice
      simp only [Sem.run_bind, run_underlying hu, Result.andThen, run_typeInfo _ hi, asInt, asIntOf, pure, Sem.run, wl, wc, hask]
      simp [n1, n2, n3, n4, hask, sizeOf, typeInfo, hi, newRow, hn]
      have hr0 : Array.range 0 = #[] := Array.eq_empty_of_size_eq_zero (by simp)
      simp [zeroRow, hr0]
    · have hask : ∀ w : World, (askRoom (c.toNat * i.bytes)).run C.P w = .ok () w := fun w => by unfold askRoom; split <;> rfl
      unfold Instr.makeSlice
      simp only [Sem.run_bind, run_underlying hu, Result.andThen, run_typeInfo _ hi, asInt, asIntOf, pure, Sem.run, wl, wc, hask]
      simp [n1, n2, n3, n4, hask, sizeOf, typeInfo, hi, newRow, hn, zeroValue, hv, zeroRow]
  · cases h
end
end Go.Sh
