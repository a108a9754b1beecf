/- A part of the proof: texts ShA, ShB, ShC, ShD, ShE, ShF, ShG, ShH, ShI, ShJ, ShK, ShL, ShM, ShN, ShO, ShP, ShQ, ShR, ShRa, ShRb, ShRc, ShRd, ShS, ShT. -/
import GoSem.Step
import Derived.Attr
import Derived.RangeFuncLeaves
import Derived.RangeFuncCalls
import Derived.Laws.Sem
import Derived.Laws.Cells
import Derived.Laws.Entries
import Derived.ChangeKeysEq
import Derived.Laws.StructEq
import Derived.Laws.Append
import Derived.MapKept
namespace Go.Sh
set_option linter.unusedSectionVars false
set_option linter.unnecessarySimpa false
set_option linter.unusedSimpArgs false
set_option linter.unusedVariables false
set_option maxRecDepth 100000
set_option maxHeartbeats 4000000
section
abbrev C5:=@Option.map_eq_some_iff
abbrev C6:=@Option.bind_eq_some_iff
abbrev C7:=@List.getElem?_eq_some_iff
abbrev C8:=@List.length_append
abbrev C9:=@List.append_assoc
abbrev Da:=@Nat.add_assoc
abbrev Db:=@Bool.and_eq_true
abbrev Dc:=@decide_eq_true_eq
abbrev Dd:=@Option.some.injEq
abbrev De:=@Nat.le_refl
abbrev Df:=@Prod.mk.injEq
abbrev Dg:=@List.all_eq_true
abbrev Dh:=@Array.getElem?_eq_some_iff
abbrev Di:=@decide_eq_false_iff_not
abbrev Dj:=@decide_eq_true
abbrev Dk:=@List.getElem?_take
abbrev Dl:=@List.getElem?_eq_getElem
abbrev Dm:=@List.mem_of_getElem?
abbrev Dn:=@List.mem_range
abbrev Dp:=@Bool.false_eq_true
abbrev Dq:=@List.mem_cons_self
abbrev Dt:=@List.getElem?_set_ne
abbrev Du:=@cond_true
abbrev Dv:=@of_decide_eq_false
abbrev Dw:=@cond_false
abbrev Dx:=@List.getElem?_drop
abbrev Dy:=@List.getElem?_append_left
abbrev Dz:=@Array.getElem?_setIfInBounds_ne
abbrev DC:=@List.getElem?_of_mem
abbrev DG:=@Nat.lt_or_ge
abbrev DH:=@Bool.false_and
abbrev DJ:=@List.mem_cons_of_mem
abbrev DO:=@Nat.mul_le_mul_right
abbrev DQ:=@List.map_cons
abbrev DR:=@decide_eq_false
abbrev DU:=@List.length_cons
abbrev DV:=@Option.bind_some
abbrev DW:=@Nat.add_mul
abbrev DX:=@Nat.lt_of_lt_of_le
abbrev DY:=@List.getD_eq_getElem?_getD
abbrev DZ:=@List.length_set
abbrev D0:=@beq_iff_eq
abbrev D1:=@Option.map_some
abbrev D2:=@Array.getD_eq_getD_getElem?
abbrev D3:=@Nat.le_trans
abbrev D4:=@of_decide_eq_true
abbrev D5:=@List.getElem?_append
abbrev D6:=@Bool.and_self
abbrev D7:=@Bool.not_eq_true'
abbrev D8:=@List.length_nil
abbrev D9:=@Array.getElem?_eq_getElem
abbrev Ea:=@Nat.zero_add
abbrev Eb:=@Bool.and_false
abbrev Ec:=@Bool.not_true
abbrev Ed:=@Bool.true_and
abbrev Ee:=@List.eq_nil_of_length_eq_zero
abbrev Ef:=@Bool.or_eq_true
abbrev Eg:=@List.mem_filter
abbrev Eh:=@List.take_of_length_le
abbrev Ei:=@List.mem_cons
abbrev Ej:=@List.mem_append_left
abbrev Ek:=@List.getElem?_append_right
abbrev El:=@beq_eq_false_iff_ne
abbrev Em:=@List.nodup_append
abbrev En:=@List.pairwise_append
abbrev Eo:=@Bool.and_true
abbrev Ep:=@beq_self_eq_true
abbrev Er:=@List.append_nil
abbrev Es:=@Classical.byContradiction
abbrev Et:=@Int.mul_le_mul_of_nonneg_left
abbrev Eu:=@List.cons_append
abbrev Ev:=@Bool.false_or
abbrev Ew:=@Array.getElem?_push
abbrev Ex:=@Nat.ne_of_lt
abbrev Ey:=@List.getElem?_toArray
abbrev Ez:=@Nat.lt_trichotomy
abbrev EA:=@Int.toNat_natCast
abbrev EB:=@List.pairwise_cons
abbrev EC:=@List.mem_append
abbrev ED:=@Nat.le_of_eq
abbrev EE:=@Option.getD_some
abbrev EF:=@Nat.one_mul
abbrev EG:=@Array.eq_empty_of_size_eq_zero
abbrev EH:=@List.nodup_cons
abbrev EI:=@List.mem_map
abbrev EJ:=@List.getElem?_replicate
abbrev EK:=@List.filter_cons_of_pos
abbrev EL:=@Option.some.inj
abbrev EM:=@Array.length_toList
abbrev EN:=@List.getElem?_set_self
abbrev EO:=@Int.tdiv_eq_ediv_of_nonneg
abbrev EP:=@Bool.not_eq_true
abbrev ES:=@List.map_nil
abbrev ET:=@List.mem_append_right
abbrev EU:=@Nat.zero_le
abbrev EV:=@Bool.not_false
abbrev EW:=@List.drop_zero
abbrev EX:=@List.exists_mem_of_ne_nil
abbrev EY:=@List.nil_append
abbrev EZ:=@Nat.add_zero
abbrev E0:=@List.set_set
abbrev E1:=@List.replicate_succ
abbrev E2:=@Nat.lt_irrefl
abbrev E3:=@List.drop_of_length_le
abbrev E4:=@List.length_eq_one_iff
abbrev E5:=@Array.getElem?_eq_none
abbrev E6:=@Array.ext_getElem?
abbrev E7:=@List.filter_append
abbrev E8:=@List.mem_singleton
abbrev E9:=@Option.map_none
abbrev Fa:=@Nat.zero_mul
abbrev Fb:=@List.getElem?_eq_none
abbrev Fc:=@Classical.choose_spec
abbrev Fe:=@List.getElem?_map
abbrev Ff:=@Array.getElem?_append_left
abbrev Fg:=@List.getElem?_mapIdx
abbrev Fh:=@List.mem_flatten
abbrev Fi:=@List.take_length
abbrev Fj:=@List.length_take
abbrev Fk:=@List.map_toArray
abbrev Fl:=@List.any_eq_true
abbrev Fm:=@Option.isSome_iff_exists
abbrev Fo:=@List.foldl_cons
abbrev Fp:=@Nat.eq_zero_or_pos
abbrev Fq:=@List.getElem?_cons_succ
abbrev Fs:=@List.cons.injEq
abbrev Ft:=@Array.getElem?_extract
abbrev Fu:=@List.flatten_cons
abbrev Fv:=@List.reverse_cons
abbrev Fw:=@List.length_range
abbrev Fx:=@List.nodup_nil
abbrev Fy:=@Array.getElem?_toList
abbrev Fz:=@Array.getElem?_modify
abbrev FA:=@List.take_append_drop
abbrev FB:=@List.set_append_right
abbrev FC:=@Int.natCast_zero
abbrev FD:=@List.range_eq_range'
abbrev FE:=@List.length_pos_iff
abbrev FF:=@Nat.min_eq_left
abbrev FG:=@Nat.lt_or_gt_of_ne
abbrev FH:=@List.set_cons_zero
abbrev FI:=@Nat.sub_self
abbrev FJ:=@List.take_zero
abbrev FK:=@List.ext_getElem?
abbrev FL:=@List.foldlM_cons
abbrev FM:=@List.nodup_range
abbrev FN:=@Nat.add_comm
abbrev FO:=@Nat.mul_comm
abbrev FP:=@List.length_map
abbrev FQ:=@Bool.eq_iff_iff
abbrev FR:=@List.map_append
abbrev FT:=@Bool.and_assoc
abbrev FU:=@Int.mul_nonneg
inductive SV where
 |undef
 |fa
 |bool (b:Bool)
 |int (k:IntKind) (n:Int)
 |str (s:ByteArray)
 |dU
 |ptr (b bB i o:Nat)
 |dy (cs:List SV)
 |aP (z:Nat) (L:List (List SV)) (full:Bool)
 |bt (b bB off len:Nat)
 |agg (cs:List SV)
 |cG (vs:List SV)
 |fn (f:FuncId) (caps:List SV)
 |mf (f:FuncId) (firsts:List SV)
 |eL
 |jf (b:Nat)
 |mp (b:Nat)
 deriving Inhabited
inductive bj where
 |t (n:Nat)
 |c (v:SV)
inductive LK where|b|i|s
inductive NK where|p|f|s
inductive gC where
 |fk (x:bj)
 |pick (c a b:bj)
 |box (x:bj)
 |alloc (z:List SV)
 |jm (z:Nat)
 |build (z:List SV) (ps:List (Nat×Nat×bj))
 |ep (a8:Nat) (z:List SV) (n:Nat) (ps:List (Nat×bj))
 |dR (a8:Nat) (z:List SV) (n:Nat) (ps:List (Nat×bj))
 |load (ag:Bool) (n:Nat) (a:bj)
 |store (n:Nat) (a x:bj)
 |eO (x:bj)
 |bin (op:BinOp) (x y:bj)
 |mz (op:BinOp) (x y:bj)
 |gH (neg:Bool) (sh:List LK) (x y:bj)
 |iC (x:bj)
 |isNil (k:NK) (neg:Bool) (x:bj)
 |mF (x:bj)
 |dX (k:IntKind) (x:bj)
 |kT (x:bj)
 |l5 (x:bj)
 |ka (x:bj)
 |kL (f:FuncId) (cs:List bj)
 |jA (f:FuncId) (cs:List bj)
 |dE (a8:Nat) (z:List SV) (bytes:Nat) (l c:bj)
 |dA (a8:Nat) (x:bj) (lo hi mx:Option bj)
 |iZ (x:bj) (lo hi:Option bj)
 |bZ (off:Nat) (x:bj)
 |field (ag:Bool) (n off:Nat) (x:bj)
 |cC (a8:Nat) (x ix:bj)
 |fq (len a8:Nat) (x ix:bj)
 |iY (ag:Bool) (n len:Nat) (x ix:bj)
 |iR (x ix:bj)
 |extract (x:bj) (i:Nat)
 |len (x:bj)
 |qj (x:bj)
 |pV (n:Nat)
 |pS (xs:List bj)
 |pB (xs:List bj)
 |append (a8 bytes:Nat) (s x:bj)
 |jN (s x:bj)
 |copy (a8:Nat) (d x:bj)
 |clear (a8:Nat) (z:List SV) (x:bj)
 |mP
 |sj (t:LK) (x k v:bj)
 |pe (t:LK) (ok:Bool) (z:SV) (x k:bj)
 |call (f:bj) (xs:List bj)
 |eK (f:FuncId) (n:Nat) (xs:List bj)
 |jv (f:FuncId) (xs:List bj)
 |bad
inductive DK where|pure|dV|gJ|wr (rd:List (bj×Nat))
structure aV where
 kind:DK
 cW:List Nat
 oG:Nat
 gd:Nat
structure an where
 dst:Option Nat
 op:gC
 g:Option (Nat×Bool)
structure dc where
 live:List Nat
 aU:List (Nat×Nat)
inductive jQ where|normal|exit (id:Nat)|ret
inductive bA where
 |skip
 |ops (l:List an)
 |drawn (l:List (an×aV))
 |perm (l:List an) (os:List (List Nat))
 |seq (a b:bA)
 |cond (c:bj) (a b:bA)
 |block (id:Nat) (a:bA)
 |loop (p:dc) (a:bA)
 |freeze (t:Nat)
 |aU (vs:List (Nat×Nat))
 |tm (d:Nat) (neg:Bool) (x:bj) (c:bA)
 |kC (f:bj) (ps:List Nat) (assign body:bA)
 |ext (k:Nat)
 |exit (id:Nat)
 |ret
abbrev Env:=List (Nat×SV)
structure lL where
 env:Env
 ps:List Nat
 assign:bA
 body:bA
inductive bb where
 |dead
 |box (cs:List SV)
 |arr (bB z:Nat) (L:List (List SV)) (exact:Bool)
 |loop (r:lL) (st:LoopState) (pend:jQ)
 |map (es:List (SV×SV))
structure ab where
 bl:List bb
 br:List (Nat×Nat)
 ro:Nat
inductive B0 where|fn (f:FuncId)|jf (b:Nat)|qC (f:FuncId)
abbrev Rec:=B0→List SV→ab→Option (SV×ab)
inductive m6 where|tmp (t:Nat)|cell (t:Nat)(ag:Bool)(n:Nat)
structure bp where
 res:List m6
 body:bA
 keep:Bool
def SV.gD:SV→Bool
 | .undef=>false
 | .fa=>false
 | .agg _=>false
 | .cG _=>false
 |_=>true
def bY:SV→Option (List SV)
 | .agg cs=>some cs
 |v=>bif v.gD then some [v]else none
def SV.refs:SV→Nat
 | .ptr b _ _ _=>b+1
 | .bt b _ _ _=>b+1
 | .jf b=>b+1
 | .mp b=>b+1
 | .agg cs=>aK cs
 | .cG cs=>aK cs
 | .fn _ cs=>aK cs
 | .mf _ cs=>aK cs
 |_=>0
where aK:List SV→Nat
 |[]=>0
 |v::vs=>max v.refs (aK vs)
def get:Env→Nat→SV
 |[],_=>.undef
 |(j,v)::e,i=>bif i==j then v else get e i
def ev(e:Env):bj→SV
 | .t n=>get e n
 | .c v=>v
def aQ(H:ab)(b:Nat):Option bb:=H.bl[b]?
def bF(H:ab)(b:Nat)(x:bb)(refs:Nat):Option ab:=
 bif decide (H.ro≤b)&&decide (b<H.bl.length)then some {H with bl:=H.bl.set b x,br:=bif decide (refs≤b+1)then H.br else(b,refs)::H.br} else none
def aZ(H:ab)(x:bb):ab:={H with bl:=H.bl++[x]}
def ig(z:Nat)(H:ab):SV→Option (List (List SV))
 | .aP z' L _=>bif z'==z||L.isEmpty then some L else none
 | .bt b v off n=>match aQ H b with
   |some (.arr v' z' L _)=>bif v==v'&&z'==z&&decide (off+n≤L.length)then some ((L.drop off).take n)else none
   |_=>none
 |_=>none
def jG:SV→Option Nat
 | .aP _ L _=>some L.length
 | .bt _ _ _ n=>some n
 |_=>none
def bN(ag:Bool)(n:Nat)(cs:List SV)(o:Nat):Option SV:=
 bif ag then(bif decide (o+n≤cs.length)then some (.agg ((cs.drop o).take n))else none)else cs[o]?
def eo(cs:List SV)(o n:Nat)(x:List SV):List SV:=cs.take o++x++cs.drop (o+n)
def fP:SV→SV→SV→Option SV
 | .bool t,.bool x,.bool y=>some (.bool (bif t then x else y))
 | .bool t,x,y=>bif t then some x else some y
 |_,_,_=>none
def ew(ev:bj→SV):List SV→List (Nat×Nat×bj)→Option (List SV)
 |z,[]=>some z
 |z,(off,n,x)::ps=>
  (bY (ev x)).bind fun cs=>bif cs.length==n&&decide (off+n≤z.length)then ew ev (eo z off n cs) ps else none
def cU(ev:bj→SV)(a8:Nat):List (List SV)→List (Nat×bj)→Option (List (List SV))
 |z,[]=>some z
 |z,(i,x)::ps=>(bY (ev x)).bind fun cs=>bif cs.length==a8&&decide (i<z.length)then cU ev a8 (z.set i cs) ps else none
def bM(ag:Bool)(n:Nat)(H:ab):SV→Option SV
 | .ptr b v i o=>match aQ H b with
   |some (.box cs)=>bif i==0 then bN ag n cs o else none
   |some (.arr v' _ L _)=>bif v==v' then match L[i]? with
    |some cs=>bN ag n cs o
    |none=>none else none
   |_=>none
 | .dy cs=>bN ag n cs 0
 |_=>none
def cp(n:Nat)(H:ab)(x:SV):SV→Option ab
 | .ptr b v i o=>(bY x).bind fun xs=>bif xs.length==n then match aQ H b with
   |some (.box cs)=>bif i==0&&decide (o+n≤cs.length)then bF H b (.box (eo cs o n xs)) x.refs else none
   |some (.arr v' z L e)=>bif v==v' then match L[i]? with
    |some cs=>bif decide (o+n≤cs.length)then bF H b (.arr v z (L.set i (eo cs o n xs)) e) x.refs else none
    |none=>none else none
   |_=>none else none
 |_=>none
def cJ:BinOp→SV→SV→Option SV
 | .add,.int k a,.int k2 b=>bif k==k2 then some (.int k (k.wrap (a+b)))else none
 | .sub,.int k a,.int k2 b=>bif k==k2 then some (.int k (k.wrap (a-b)))else none
 | .mul,.int k a,.int k2 b=>bif k==k2 then some (.int k (k.wrap (a*b)))else none
 | .quo,.int k a,.int k2 b=>bif k==k2&&!decide (b=0)then some (.int k (k.wrap (a.tdiv b)))else none
 | .rem,.int k a,.int k2 b=>bif k==k2&&!decide (b=0)then some (.int k (a.tmod b))else none
 | .and,.int k a,.int k2 b=>bif k==k2 then some (.int k (k.wrap ((BitVec.ofInt k.bits a&&&BitVec.ofInt k.bits b).toNat)))else none
 | .or,.int k a,.int k2 b=>bif k==k2 then some (.int k (k.wrap ((BitVec.ofInt k.bits a|||BitVec.ofInt k.bits b).toNat)))else none
 | .xor,.int k a,.int k2 b=>bif k==k2 then some (.int k (k.wrap ((BitVec.ofInt k.bits a ^^^ BitVec.ofInt k.bits b).toNat)))else none
 | .shl,.int k a,.int _ b=>bif decide (0≤b)then some (.int k (k.wrap (a*2 ^ (min b.toNat k.bits))))else none
 | .shr,.int k a,.int _ b=>bif decide (0≤b)then some (.int k (a.fdiv (2 ^ (min b.toNat k.bits))))else none
 | .lss,.int k a,.int k2 b=>bif k==k2 then some (.bool (decide (a<b)))else none
 | .leq,.int k a,.int k2 b=>bif k==k2 then some (.bool (decide (a≤b)))else none
 | .gtr,.int k a,.int k2 b=>bif k==k2 then some (.bool (decide (b<a)))else none
 | .geq,.int k a,.int k2 b=>bif k==k2 then some (.bool (decide (b≤a)))else none
 | .eql,.int k a,.int k2 b=>bif k==k2 then some (.bool (decide (a=b)))else none
 | .neq,.int k a,.int k2 b=>bif k==k2 then some (.bool (!decide (a=b)))else none
 | .eql,.str a,.str b=>some (.bool (decide (a=b)))
 | .neq,.str a,.str b=>some (.bool (!decide (a=b)))
 | .add,.str a,.str b=>bif decide (a.size+b.size≤4611686018427387904)then some (.str (a++b))else none
 |_,_,_=>none
def ju:BinOp→SV→SV→Option SV
 | .eql,.bool a,.bool b=>some (.bool (a==b))
 | .neq,.bool a,.bool b=>some (.bool (!(a==b)))
 |_,_,_=>none
def bg:List LK→List SV→List SV→Option Bool
 |[],[],[]=>some true
 | .i::sh,.int k a::x,.int k2 b::y=>bif k==k2 then(bg sh x y).map (fun r=>decide (a=b)&&r)else none
 | .b::sh,.bool a::x,.bool b::y=>(bg sh x y).map (fun r=>(a==b)&&r)
 | .s::sh,.str a::x,.str b::y=>(bg sh x y).map (fun r=>decide (a=b)&&r)
 |_,_,_=>none
def fQ(n:Nat):SV→Option Nat
 | .int _ i=>bif decide (0≤i)&&decide (i<(n:Int))then some i.toNat else none
 |_=>none
def m9(y:Nat):SV→Option Nat
 | .int _ i=>bif decide (0≤i)&&decide (i≤(y:Int))then some i.toNat else none
 |_=>none
def dg(y d:Nat):Option SV→Option Nat
 |none=>some d
 |some v=>m9 y v
def eN(v:SV)(ix:SV):Option SV:=match v with
 | .aP _ L _=>(fQ L.length ix).bind fun i=>(L[i]?).map .dy
 | .bt b v off n=>(fQ n ix).map fun i=>.ptr b v (off+i) 0
 |_=>none
def gR(x:SV)(lo hi mx:Option SV):Option SV:=match x with
 | .aP z L f=>(dg L.length L.length mx).bind fun m=>(dg m L.length hi).bind fun h=>(dg h 0 lo).map fun l=>
    .aP z ((L.take h).drop l) (match mx with|none=>f&&h==L.length|some _=>m==h)
 | .bt b v off n=>match mx with
   |none=>(dg n n hi).bind fun h=>(dg h 0 lo).map fun l=>.bt b v (off+l) (h-l)
   |some _=>(dg n n mx).bind fun m=>(dg m n hi).bind fun h=>(dg h 0 lo).bind fun l=>some (bif m==l then .aP 0 [] true else .undef)
 |_=>none
def dF(H:ab)(x:SV)(lo hi mx:Option SV):Option SV:=match x,hi,mx with
 | .bt b v off _,some hv,none=>match aQ H b with
   |some (.arr _ _ L _)=>(m9 (L.length-off) hv).bind fun h=>(dg h 0 lo).map fun l=>.bt b v (off+l) (h-l)
   |_=>none
 |_,_,_=>none
def mm(s:ByteArray)(lo hi:Option SV):Option SV:=
 (dg s.size s.size hi).bind fun h=>(dg h 0 lo).map fun l=>.str (s.extract l h)
def foldI(f:Int→Int→Int):Int→IntKind→List SV→Option SV
 |a,k,[]=>some (.int k a)
 |a,k,.int k2 b::r=>bif k==k2 then foldI f (f a b) k r else none
 |_,_,_=>none
def j5(f:Int→Int→Int):List SV→Option SV
 | .int k a::r=>foldI f a k r
 |_=>none
def bW:Nat:=1099511627776
def fI(a8 bytes:Nat)(H:ab)(s:SV)(X:List (List SV)):Option (SV×ab):=match s with
 | .aP z L f=>bif decide ((L.length+X.length)*bytes≤bW)then match L,X with
   |[],X=>bif f then some (.bt H.bl.length 0 0 X.length,aZ H (.arr 0 a8 X false))else none
   |L,[]=>some (.aP z L f,H)
   |L,X=>bif f&&z==a8 then some (.bt H.bl.length 0 0 (L.length+X.length),aZ H (.arr 0 a8 (L++X) false))else none else none
 | .bt b v off n=>bif decide ((n+X.length)*bytes≤bW)then match aQ H b with
   |some (.arr v' z L e)=>bif v==v'&&z==a8&&decide (off+n≤L.length)then
     bif !e&&off==0&&n==L.length then
      (bF H b (.arr (v+1) z (L++X) false) (SV.refs.aK X.flatten)).map fun H=>(.bt b (v+1) off (n+X.length),H)
     else bif decide (off+n+X.length≤L.length)then
      (bF H b (.arr v z (L.take (off+n)++X++L.drop (off+n+X.length)) e) (SV.refs.aK X.flatten)).map fun H=>(.bt b v off (n+X.length),H)
     else bif e then some (.bt H.bl.length 0 0 (n+X.length),aZ H (.arr 0 z ((L.drop off).take n++X) false))
     else none
    else none
   |_=>none else none
 |_=>none
def hJ(s:ByteArray):List (List SV):=s.data.toList.map fun b=>[.int .u8 b.toNat]
def toBytes:List (List SV)→Option (List UInt8)
 |[]=>some []
 |[.int .u8 n]::r=>(toBytes r).map fun l=>UInt8.ofNat n.toNat::l
 |_=>none
def kU(a8:Nat)(H:ab)(X:List (List SV)):SV→Option (SV×ab)
 | .bt b v off n=>match aQ H b with
   |some (.arr v' z L e)=>bif v==v'&&z==a8&&decide (off+n≤L.length)then
     (bF H b (.arr v z (L.take off++X.take n++L.drop (off+min X.length n)) e) (SV.refs.aK X.flatten)).map fun H=>(.int .i64 (min X.length n:Nat),H)
    else none
   |_=>none
 |_=>none
def oc(a8:Nat)(z:List SV)(H:ab):SV→Option (SV×ab)
 | .aP _ [] _=>some (.undef,H)
 | .bt b v off n=>match aQ H b with
   |some (.arr v' z' L e)=>bif v==v'&&z'==a8&&decide (off+n≤L.length)then
     (bF H b (.arr v z' (L.take off++List.replicate n z++L.drop (off+n)) e) 0).map fun H=>(.undef,H)
    else none
   |_=>none
 |_=>none
def jY(a8:Nat)(z:List SV)(bytes:Nat)(H:ab):SV→SV→Option (SV×ab)
 | .int .i64 l,.int .i64 c=>bif decide (0≤l)&&decide (l≤c)&&decide (c*bytes≤bW)then
    some (.bt H.bl.length 0 0 l.toNat,aZ H (.arr 0 a8 (List.replicate c.toNat z) true))else none
 |_,_=>none
def dx(off:Nat):SV→Option SV
 | .ptr b v i o=>some (.ptr b v i (o+off))
 | .dy cs=>some (.dy (cs.drop off))
 |_=>none
def cur(H:ab):SV→Bool
 | .ptr b v _ _=>match aQ H b with
   |some (.box _)=>true
   |some (.arr v' _ _ _)=>v==v'
   |_=>false
 | .bt b v _ _=>match aQ H b with
   |some (.arr v' _ _ _)=>v==v'
   |_=>false
 |_=>true
def cq(H:ab)(z:Nat):SV→Bool
 | .bt b v _ _=>match aQ H b with
   |some (.arr v' z' _ _)=>v==v'&&z'==z
   |_=>false
 | .aP z' L _=>z'==z||L.isEmpty
 |_=>false
def lT:SV→Option SV
 | .ptr b v i o=>some (.ptr b v i o)
 | .dy cs=>some (.dy cs)
 |_=>none
def eA(H:ab):NK→SV→Option Bool
 | .p,.dU=>some true
 | .p,.ptr b v i o=>bif cur H (.ptr b v i o)then some false else none
 | .p,.dy _=>some false
 | .f,.eL=>some true
 | .f,.fn _ _=>some false
 | .f,.jf _=>some false
 | .s,.aP _ L _=>bif L.isEmpty then none else some false
 | .s,.bt b v off n=>bif cur H (.bt b v off n)&&decide (0<n)then some false else none
 |_,_=>none
def pA(H:ab):SV→Option Bool
 | .aP _ L _=>some L.isEmpty
 | .bt b v off n=>bif cur H (.bt b v off n)then some (n==0)else none
 |_=>none
def rH:LK→SV→SV→Option Bool
 | .i,.int k a,.int k' b=>bif k==k' then some (a==b)else none
 | .s,.str a,.str b=>some (a==b)
 | .b,.bool a,.bool b=>some (a==b)
 |_,_,_=>none
def mT(t:LK)(k:SV):List (SV×SV)→Nat→Option (Option (Nat×SV))
 |[],_=>some none
 |(q,v)::es,i=>(rH t k q).bind fun b=>bif b then some (some (i,v))else mT t k es (i+1)
def isKey:SV→Bool
 | .int _ _| .str _| .bool _=>true
 |_=>false
def xc(k v:SV)(es:List (SV×SV)):Option (Nat×SV)→List (SV×SV)
 |some (i,_)=>es.set i (k,v)
 |none=>es++[(k,v)]
def oN(t:LK)(H:ab)(k v:SV):SV→Option (SV×ab)
 | .mp b=>match aQ H b with
   |some (.map es)=>bif isKey k&&v.gD then(mT t k es 0).bind fun r=>(bF H b (.map (xc k v es r)) v.refs).map (.undef,·)else none
   |_=>none
 |_=>none
def oF(t:LK)(ok:Bool)(z:SV)(H:ab)(k:SV):SV→Option (SV×ab)
 | .mp b=>match aQ H b with
   |some (.map es)=>bif isKey k then(mT t k es 0).map fun r=>(match r with
    |some (_,v)=>bif ok then .cG [v,.bool true]else v
    |none=>bif ok then .cG [z,.bool false]else z,H)else none
   |_=>none
 |_=>none
def bn(e:Env)(H:ab):gC→Option (SV×ab)
 | .fk x=>some (ev e x,H)
 | .pick c a b=>(fP (ev e c) (ev e a) (ev e b)).map (·,H)
 | .box x=>(bY (ev e x)).map fun cs=>(.ptr H.bl.length 0 0 0,aZ H (.box cs))
 | .alloc z=>some (.ptr H.bl.length 0 0 0,aZ H (.box z))
 | .jm z=>(bF (aZ (aZ H (.arr 0 z [] false)) (.box [.aP 0 [] true])) (H.bl.length+1) (.box [.bt H.bl.length 0 0 0]) (H.bl.length+1)).map fun H'=>(.ptr (H.bl.length+1) 0 0 0,H')
 | .build z ps=>(ew (ev e) z ps).map (.agg ·,H)
 | .ep a8 z n ps=>(cU (ev e) a8 (List.replicate n z) ps).map fun L=>(.bt H.bl.length 0 0 n,aZ H (.arr 0 a8 L true))
 | .dR a8 z n ps=>((cU (ev e) a8 (List.replicate n z) ps).bind fun L=>bif SV.refs.aK L.flatten==0 then some (.aP a8 L true)else none).map (·,H)
 | .load ag n a=>(bM ag n H (ev e a)).map (·,H)
 | .store n a x=>(cp n H (ev e x) (ev e a)).map (.undef,·)
 | .eO x=>bif cur H (ev e x)then(lT (ev e x)).map (·,H)else none
 | .bin op x y=>(cJ op (ev e x) (ev e y)).map (·,H)
 | .mz op x y=>(ju op (ev e x) (ev e y)).map (·,H)
 | .gH neg sh x y=>match ev e x,ev e y with
   | .agg a,.agg b=>(bg sh a b).map fun r=>(.bool (neg ^^ r),H)
   |_,_=>none
 | .iC x=>match ev e x with| .bool b=>some (.bool (!b),H)|_=>none
 | .isNil k neg x=>(eA H k (ev e x)).map fun b=>(.bool (neg ^^ b),H)
 | .mF x=>match ev e x with| .int k n=>some (.int k (k.wrap (0-n)),H)|_=>none
 | .dX k x=>match ev e x with| .int _ n=>some (.int k (k.wrap n),H)|_=>none
 | .kT x=>match ev e x with| .str s=>some (.str s,H)|_=>none
 | .l5 x=>(ig 1 H (ev e x)).bind fun L=>(toBytes L).map fun l=>(.str ⟨l.toArray⟩,H)
 | .ka x=>match ev e x with| .str s=>some (.bt H.bl.length 0 0 s.size,aZ H (.arr 0 1 (hJ s) false))|_=>none
 | .kL f cs=>some (.fn f (cs.map (ev e)),H)
 | .jA f cs=>some (.mf f (cs.map (ev e)),H)
 | .dE a8 z bytes l c=>jY a8 z bytes H (ev e l) (ev e c)
 | .dA a8 x lo hi mx=>bif cq H a8 (ev e x)then((gR (ev e x) (lo.map (ev e)) (hi.map (ev e)) (mx.map (ev e))).orElse fun _=>dF H (ev e x) (lo.map (ev e)) (hi.map (ev e)) (mx.map (ev e))).map (·,H)else none
 | .iZ x lo hi=>match ev e x with| .str s=>(mm s (lo.map (ev e)) (hi.map (ev e))).map (·,H)|_=>none
 | .bZ off x=>bif cur H (ev e x)then(dx off (ev e x)).map (·,H)else none
 | .field ag n off x=>match ev e x with| .agg cs=>(bN ag n cs off).map (·,H)|_=>none
 | .cC a8 x ix=>bif cq H a8 (ev e x)then(eN (ev e x) (ev e ix)).map (·,H)else none
 | .fq len a8 x ix=>bif cur H (ev e x)then(fQ len (ev e ix)).bind fun i=>(dx (i*a8) (ev e x)).map (·,H)else none
 | .iY ag n len x ix=>match ev e x with| .agg cs=>(fQ len (ev e ix)).bind fun i=>(bN ag n cs (i*n)).map (·,H)|_=>none
 | .iR x ix=>match ev e x with| .str s=>(fQ s.size (ev e ix)).bind fun i=>(s.data[i]?).map fun b=>(.int .u8 b.toNat,H)|_=>none
 | .extract x i=>match ev e x with| .cG vs=>(vs[i]?).map (·,H)|_=>none
 | .len x=>bif cur H (ev e x)then(jG (ev e x)).map fun(n:Nat)=>(.int .i64 n,H)else none
 | .qj x=>match ev e x with| .str s=>some (.int .i64 s.size,H)|_=>none
 | .pV n=>some (.int .i64 n,H)
 | .pS xs=>(j5 (fun a b=>if b>a then b else a) (xs.map (ev e))).map (·,H)
 | .pB xs=>(j5 (fun a b=>if b<a then b else a) (xs.map (ev e))).map (·,H)
 | .append a8 bytes s x=>(ig a8 H (ev e x)).bind (fI a8 bytes H (ev e s))
 | .jN s x=>match ev e x with| .str b=>fI 1 1 H (ev e s) (hJ b)|_=>none
 | .copy a8 d x=>(ig a8 H (ev e x)).bind fun X=>kU a8 H X (ev e d)
 | .clear a8 z x=>oc a8 z H (ev e x)
 | .mP=>some (.mp H.bl.length,aZ H (.map []))
 | .sj t x k v=>oN t H (ev e k) (ev e v) (ev e x)
 | .pe t ok z x k=>oF t ok z H (ev e k) (ev e x)
 | .call _ _=>none
 | .eK _ _ _=>none
 | .jv _ _=>none
 | .bad=>none
abbrev kK{A:Type}(_:A):Type:=Unit
section
variable{R:Type}
def fork(b:Bool)(x y:R)(_:kK (x,y)):R:=bif b then x else y
def kn(v:SV)(f:Bool→Option R)(_:kK f):Option R:=match v with| .bool b=>f b|_=>none
def de(v:SV)(w:Bool)(f:Bool→Option R)(_:kK f):Option R:=match v with| .bool b=>f (b==w)| .fa=>f false|_=>none
def aL{A:Type}(v:Option A)(f:A→Option R)(_:kK f):Option R:=match v with|some v=>f v|none=>none
open Classical in
noncomputable def jT (v:Option Bool) (neg:Bool) (f:Bool→Option R) (_:kK f):Option R:=match v with
 |none=>none
 |some false=>f neg
 |some true=>if f true=f false then f true else none
end
def bq(e:Env):Option Nat→SV→Env
 |none,_=>e
 |some d,v=>(d,v)::e
def gM(rec:Rec)(f:SV)(xs:List SV)(H:ab):Option (SV×ab):=match f with
 | .fn f cs=>rec (.fn f) (xs++cs) H
 | .mf f cs=>rec (.fn f) (cs++xs) H
 | .jf b=>rec (.jf b) xs H
 |_=>none
def la(rec:Rec)(f:SV)(xs:List SV)(H:ab):Option (SV×ab):=match f with
 | .fn f cs=>rec (.fn f) (xs++cs) H
 |_=>none
def a7{A:Type}:List (Option A)→Option (List A)
 |[]=>some []
 |some a::r=>(a7 r).map (a:: ·)
 |none::_=>none
def bI:Nat:=8
def cR(N:Nat)(H:ab):Nat→SV→Option SV
 |0,_=>none
 |d+1,v=>match v with
  | .agg cs=>(a7 (cs.map (cR N H d))).map .agg
  | .cG cs=>(a7 (cs.map (cR N H d))).map .cG
  | .bt b bB off n=>bif decide (b<N)then some v else match aQ H b with
    |some (.arr ver' z L ex)=>bif bB==ver'&&decide (off+n≤L.length)then
      (a7 (((L.drop off).take n).map fun cs=>a7 (cs.map (cR N H d)))).bind fun L'=>
       bif SV.refs.aK L'.flatten==0 then some (.aP z L' (ex&&off+n==L.length))else none
     else none
    |_=>none
  | .int k n=>some (.int k n)
  | .bool b=>some (.bool b)
  | .aP z L f=>some (.aP z L f)
  |v=>bif decide (v.refs≤N)then some v else none
def iG:SV→Bool
 | .int _ _| .bool _| .str _=>true
 |_=>false
def tu:SV→Bool
 | .cG vs=>vs.all iG
 | .agg vs=>vs.all iG
 |v=>iG v
def mO(rec:Rec)(f:FuncId)(xs:List SV)(H:ab):Option (SV×ab):=
 (a7 (xs.map (cR 0 H bI))).bind fun vs=>(rec (.fn f) vs {bl:=[],br:=[],ro:=0}).bind fun r=>bif tu r.1 then some (r.1,H)else none
def ae(rec:Rec)(e:Env)(H:ab):gC→Option (SV×ab)
 | .call f xs=>gM rec (ev e f) (xs.map (ev e)) H
 | .eK f _ xs=>rec (.qC f) (xs.map (ev e)) H
 | .jv f xs=>mO rec f (xs.map (ev e)) H
 |o=>bn e H o
def bz{R:Type}(rec:Rec):(l:List an)→Env→ab→(k:Env→ab→Option R)→kK (l,k)→Option R
 |[],e,H,k,_=>k e H
 |o::os,e,H,k,_=>match o.g with
  |none=>aL (ae rec e H o.op) (fun r=>bz rec os (bq e o.dst r.1) r.2 k ()) ()
  |some (t,w)=>de (get e t) w (fun b=>fork b (aL (ae rec e H o.op) (fun r=>bz rec os (bq e o.dst r.1) r.2 k ()) ())
    (bz rec os (bq e o.dst .fa) H k ()) ()) ()
def bG(N:Nat)(ds:List Nat)(l:List bb):List bb:=ds.foldl (fun l d=>l.set (N+d) .dead) l
def nj:SV→Nat→SV→Nat→Bool
 | .ptr b _ i o,m,.ptr b' _ i' o',n=>!(b==b')||!(i==i')||decide (o+m≤o')||decide (o'+n≤o)
 | .dy _,_,_,_=>true
 |_,_,_,_=>false
def ui(N:Nat)(hs:List Nat):SV→Bool
 | .ptr b _ _ _=>hs.all fun m=>!(N+m==b)
 |_=>false
def oq(rec:Rec)(N:Nat)(rd:List (bj×Nat))(hs:List Nat)(e:Env)(H:ab):gC→Option (SV×ab)
 | .store n a x=>bif decide ((ev e x).refs≤N)&&ui N hs (ev e a)&&rd.all (fun q=>nj (ev e q.1) q.2 (ev e a) n)then(cp n H (ev e x) (ev e a)).map (.undef,·)else none
 |_=>none
def bx(rec:Rec)(N:Nat)(d:aV)(e:Env)(H:ab)(o:gC):Option (SV×ab):=match d.kind with
 | .pure=>ae rec e H o
 | .dV=>(ae rec e H o).bind fun r=>bif decide (H.bl.length≤r.2.bl.length)then some r else none
 | .gJ=>(ae rec e {bl:=bG N d.cW H.bl,br:=[],ro:=H.bl.length} o).bind fun r=>
    bif r.2.bl.length==H.bl.length+d.oG&&r.2.br.isEmpty then some (r.1,{H with bl:=H.bl++r.2.bl.drop H.bl.length})else none
 | .wr rd=>oq rec N rd d.cW e H o
def dj(d:aV)(N:Nat)(H:ab):Nat:=match d.kind with
 | .dV=>H.bl.length
 |_=>N
def eG(d:aV):Bool:=match d.kind with
 | .gJ=>d.oG==0
 | .wr _=>false
 |_=>true
def bm{R:Type}(rec:Rec):(l:List (an×aV))→Nat→Env→ab→(k:Env→ab→Option R)→kK (l,k)→Option R
 |[],_,e,H,k,_=>k e H
 |(o,d)::os,N,e,H,k,_=>match o.g with
  |none=>aL (bx rec N d e H o.op) (fun r=>bm rec os (dj d N r.2) (bq e o.dst r.1) r.2 k ()) ()
  |some (t,w)=>de (get e t) w (fun b=>fork b (aL (bx rec N d e H o.op) (fun r=>bm rec os (dj d N r.2) (bq e o.dst r.1) r.2 k ()) ())
    (bif eG d then bm rec os (dj d N H) (bq e o.dst .fa) H k ()else none) ()) ()
def fi:List an→Env→Env→Env
 |[],_,e0=>e0
 |⟨some d,_,_⟩::l,e,e0=>(d,get e d)::fi l e e0
 |⟨none,_,_⟩::l,e,e0=>fi l e e0
def uH:Option an→List an→List an
 |some o,r=>o::r
 |none,r=>r
def bK(l:List an):List Nat→List an
 |[]=>[]
 |i::r=>uH l[i]? (bK l r)
def gP(rec:Rec)(l:List an)(e:Env)(H:ab)(o:List Nat):Option (Env×ab):=bz rec (bK l o) e H (fun e' H'=>some (fi l e' e,H')) ()
open Classical in
noncomputable def jq {A:Type}:List (Option A)→Option A
 |[]=>none
 |[a]=>a
 |a::b::r=>if a=b then jq (b::r)else none
def tn(H:ab):SV→Option (SV×ab)
 | .bt b bB off n=>match aQ H b with
   |some (.arr ver' z L _)=>bif bB==ver'&&decide (off+n≤L.length)&&SV.refs.aK ((L.drop off).take n).flatten==0 then
     (bF H b .dead 0).map fun H=>(.aP z ((L.drop off).take n) false,H)
    else none
   |_=>none
 | .aP z L f=>some (.aP z L f,H)
 |_=>none
def cu(N:Nat)(H0 H:ab):Option ab:=
 bif decide (N≤H.bl.length)&&H.br.all (fun p=>!(decide (p.1<N)&&decide (N<p.2)))then
  some {bl:=H.bl.take N,br:=H0.br++H.br.filter (fun p=>decide (p.1<N)),ro:=H0.ro} else none
def uw(H0 H:ab):ab:={bl:=H.bl,br:=H0.br++H.br,ro:=H0.ro}
def dQ(l:List Nat)(e:Env):Env:=l.map fun i=>(i,get e i)
def uk(H:ab)(b z j:Nat)(cs:List SV):Option SV→Option ab
 |some (.aP _ [] true)=>bF (aZ H (.arr 0 z [] false)) b (.box (cs.set j (.bt H.bl.length 0 0 0))) (H.bl.length+1)
 |_=>none
def sf(H:ab)(b z:Nat):Option bb→Option ab
 |some (.box [.aP _ [] true])=>bF (aZ H (.arr 0 z [] false)) b (.box [.bt H.bl.length 0 0 0]) (H.bl.length+1)
 |some (.box cs)=>uk H b (z%1000) (z/1000) cs (cs[z/1000]?)
 |_=>none
def dq:List (Nat×Nat)→Env→ab→Option (Env×ab)
 |[],e,H=>some (e,H)
 |(t,z)::r,e,H=>match get e t with
  | .aP _ [] true=>dq r ((t,.bt H.bl.length 0 0 0)::e) (aZ H (.arr 0 z [] false))
  | .ptr b _ _ _=>(sf H b z (aQ H b)).bind fun H=>dq r e H
  | .aP _ (_::_) true=>dq r e (aZ H (.arr 0 z [] false))
  |_=>none
def rA(H:ab)(t h z b v n:Nat)(e:Env):Option bb→Option bb→Option (Env×ab)
 |some (.arr 0 _ [] _),some (.arr v' z' L ex)=>bif z'==z&&v==v'&&n==L.length&&decide (H.ro≤h)&&!(h==b)&&SV.refs.aK L.flatten==0 then
   some ((t,.bt h (v+1) 0 n)::e,{H with bl:=(H.bl.set h (.arr (v+1) z L ex)).set b .dead})else none
 |_,_=>none
def eP:List (Nat×Nat)→Nat→Nat→Env→ab→Option (Env×ab)
 |[],_,_,e,H=>some (e,H)
 |(t,z)::r,h,N,e,H=>match get e t with
  | .bt b v 0 n=>bif decide (N≤b)&&decide (h<N)then(rA H t h z b v n e (aQ H h) (aQ H b)).bind fun s=>eP r (h+1) N s.1 s.2 else eP r (h+1) N e H
  |_=>eP r (h+1) N e H
def pg:List Nat→Bool
 |i::_=>i==999999
 |[]=>false
def mV(p:dc)(N:Nat)(H0:ab)(s:Env×ab):Option (Env×ab):=
 bif pg p.live then some (dQ p.live.tail s.1,s.2)else
 bif decide (SV.refs.aK ((dQ p.live s.1).map (·.2))≤N)then(cu N H0 s.2).map fun H=>(dQ p.live s.1,H)else none
def cZ(p:dc)(N:Nat)(H0:ab)(s:Env×ab):Option (Env×ab):=
 (eP p.aU (N-p.aU.length) N s.1 s.2).bind (mV p N H0)
abbrev Out:=jQ×Env×ab
def xt(l:List UInt8):Nat→List UInt8
 |0=>[]
 |n+1=>l++xt l n
def kP:Nat→List SV→Option SV
 |0,[.str s,.int .i64 n]=>bif decide (0≤n)&&decide (n≤1048576)&&decide (s.size≤1048576)then some (.str ⟨(xt s.data.toList n.toNat).toArray⟩)else none
 |_,_=>none
def bV(f:Env×ab→Option Out):Nat→Env×ab→Option Out
 |0,_=>none
 |n+1,s=>match f s with
  |some (.normal,s')=>bV f n s'
  |r=>r
open Classical in
noncomputable def gN (f:Env×ab→Option Out) (s:Env×ab):Option Out:=
 if h:∃n,(bV f n s).isSome then bV f (Classical.choose h) s else none
noncomputable def run {R:Type} (rec:Rec):(c:bA)→Env→ab→(k:jQ→Env→ab→Option R)→kK (c,k)→Option R
 | .skip,e,H,k,_=>k .normal e H
 | .ops l,e,H,k,_=>bz rec l e H (k .normal) ()
 | .drawn l,e,H,k,_=>bm rec l H.bl.length e H (k .normal) ()
 | .perm l os,e,H,k,_=>aL (jq (os.map (gP rec l e H))) (fun s=>k .normal s.1 s.2) ()
 | .seq a b,e,H,k,_=>run rec a e H (fun x e H=>match x with| .normal=>run rec b e H k ()|x=>k x e H) ()
 | .cond c a b,e,H,k,_=>kn (ev e c) (fun t=>fork t (run rec a e H k ()) (run rec b e H k ()) ()) ()
 | .block id a,e,H,k,_=>run rec a e H (fun x e H=>match x with| .exit j=>bif j==id then k .normal e H else k (.exit j) e H|x=>k x e H) ()
 | .freeze t,e,H,k,_=>aL (tn H (get e t)) (fun r=>k .normal ((t,r.1)::e) r.2) ()
 | .aU vs,e,H,k,_=>aL (dq vs e H) (fun s=>k .normal s.1 s.2) ()
 | .tm d neg x c,e,H,k,_=>jT (pA H (ev e x)) neg (fun b=>run rec c ((d,.bool b)::e) H k ()) ()
 | .loop p a,e,H,k,_=>aL (dq p.aU e H) (fun s=>aL (gN (fun s'=>(cZ p s.2.bl.length {s.2 with br:=[]} s').bind fun s'=>
    run rec a s'.1 s'.2 (fun x e H=>some (x,e,H)) ()) (s.1,{s.2 with br:=[]})) (fun o=>k o.1 o.2.1 {o.2.2 with br:=s.2.br++o.2.2.br}) ()) ()
 | .kC f ps x y,e,H,k,_=>aL (la rec (ev e f) [.jf H.bl.length] (aZ H (.loop ⟨e,ps,x,y⟩ .ready .normal))) (fun r=>
    match aQ r.2 H.bl.length with
    |some (.loop q st pend)=>match st with
     | .busy=>none
     |_=>aL (bF r.2 H.bl.length (.loop q .exhausted pend) 0) (fun H=>k pend e H) ()
    |_=>none) ()
 | .ext n,e,H,k,_=>aL (kP n (e.map (·.2))) (fun v=>k .ret ((0,v)::e) H) ()
 | .exit id,e,H,k,_=>k (.exit id) e H
 | .ret,e,H,k,_=>k .ret e H
def bU(e:Env)(H:ab):m6→Option SV
 | .tmp t=>some (get e t)
 | .cell t ag n=>bM ag n H (get e t)
def results1(e:Env)(H:ab)(rs:List m6):Option SV:=
 (a7 (rs.map (bU e H))).map fun vs=>match vs with|[v]=>v|vs=>.cG vs
def cQ(xs:List SV):Env:=go 0 xs
where go:Nat→List SV→Env
 |_,[]=>[]
 |i,x::r=>(i,x)::go (i+1) r
def cc(keep:Bool)(H0:ab)(v:SV)(H:ab):Option (SV×ab):=
 bif keep then some (v,uw H0 H)else(cR H0.bl.length H bI v).bind fun v=>(cu H0.bl.length H0 H).map fun H=>(v,H)
def jH(b:Nat)(st:LoopState)(pend:jQ)(H:ab):Option ab:=match aQ H b with
 |some (.loop q _ _)=>bF H b (.loop q st pend) 0
 |_=>none
def jb(b:Nat)(H:ab):Option ab:=match aQ H b with
 |some (.loop q .ready pend)=>bF H b (.loop q .busy pend) 0
 |_=>none
def aB:ab:={bl:=[],br:=[],ro:=0}
def dW(F:bp)(xs:List SV):Bool:=SV.refs.aK xs==0&&!F.keep
noncomputable def aI (T:FuncId→Option bp):Nat→Rec
 |0,_,_,_=>none
 |n+1,.fn f,xs,H=>match T f with
  |none=>none
  |some F=>bif dW F xs then
    (run (aI T n) F.body (cQ xs) aB (fun x e H'=>match x with
     | .exit _=>none
     |_=>(results1 e H' F.res).bind fun v=>cR 0 H' bI v) ()).map fun v=>(v,H)
   else run (aI T n) F.body (cQ xs) {bl:=H.bl,br:=[],ro:=min H.ro H.bl.length} (fun x e H'=>match x with
    | .exit _=>none
    |_=>(results1 e H' F.res).bind fun v=>cc F.keep H v H') ()
 |n+1,.qC f,xs,H=>match T f with
  |none=>none
  |some F=>run (aI T n) F.body (cQ xs) {bl:=H.bl,br:=[],ro:=min H.ro H.bl.length} (fun x e H'=>match x with
    | .exit _=>none
    |_=>(results1 e H' F.res).bind fun v=>cc true H v H') ()
 |n+1,.jf b,xs,H=>match aQ H b with
  |some (.loop q .ready _)=>
   bif q.ps.length==xs.length then
    run (aI T n) q.assign ((q.ps.zip xs).reverse++q.env) {bl:=H.bl,br:=[],ro:=min H.ro H.bl.length} (fun x e H'=>match x with
     | .normal=>(jb b H').bind fun H'=>run (aI T n) q.body e H' (fun x _ H'=>
        (jH b (match x with| .normal=>.ready|_=>.done) x H').bind fun H'=>
         (cu H.bl.length H H').map fun H'=>(.bool (match x with| .normal=>true|_=>false),H')) ()
     |_=>none) ()
   else none
  |_=>none
abbrev FV(n:Int):SV:=.int .i64 n
abbrev FW:SV:=.int .i64 0
abbrev FX(a b:Nat):gC:=.pick (.t a) (.c (.bool true)) (.t b)
abbrev FY(a b:Nat):gC:=.pick (.t a) (.t b) (.c (.bool false))
abbrev FZ(a:Nat):gC:=.load false 1 (.t a)
end
section
structure qm where
 keep:FuncId→Option Nat
 loop:FuncId→Nat→dc
 lit:FuncId→Nat→Bool
 cR:FuncId→Nat→List Nat
 Bb:FuncId→Nat→List (Nat×Nat):=fun _ _=>[]
 oD:FuncId→Nat→Option Nat:=fun _ _=>none
 viewAt:FuncId→Nat→Bool:=fun _ _=>false
 sG:FuncId→Nat→Option Nat:=fun _ _=>none
 ext:FuncId→Option Nat:=fun _=>none
 Bg:FuncId→Nat→Bool:=fun _ _=>false
def gS:Nat→Value→Option SV
 |0,_=>none
 |d+1,v=>match v with
  | .bool b=>some (.bool b)
  | .int k n=>some (.int k n)
  | .string s=>some (.str s)
  | .pointer none=>some .dU
  | .slice none 0 0=>some (.aP 0 [] true)
  | .nilFunc=>some .eL
  | .agg cs=>(a7 (cs.toList.map (gS d))).bind fun cs=>bif cs.all SV.gD then some (.agg cs)else none
  |_=>none
def aR:Operand→Option bj
 | .tmp t=>some (.t t)
 | .const v=>(gS 2 v).map .c
 | .func f=>some (.c (.fn f []))
 | .global _=>none
def eX(xs:Array Operand):Option (List bj):=a7 (xs.toList.map aR)
def dK:Option Operand→Option (Option bj)
 |none=>some none
 |some x=>(aR x).map some
section
variable(P:Program)
def dC(t:TypeId):Option Nat:=(P.info? t).map (·.size)
def fh(t:TypeId):Option Bool:=match P.underlying t with
 |some (.struct _)=>some true
 |some (.array _ _)=>some true
 |some _=>some false
 |none=>none
def eh(t:TypeId):Option (List SV):=match P.info? t with
 |some i=>match i.zero with
  |some v=>(a7 (v.cells.toList.map (gS 1))).bind fun z=>bif z.all SV.gD then some z else none
  |none=>none
 |none=>none
def cK:Nat→TypeId→Option (List LK)
 |0,_=>none
 |d+1,t=>match P.underlying t with
  |some .bool=>some [.b]
  |some (.int _)=>some [.i]
  |some .string=>some [.s]
  |some (.struct fs)=>bif P.stoodInHeld t then none else fs.toList.foldlM (init:=[]) fun acc f=>
    bif f.name != "_" &&f.offset==acc.length then(cK d f.type).bind fun sh=>bif (dC P f.type)==some sh.length then some (acc++sh)else none else none
  |some (.array n e)=>(cK d e).bind fun sh=>bif (dC P e)==some sh.length then some (List.replicate n sh).flatten else none
  |_=>none
def gl(t:TypeId):Option (List Field):=match P.underlying t with
 |some (.struct fs)=>some fs.toList
 |_=>none
def gL(t:TypeId):Option TypeId:=match P.underlying t with
 |some (.slice e)=>some e
 |_=>none
def nR(t:TypeId)(ps:List (Nat×Operand)):Option (List (Nat×Nat×bj)):=match P.underlying t with
 |some (.struct fs)=>bif !fs.toList.all (fun f=>(dC P f.type).isSome)then none else a7 (ps.map fun p=>match fs[p.1]? with
  |some f=>match dC P f.type,aR p.2 with
   |some n,some x=>some (f.offset,n,x)
   |_,_=>none
  |none=>none)
 |some (.array _ e)=>match dC P e with
  |some n=>a7 (ps.map fun p=>(aR p.2).map fun x=>(p.1*n,n,x))
  |none=>none
 |_=>none
def jr(c:Call):Option gC:=match c.callee with
 | .value f=>match aR f,eX c.args with
   |some f,some xs=>some (.call f xs)
   |_,_=>none
 | .invoke _ _=>none
 | .builtin b=>match eX c.args with
   |none=>none
   |some xs=>match b,xs with
    | .len,[x]=>match(c.argTypes[0]?).bind P.underlying with
      |some .string=>some (.qj x)
      |some (.slice _)=>some (.len x)
      |some (.array n _)=>some (.pV n)
      |_=>none
    | .max,xs=>match(c.argTypes[0]?).bind P.underlying with|some (.int _)=>some (.pS xs)|_=>none
    | .min,xs=>match(c.argTypes[0]?).bind P.underlying with|some (.int _)=>some (.pB xs)|_=>none
    | .append,[s,x]=>match(c.argTypes[0]?).bind (gL P),(c.argTypes[1]?).bind P.underlying with
      |some e,some (.slice _)=>match P.info? e with|some i=>bif i.size==0||i.bytes==0 then none else(match eh P e with|some z=>bif z.length==i.size then some (.append i.size i.bytes s x)else none|none=>none)|none=>none
      |_,_=>none
    | .copy,[d,x]=>match(c.argTypes[0]?).bind (gL P),(c.argTypes[1]?).bind P.underlying with
      |some e,some (.slice _)=>match dC P e with|some (n+1)=>some (.copy (n+1) d x)|_=>none
      |_,_=>none
    | .clear,[x]=>match(c.argTypes[0]?).bind (gL P)with
      |some e=>match eh P e with|some (z::zs)=>some (.clear (z::zs).length (z::zs) x)|_=>none
      |none=>none
    |_,_=>none
def mw(op:BinOp)(u:TypeDesc)(y:Operand)(x:bj):Option gC:=match op,u,y with
 | .eql,.pointer _,.const (.pointer none)=>some (.isNil .p false x)
 | .neq,.pointer _,.const (.pointer none)=>some (.isNil .p true x)
 | .eql,.func _ _ _,.const .nilFunc=>some (.isNil .f false x)
 | .neq,.func _ _ _,.const .nilFunc=>some (.isNil .f true x)
 | .eql,.slice _,.const (.slice none 0 0)=>some (.isNil .s false x)
 | .neq,.slice _,.const (.slice none 0 0)=>some (.isNil .s true x)
 |_,_,_=>none
def mJ(t:TypeId):Option (LK×TypeId):=match P.underlying t with
 |some (.map k e)=>bif dC P e==some 1&&fh P e==some false then(match P.underlying k with
  |some (.int _)=>some (.i,e)
  |some .string=>some (.s,e)
  |some .bool=>some (.b,e)
  |_=>none)else none
 |_=>none
def lZ(t:TypeId):Option SV:=match P.info? t with
 |some i=>match i.zero with
  |some v=>(gS 1 v).bind fun z=>bif z.gD then some z else none
  |none=>none
 |none=>none
def jd(o:Op):Option gC:=match o with
 | .move x=>(aR x).map .fk
 | .assign x=>(aR x).map .fk
 | .pick c a b=>match aR c,aR a,aR b with
   |some c,some a,some b=>some (.pick c a b)
   |_,_,_=>none
 | .alloc t=>(eh P t).map .alloc
 | .box _ x=>(aR x).map .box
 | .build t ps=>match eh P t,nR P t ps.toList with
   |some z,some ps=>some (.build z ps)
   |_,_=>none
 | .buildSlice t n ps=>match gL P t with
   |some e=>match dC P e,eh P e,a7 (ps.toList.map fun p=>(aR p.2).map fun x=>(p.1,x))with
    |some (z+1),some zs,some ps=>bif decide (n*(z+1)≤16777216)&&zs.length==z+1 then some (.ep (z+1) zs n ps)else none
    |_,_,_=>none
   |none=>none
 | .load t a=>match fh P t,dC P t,aR a with
   |some ag,some n,some a=>some (.load ag n a)
   |_,_,_=>none
 | .store t a x=>match dC P t,aR a,aR x with
   |some n,some a,some x=>some (.store n a x)
   |_,_,_=>none
 | .nilCheck x=>(aR x).map .eO
 | .binOp op t xo yo _=>match aR xo,aR yo with
   |some x,some y=>match op,P.underlying t with
    | .eql,some (.struct _)=>bif P.eqGuardType P.depth t then none else(cK P 6 t).map (.gH false · x y)
    | .neq,some (.struct _)=>bif P.eqGuardType P.depth t then none else(cK P 6 t).map (.gH true · x y)
    | .eql,some (.array _ _)=>bif P.eqGuardType P.depth t then none else(cK P 6 t).map (.gH false · x y)
    | .neq,some (.array _ _)=>bif P.eqGuardType P.depth t then none else(cK P 6 t).map (.gH true · x y)
    |op,some (.int _)=>some (.bin op x y)
    |op,some .bool=>some (.mz op x y)
    |op,some .string=>some (.bin op x y)
    |op,some u=>mw op u yo x
    |_,none=>none
   |_,_=>none
 | .unOp .not _ x=>(aR x).map .iC
 | .unOp .neg t x=>match P.underlying t with|some (.int _)=>(aR x).map .mF|_=>none
 | .convert s d x=>match aR x with
   |none=>none
   |some x=>match P.underlying s,P.underlying d with
    |some (.int _),some (.int k)=>some (.dX k x)
    |some .string,some .string=>some (.kT x)
    |some (.slice el),some .string=>match P.underlying el,dC P el with
     |some (.int .u8),some 1=>some (.l5 x)
     |_,_=>none
    |some .string,some (.slice el)=>match P.underlying el,dC P el with
     |some (.int .u8),some 1=>some (.ka x)
     |_,_=>none
    |_,_=>none
 | .makeFunc (.func f) fs cs=>bif fs.isEmpty then(eX cs).map (.kL f ·)else bif cs.isEmpty then(eX fs).map (.jA f ·)else none
 | .makeSlice t l c=>match gL P t with
   |some e=>match P.info? e,eh P e,aR l,aR c with
    |some i,some z,some l,some c=>bif i.size==0||i.bytes==0 then none else bif z.length==i.size then some (.dE i.size z i.bytes l c)else none
    |_,_,_,_=>none
   |none=>none
 | .slice t x lo hi mx=>match aR x,dK lo,dK hi,dK mx with
   |some x,some lo,some hi,some mx=>match P.underlying t with
    |some (.slice e)=>match dC P e with|some n=>bif mx.isSome&&hi.isNone then none else some (.dA n x lo hi mx)|none=>none
    |some .string=>match mx with|none=>some (.iZ x lo hi)|some _=>none
    |_=>none
   |_,_,_,_=>none
 | .fieldAddr s x f=>match aR x,(gl P s).bind (·[f]?)with
   |some x,some f=>match dC P f.type with
    |some (_+1)=>some (.bZ f.offset x)
    |_=>none
   |_,_=>none
 | .field s x f=>match aR x,(gl P s).bind (·[f]?)with
   |some x,some f=>match fh P f.type,dC P f.type with
    |some ag,some n=>some (.field ag n f.offset x)
    |_,_=>none
   |_,_=>none
 | .indexAddr t x ix=>match aR x,aR ix with
   |some x,some ix=>match P.underlying t with
    |some (.slice e)=>match dC P e with|some (n+1)=>some (.cC (n+1) x ix)|_=>none
    |some (.array len e)=>match dC P e with|some (n+1)=>some (.fq len (n+1) x ix)|_=>none
    |_=>none
   |_,_=>none
 | .index t x ix=>match aR x,aR ix with
   |some x,some ix=>match P.underlying t with
    |some (.array len e)=>match fh P e,dC P e with|some ag,some n=>some (.iY ag n len x ix)|_,_=>none
    |some .string=>some (.iR x ix)
    |_=>none
   |_,_=>none
 | .extract x i=>(aR x).map (.extract · i)
 | .call c=>jr P c
 | .makeMap _ none=>some .mP
 | .insert t m k v=>match mJ P t,aR m,aR k,aR v with
   |some (q,_),some m,some k,some v=>some (.sj q m k v)
   |_,_,_,_=>none
 | .mapUpdate t m k v=>match mJ P t,aR m,aR k,aR v with
   |some (q,_),some m,some k,some v=>some (.sj q m k v)
   |_,_,_,_=>none
 | .lookup t m k ok=>match mJ P t,aR m,aR k with
   |some (q,e),some m,some k=>(lZ P e).map fun z=>.pe q ok z m k
   |_,_,_=>none
 |_=>none
inductive tD where|no|list|keep (n:Nat)|view|rb (z:Nat)
def lk(cg:qm)(f:FuncId):Option Nat→tD
 |none=>.no
 |some d=>match cg.oD f d with
  |some n=>.keep n
  |none=>match cg.sG f d with
   |some z=>.rb z
   |none=>bif cg.viewAt f d then .view else bif cg.lit f d then .list else .no
def mY(b:tD)(o:gC):gC:=match b,o with
 | .list,.ep a8 z n ps=>.dR a8 z n ps
 | .keep n,.call (.c (.fn g [])) xs=>.eK g n xs
 | .view,.call (.c (.fn g [])) xs=>.jv g xs
 | .rb z,.alloc [.aP 0 [] true]=>.jm z
 | .rb z,.build [.aP 0 [] true,.aP 0 [] true] []=>.build [.aP (z/100) [] true,.aP (z%100) [] true] []
 |_,o=>o
def eE(cg:qm)(f:FuncId)(nt:Nat)(ops:Array Oper)(o:Oper):Option an:=
    let op:=mY (lk cg f o.dst) ((jd P o.op).getD .bad)
    bif o.dst.any (fun d=>decide (nt≤d))then none else match o.guard with
    |none=>some ⟨o.dst,op,none⟩
    |some (j,w)=>match(ops[j]?).bind (·.dst)with
     |some t=>some ⟨o.dst,op,some (t,w)⟩
     |none=>none
end
def dS:gC→Bool
 | .fk _| .pick .. | .build .. | .dR .. | .bin .. | .mz .. | .gH .. | .iC _| .mF _| .dX .. | .kT _| .kL .. | .jA .. | .field .. | .iY .. | .iR .. | .extract .. | .qj _| .pV _| .pS _| .pB _| .iZ .. =>true
 |_=>false
def aY(ops:List Oper):List Nat:=
 ops.foldl (init:=[]) fun acc o=>acc++[o.after.toList.foldl (fun s e=>bif Region.binds .any e then s|||2 ^ e.on|||acc.getD e.on 0 else s) 0]
def bc(o:an):List Nat:=(match o.op with
 | .fk x| .box x| .eO x| .iC x| .isNil _ _ x| .mF x| .dX _ x| .kT x| .l5 x| .ka x| .bZ _ x| .field _ _ _ x| .extract x _| .len x| .qj x| .clear _ _ x| .load _ _ x=>f [x]
 | .pick c a b=>f [c,a,b]
 | .build _ ps=>f (ps.map (·.2.2))
 | .ep _ _ _ ps=>f (ps.map (·.2))
 | .dR _ _ _ ps=>f (ps.map (·.2))
 | .store _ a x| .bin _ a x| .mz _ a x| .gH _ _ a x| .cC _ a x| .fq _ _ a x| .iY _ _ _ a x| .iR a x| .append _ _ a x| .jN a x| .copy _ a x| .dE _ _ _ a x=>f [a,x]
 | .kL _ cs=>f cs
 | .jA _ cs=>f cs
 | .dA _ x lo hi mx=>f ([x]++lo.toList++hi.toList++mx.toList)
 | .iZ x lo hi=>f ([x]++lo.toList++hi.toList)
 | .pS xs| .pB xs=>f xs
 | .mP=>[]
 | .sj _ x k v=>f [x,k,v]
 | .pe _ _ _ x k=>f [x,k]
 | .call g xs=>f (g::xs)
 | .eK _ _ xs=>f xs
 | .jv _ xs=>f xs
 | .alloc _| .jm _| .pV _| .bad=>[])++(match o.g with|some (t,_)=>[t]|none=>[])
where f (xs:List bj):List Nat:=xs.filterMap fun| .t n=>some n| .c _=>none
def sb(bs:List Nat)(i j:Nat):Bool:=i==j||(bs.getD j 0).testBit i||(bs.getD i 0).testBit j
def wK(cg:qm)(f:FuncId)(o:an):Nat:=match o.op with
 | .call (.t _) _=>(o.dst.bind (cg.oD f)).getD 0
 | .call (.c (.fn f _)) _=>(cg.keep f).getD 0
 | .eK _ n _=>n
 | .jm _=>2
 | .append .. | .jN .. | .box _| .alloc _| .ep .. | .dE .. | .ka _| .mP=>1
 |_=>0
def kz(d:aV):Bool:=match d.kind with| .dV=>true|_=>false
def lF(d:aV):Bool:=match d.kind with| .gJ=>true|_=>false
def kf(d:aV):Bool:=match d.kind with| .pure=>true|_=>false
def bT(d:aV):Bool:=match d.kind with| .wr _=>true|_=>false
def jc:gC→Bool
 | .bZ .. | .cC .. | .fq .. | .len .. | .dA .. | .eO .. | .isNil .. | .alloc .. | .box .. | .ep .. | .dE .. =>true
 |_=>false
def sF:bj→bj→Bool
 | .t a,.t b=>a==b
 |_,_=>false
def ji(pl:List (an×aV))(i k:Nat)(o:gC)(d:aV):Bool:=match o,d.kind with
 | .load ag n a,.wr rd=>rd.any (fun q=>sF q.1 a&&q.2==(bif ag then n else 1))&&match a with
   | .t u=>(List.range k).all fun m=>decide (m<i)||match pl[m]? with|some p=>!(p.1.dst==some u)|none=>false
   | .c _=>false
 |_,_=>false
def gw(bs:List Nat)(ops:List Oper)(pl:List (an×aV)):Bool:=
 let n:=pl.length
 let rg:=List.range n
 let dr:=fun i=>((pl[i]?).map (·.2)).getD ⟨.pure,[],0,0⟩
 let dV:=fun i=>kz (dr i)
 let gJ:=fun i=>lF (dr i)
 (ops.zipIdx.all fun p=>p.1.after.toList.all fun e=>!Region.binds .any e||decide (e.on<p.2)) &&
 (rg.all fun j=>(List.range j).all fun i=>match pl[i]?,pl[j]? with
  |some a,some b=>(bs.getD j 0).testBit i||!((match a.1.dst with|some d=>(bc b.1).contains d||b.1.dst==some d|none=>false)||(match b.1.dst with|some d=>(bc a.1).contains d|none=>false))
  |_,_=>false) &&
 (pl.all fun p=>!kf p.2||dS p.1.op&&p.2.oG==0) &&
 (rg.all fun i=>!dV i||rg.all fun j=>kf (dr j)||sb bs i j) &&
 (rg.all fun i=>(dr i).gd==match i with|0=>0|k+1=>bif dV k then 0 else(dr k).gd+(dr k).oG) &&
 (rg.all fun i=>!(gJ i||bT (dr i))||(List.range i).all fun k=>!gJ k||((List.range i).any fun m=>decide (k<m)&&dV m)||(bs.getD i 0).testBit k||(List.range (dr k).oG).all fun m=>(dr i).cW.contains ((dr k).gd+m)) &&
 (rg.all fun k=>!bT (dr k)||(dr k).oG==0&&rg.all fun m=>!decide (k<m)||kf (dr m)||(bs.getD m 0).testBit k) &&
 (rg.all fun k=>!bT (dr k)||(List.range k).all fun i=>!gJ i||((List.range k).any fun m=>decide (i<m)&&dV m)||(bs.getD k 0).testBit i||match pl[i]? with|some a=>jc a.1.op||ji pl i k a.1.op (dr k)|none=>false)
def jg(cg:qm)(f:FuncId)(bs:List Nat)(l:List an)(useW:Bool):List (an×aV):=
 let n:=l.length
 let pu:=l.map fun o=>dS o.op
 let nonpure:=(List.range n).filter fun i=>!pu.getD i true
 let bars:=(List.range n).map fun i=>!pu.getD i true&&nonpure.all fun j=>sb bs i j
 let isst:=l.map fun o=>match o.op with| .store .. =>true|_=>false
 let nals:=l.zipIdx.map fun p=>bif pu.getD p.2 true||bars.getD p.2 false then 0 else wK cg f p.1
 let scan:=(List.range n).foldl (init:=(([]:List (Nat×Nat)),0,0)) fun(acc,off,st) i=>
  bif bars.getD i false then(acc++[(off,st)],0,i+1)else(acc++[(off,st)],off+nals.getD i 0,st)
 l.zipIdx.map fun p=>
   let i:=p.2
   let os:=scan.1.getD i (0,0)
   let cW:=(List.range i).flatMap fun k=>bif decide (os.2≤k)&&!pu.getD k true&&!sb bs i k then(List.range (nals.getD k 0)).map fun m=>(scan.1.getD k (0,0)).1+m else[]
   (p.1,bif pu.getD i true then⟨.pure,[],0,os.1⟩else bif bars.getD i false then⟨.dV,[],0,os.1⟩else
     bif useW&&isst.getD i false then⟨.wr ((List.range i).flatMap fun k=>bif decide (os.2≤k)&&!sb bs i k then(match l[k]? with|some o=>(match o.op with| .load ag n a=>[(a,bif ag then n else 1)]|_=>[])|none=>[])else[]),cW,0,os.1⟩else
     ⟨.gJ,cW,nals.getD i 0,os.1⟩)
def ob(cg:qm)(f:FuncId)(ops:List Oper)(l:List an):Option (List (an×aV)):=
 let bs:=aY ops
 let a:=jg cg f bs l true
 bif gw bs ops a then some a else
  let b:=jg cg f bs l false
  bif gw bs ops b then some b else none
def gU(bs:List Nat):Nat→List Nat→List (List Nat)
 |0,_=>[[]]
 |n+1,rem=>rem.flatMap fun m=>bif rem.all (fun k=>k==m||!(bs.getD m 0).testBit k)then(gU bs n (rem.erase m)).map (m:: ·)else[]
def jW(bs:List Nat)(n:Nat):List Nat→List Nat→Bool
 |done,[]=>decide (done.length=n)
 |done,i::r=>decide (i<n)&&!done.contains i&&(List.range n).all (fun k=>!(bs.getD i 0).testBit k||done.contains k)&&jW bs n (i::done) r
def rP(bs:List Nat)(n:Nat)(pu:List Bool):List Nat→List Nat→List Nat
 |done,[]=>done++(List.range n).filter fun k=>!done.contains k
 |done,m::r=>
  let done:=done++(List.range n).filter fun k=>pu.getD k true&&(bs.getD m 0).testBit k&&!done.contains k
  rP bs n pu (done++[m]) r
def eQ(l:List an)(i:Nat):Bool:=match l[i]? with|some o=>!dS o.op|none=>false
def o7(bs:List Nat)(l:List an):List (List Nat):=
 let np:=(List.range l.length).filter (eQ l)
 (gU bs np.length np).map (rP bs l.length (l.map fun o=>dS o.op) [])
def cT(a b:an):Bool:=!((match a.dst with|some d=>(bc b).contains d||b.dst==some d|none=>false)||(match b.dst with|some d=>(bc a).contains d|none=>false))
def lM(bs:List Nat)(ops:List Oper)(l:List an)(os:List (List Nat)):Bool:=
 let n:=l.length
 let np:=(List.range n).filter (eQ l)
 (ops.zipIdx.all fun p=>p.1.after.toList.all fun e=>!Region.binds .any e||decide (e.on<p.2)) &&
 ((List.range n).all fun j=>(List.range j).all fun i=>match l[i]?,l[j]? with
   |some a,some b=>(bs.getD j 0).testBit i||cT a b
   |_,_=>false) &&
 (os.all fun o=>jW bs n [] o) &&
 ((gU bs np.length np).all fun x=>os.any fun o=>o.filter (eQ l)==x)
def ue:gC→Bool
 | .load .. | .eO _| .bZ .. | .len _| .cC .. | .fq .. =>true
 |_=>false
def tp(l:List an):List Nat:=(List.range l.length).filter fun i=>match l[i]? with|some o=>!dS o.op&&!ue o.op|none=>false
def lU(W σ:List Nat)(r:Nat):Nat:=((σ.takeWhile (fun x=>x != r)).filter W.contains).length
def jV(bs W:List Nat)(r j:Nat):Bool:=(W.take j).all (fun w=>!(bs.getD w 0).testBit r)&&(W.drop j).all (fun w=>!(bs.getD r 0).testBit w)
def lY(bs:List Nat)(l:List an):List (List Nat):=
 let W:=tp l
 let n:=l.length
 let isR:=fun r=>match l[r]? with|some o=>ue o.op|none=>false
 let at_:=fun(j r:Nat)=>max (W.filter fun w=>(bs.getD r 0).testBit w).length (min j (W.length-(W.filter fun w=>(bs.getD w 0).testBit r).length))
 ((List.range (W.length+1)).map fun j=>rP bs n (l.map fun o=>dS o.op) [] ((List.range (W.length+1)).flatMap fun t=>((List.range n).filter fun r=>isR r&&at_ j r==t)++(W[t]?).toList)).foldl (fun acc o=>bif acc.contains o then acc else acc++[o]) []
def nK(bs:List Nat)(ops:List Oper)(l:List an)(os:List (List Nat)):Bool:=
 let n:=l.length
 let W:=tp l
 (ops.zipIdx.all fun p=>p.1.after.toList.all fun e=>!Region.binds .any e||decide (e.on<p.2)) &&
 ((List.range n).all fun j=>(List.range j).all fun i=>match l[i]?,l[j]? with
   |some a,some b=>(bs.getD j 0).testBit i||cT a b
   |_,_=>false) &&
 (os.all fun o=>jW bs n [] o) &&
 ((List.range n).all fun i=>(List.range (i+1)).all fun k=>match l[k]?,l[i]? with
   |some a,some b=>(match b.dst with|some d=>!(bc a).contains d&&(k==i||!(a.dst==some d))|none=>true)
   |_,_=>false) &&
 (W.all fun w=>W.all fun w'=>!decide (w<w')||(bs.getD w' 0).testBit w) &&
 !os.isEmpty &&
 ((List.range n).all fun r=>match l[r]? with
   |some o=>!ue o.op||(List.range (W.length+1)).all fun j=>!jV bs W r j||os.any fun σ=>lU W σ r==j
   |none=>true)
def sB(P:Program)(cg:qm)(f:FuncId)(nt:Nat)(ops:Array Oper):Option bA:=match a7 (ops.toList.map (eE P cg f nt ops))with
 |none=>none
 |some l=>bif nK (aY ops.toList) ops.toList l (lY (aY ops.toList) l)then some (.perm l (lY (aY ops.toList) l))else
   bif lM (aY ops.toList) ops.toList l (o7 (aY ops.toList) l)then some (.perm l (o7 (aY ops.toList) l))else none
def oV(P:Program)(cg:qm)(f:FuncId)(nt:Nat)(ops:Array Oper)(draw:Bool):Option bA:=match a7 (ops.toList.map (eE P cg f nt ops))with
 |none=>none
 |some l=>bif draw then(ob cg f ops.toList l).map .drawn else some (.ops l)
def cO:Code→Option Nat
 | .region id _ _=>some id
 | .seq a b=>(cO a).orElse fun _=>cO b
 | .cond _ a b=>(cO a).orElse fun _=>cO b
 | .block _ a=>cO a
 | .loop a=>cO a
 | .rangeFunc _ _ a b=>(cO a).orElse fun _=>cO b
 | .scope a=>cO a
 |_=>none
def jS(c:bA):List Nat→bA
 |[]=>c
 |t::r=>.seq (.freeze t) (jS c r)
def sI(c:bA):List (Nat×Nat)→bA
 |[]=>c
 |vs=>.seq c (.aU vs)
def ot(P:Program)(nt:Nat):Code→Option (Array Oper×List Oper×Nat×Bool×bj)
 | .region _ ops false=>match ops.toList.getLast? with
   |some o=>match o.dst,o.guard,o.op with
    |some d,none,.binOp op t x y _=>match aR x,P.underlying t with
     |some x',some (.slice el)=>match mw op (.slice el) y x' with
      |some (.isNil _ neg x2)=>bif decide (d<nt)then some (ops,ops.toList.dropLast,d,neg,x2)else none
      |_=>none
     |_,_=>none
    |_,_,_=>none
   |none=>none
 |_=>none
def cD(P:Program)(cg:qm)(f:FuncId)(nt:Nat):Code→Option bA
 | .skip=>some .skip
 | .region id ops draw=>(bif draw&&cg.Bg f id then sB P cg f nt ops else oV P cg f nt ops draw).map fun c=>sI (jS c (cg.cR f id)) (cg.Bb f id)
 | .seq a b=>match ot P nt a with
   |some (ops,l,d,neg,x)=>match a7 (l.map (eE P cg f nt ops)),cD P cg f nt b with
    |some l,some b=>some (.seq (.ops l) (.tm d neg x b))
    |_,_=>none
   |none=>match cD P cg f nt a,cD P cg f nt b with
    |some a,some b=>some (.seq a b)
    |_,_=>none
 | .cond c a b=>match aR c,cD P cg f nt a,cD P cg f nt b with
   |some c,some a,some b=>some (.cond c a b)
   |_,_,_=>none
 | .block id a=>(cD P cg f nt a).map (.block id)
 | .loop a=>(cD P cg f nt a).map (.loop (cg.loop f ((cO a).getD 0)))
 | .rangeFunc g ps a b=>match aR g,cD P cg f nt a,cD P cg f nt b with
   |some g,some a,some b=>bif ps.toList.any (fun d=>decide (nt≤d))then none else some (.kC g ps.toList a b)
   |_,_,_=>none
 | .exit id=>some (.exit id)
 | .ret=>some .ret
 | .label _=>some .skip
 | .scope a=>cD P cg f nt a
 |_=>none
def pZ(P:Program):ResultVar→Option m6
 | .tmp t=>some (.tmp t)
 | .cell a t=>match fh P t,dC P t with
   |some ag,some n=>some (.cell a ag n)
   |_,_=>none
def mW(P:Program)(cg:qm)(f:FuncId):Option bp:=match cg.ext f with
 |some k=>some ⟨[.tmp 0],.ext k,false⟩
 |none=>match P.funcs[f]? with
 |none=>none
 |some fn=>match fn.body with
  |none=>none
  |some b=>bif fn.name== "runtime.NumGoroutine" then none else match cD P cg f fn.ntmps b,a7 (fn.results.toList.map (pZ P))with
   |some b,some rs=>some ⟨rs,b,(cg.keep f).isSome⟩
   |_,_=>none
end
structure Loc where
 bu:Nat
 base:Nat
 cap:Nat
 a8:Nat
 bB:Nat
 aU:Bool
 arr:Bool
abbrev Map:=Nat→Option Loc
abbrev cd:Map:=fun _=>none
def fJ:Value→Bool
 | .agg _=>false
 | .tuple _=>false
 |_=>true
def jw:SV→Option Value
 | .bool b=>some (.bool b)
 | .int k n=>some (.int k n)
 | .str s=>some (.string s)
 |_=>none
inductive VR(w:World)(F:Nat→Prop):Map→SV→Value→Prop
 |undef {ρ:Map} (v:Value):VR w F ρ .undef v
 |fa {ρ:Map}:VR w F ρ .fa undef
 |bool {ρ:Map} (b:Bool):VR w F ρ (.bool b) (.bool b)
 |int {ρ:Map} (k:IntKind) (n:Int):VR w F ρ (.int k n) (.int k n)
 |str {ρ:Map} (s:ByteArray):VR w F ρ (.str s) (.string s)
 |dU {ρ:Map}:VR w F ρ .dU (.pointer none)
 |ptr {ρ:Map} {b bB i o:Nat} {l:Loc} {v:Value} (h:ρ b=some l) (hv:bB≤l.bB) (hc:fJ v=true)
   (ha:bB=l.bB→l.aU=false∧v=.pointer (some ⟨l.bu,l.base+i*l.a8+o,none⟩)):VR w F ρ (.ptr b bB i o) v
 |dy {ρ:Map} {cs:List SV} {B o:Nat} (V:Nat→Value) (hF:F B) (hc:∀j c,cs[j]?=some c→w.cell? ⟨B,o+j,none⟩=some (V j))
   (h1:∀(j:Nat) (c:SV),cs[j]?=some c→c.gD=true) (hv:∀j c,cs[j]?=some c→VR w F cd c (V j)):VR w F ρ (.dy cs) (.pointer (some ⟨B,o,none⟩))
 |aP {ρ:Map} {z:Nat} {L:List (List SV)} {full:Bool} {a:Option Addr} {cap:Nat} (V:Nat→Nat→Value) (hcap:L.length≤cap) (hfull:full=true→cap=L.length)
   (hz:∀(i:Nat) cs,L[i]?=some cs→cs.length=z)
   (hat:L=[]∨∃B o,a=some ⟨B,o,none⟩∧F B∧∀(i j:Nat) cs c,L[i]?=some cs→cs[j]?=some c→w.cell? ⟨B,o+i*z+j,none⟩=some (V i j))
   (h1:∀(i j:Nat) cs (c:SV),L[i]?=some cs→cs[j]?=some c→c.gD=true)
   (hv:∀(i j:Nat) cs c,L[i]?=some cs→cs[j]?=some c→VR w F cd c (V i j)):VR w F ρ (.aP z L full) (.slice a L.length cap)
 |bt {ρ:Map} {b bB off n:Nat} {l:Loc} {v:Value} (h:ρ b=some l) (hv:bB≤l.bB) (hc:fJ v=true)
   (ha:bB=l.bB→(l.aU=true→∃a,v=.slice a 0 0∧off=0∧n=0)∧
    (l.aU=false→off+n≤l.cap∧∃a,v=.slice a n (l.cap-off)∧(off<l.cap→a=some ⟨l.bu,l.base+off*l.a8,none⟩))):VR w F ρ (.bt b bB off n) v
 |agg {ρ:Map} {cs:List SV} {vs:Array Value} (hn:cs.length=vs.size) (h1:∀(j:Nat) (c:SV),cs[j]?=some c→c.gD=true)
   (hv:∀(j:Nat) c v,cs[j]?=some c→vs[j]?=some v→VR w F ρ c v):VR w F ρ (.agg cs) (.agg vs)
 |cG {ρ:Map} {cs:List SV} {vs:Array Value} (hn:cs.length=vs.size)
   (hv:∀(j:Nat) c v,cs[j]?=some c→vs[j]?=some v→VR w F ρ c v):VR w F ρ (.cG cs) (.tuple vs)
 |fn {ρ:Map} {f:FuncId} {cs:List SV} {vs:Array Value} (hn:cs.length=vs.size)
   (hv:∀(j:Nat) c v,cs[j]?=some c→vs[j]?=some v→VR w F ρ c v):VR w F ρ (.fn f cs) (.func (.func f) #[] vs)
 |mf {ρ:Map} {f:FuncId} {cs:List SV} {vs:Array Value} (hn:cs.length=vs.size)
   (hv:∀(j:Nat) c v,cs[j]?=some c→vs[j]?=some v→VR w F ρ c v):VR w F ρ (.mf f cs) (.func (.func f) vs #[])
 |eL {ρ:Map}:VR w F ρ .eL .nilFunc
 |jf {ρ:Map} {b:Nat} {l:Loc} (h:ρ b=some l) (ha:l.arr=false):VR w F ρ (.jf b) (.func (.yield l.bu) #[] #[])
 |mp {ρ:Map} {b:Nat} {l:Loc} (h:ρ b=some l) (ha:l.arr=false):VR w F ρ (.mp b) (.map (some l.bu))
theorem VR.one{w:World}{F:Nat→Prop}{ρ:Map}{c:SV}{v:Value}(h:VR w F ρ c v)(h1:c.gD=true):fJ v=true:=by
 cases h<;>first|rfl|assumption|(simp[SV.gD]at h1)
def Map.le(ρ ρ':Map):Prop:=∀b l,ρ b=some l→∃l',ρ' b=some l'∧(l'=l∨(l.arr=true∧l.bB<l'.bB))
theorem Map.le_refl(ρ:Map):ρ.le ρ:=fun _ l h=>⟨l,h,.inl rfl⟩
theorem Map.le_trans{a b c:Map}(h:a.le b)(h':b.le c):a.le c:=fun x l hl=>by
 obtain⟨l1,h1,e1⟩:=h x l hl
 obtain⟨l2,h2,e2⟩:=h' x l1 h1
 refine⟨l2,h2,?_⟩
 rcases e1 with rfl|⟨a1,v1⟩
 ·exact e2
 ·rcases e2 with rfl|⟨_,v2⟩
  ·exact .inr ⟨a1,v1⟩
  ·exact .inr ⟨a1,by omega⟩
theorem fT(ρ:Map):cd.le ρ:=fun _ _ h=>by cases h
def b9(F:Nat→Prop)(w w':World):Prop:=∀B,F B→w'.heap[B]?=w.heap[B]?
theorem b9.cell{F:Nat→Prop}{w w':World}(h:b9 F w w'){B o:Nat}(hB:F B):w'.cell? ⟨B,o,none⟩=w.cell? ⟨B,o,none⟩:=by
 simp only[World.cell?,h B hB]
theorem VR.mono{w w':World}{F F':Nat→Prop}(hk:b9 F w w')(hF:∀B,F B→F' B){ρ:Map}{c:SV}{v:Value}
 (h:VR w F ρ c v):∀{ρ':Map},ρ.le ρ'→VR w' F' ρ' c v:=by
 induction h with
 |undef v=>exact fun _=>.undef v
 |fa=>exact fun _=>.fa
 |bool b=>exact fun _=>.bool b
 |int k n=>exact fun _=>.int k n
 |str s=>exact fun _=>.str s
 |dU=>exact fun _=>.dU
 |eL=>exact fun _=>.eL
 |ptr h hv hc ha=>
  intro ρ' hle
  obtain⟨l',h',e⟩:=hle _ _ h
  rcases e with rfl|⟨_,hlt⟩
  ·exact .ptr h' hv hc ha
  ·exact .ptr h' (by omega) hc (fun e=>by omega)
 |bt h hv hc ha=>
  intro ρ' hle
  obtain⟨l',h',e⟩:=hle _ _ h
  rcases e with rfl|⟨_,hlt⟩
  ·exact .bt h' hv hc ha
  ·exact .bt h' (by omega) hc (fun e=>by omega)
 |jf h ha=>
  intro ρ' hle
  obtain⟨l',h',e⟩:=hle _ _ h
  rcases e with rfl|⟨ht,_⟩
  ·exact .jf h' ha
  ·rw[ha]at ht;cases ht
 |mp h ha=>
  intro ρ' hle
  obtain⟨l',h',e⟩:=hle _ _ h
  rcases e with rfl|⟨ht,_⟩
  ·exact .mp h' ha
  ·rw[ha]at ht;cases ht
 |dy V hB hc h1 hv ih=>
  intro ρ' _
  exact .dy V (hF _ hB) (fun j c hj=>by rw[hk.cell hB];exact hc j c hj) h1 (fun j c hj=>ih j c hj (fT _))
 |aP V hcap hfull hz hat h1 hv ih=>
  intro ρ' _
  refine .aP V hcap hfull hz ?_ h1 (fun i j cs c hi hj=>ih i j cs c hi hj (fT _))
  rcases hat with h0|⟨B,o,ha,hB,hc⟩
  ·exact .inl h0
  ·exact .inr ⟨B,o,ha,hF _ hB,fun i j cs c hi hj=>by rw[hk.cell hB];exact hc i j cs c hi hj⟩
 |agg hn h1 hv ih=>
  intro ρ' hle
  exact .agg hn h1 (fun j c v hj hv=>ih j c v hj hv hle)
 |cG hn hv ih=>
  intro ρ' hle
  exact .cG hn (fun j c v hj hv=>ih j c v hj hv hle)
 |fn hn hv ih=>
  intro ρ' hle
  exact .fn hn (fun j c v hj hv=>ih j c v hj hv hle)
 |mf hn hv ih=>
  intro ρ' hle
  exact .mf hn (fun j c v hj hv=>ih j c v hj hv hle)
def Map.cut(ρ:Map)(N:Nat):Map:=fun b=>if b<N then ρ b else none
theorem Map.lN(ρ:Map)(N:Nat):(ρ.cut N).le ρ:=fun b l h=>by
 unfold Map.cut at h
 split at h
 ·exact⟨l,h,.inl rfl⟩
 ·cases h
theorem cM{cs:List SV}{N:Nat}(h:SV.refs.aK cs≤N):∀(j:Nat) c,cs[j]?=some c→c.refs≤N:=by
 induction cs with
 |nil=>intro j c hj;simp at hj
 |cons x r ih=>
  intro j c hj
  simp only[SV.refs.aK]at h
  cases j with
  |zero=>simp at hj;subst hj;omega
  |succ j=>simp at hj;exact ih (by omega) j c hj
theorem VR.cut{w:World}{F:Nat→Prop}{ρ:Map}{c:SV}{v:Value}(h:VR w F ρ c v):∀N,c.refs≤N→VR w F (ρ.cut N) c v:=by
 have at':∀{ρ:Map} {b N:Nat} {l:Loc},ρ b=some l→b+1≤N→ρ.cut N b=some l:=fun h hb=>by
  unfold Map.cut;rw[if_pos (by omega)];exact h
 induction h with
 |undef v=>exact fun _ _=>.undef v
 |fa=>exact fun _ _=>.fa
 |bool b=>exact fun _ _=>.bool b
 |int k n=>exact fun _ _=>.int k n
 |str s=>exact fun _ _=>.str s
 |dU=>exact fun _ _=>.dU
 |eL=>exact fun _ _=>.eL
 |ptr h hv hc ha=>exact fun N hN=>.ptr (at' h hN) hv hc ha
 |bt h hv hc ha=>exact fun N hN=>.bt (at' h hN) hv hc ha
 |jf h ha=>exact fun N hN=>.jf (at' h hN) ha
 |mp h ha=>exact fun N hN=>.mp (at' h hN) ha
 |dy V hB hc h1 hv ih=>exact fun N _=>.dy V hB hc h1 hv
 |aP V hcap hfull hz hat h1 hv ih=>exact fun N _=>.aP V hcap hfull hz hat h1 hv
 |agg hn h1 hv ih=>exact fun N hN=>.agg hn h1 (fun j c v hj hv=>ih j c v hj hv N (cM hN j c hj))
 |cG hn hv ih=>exact fun N hN=>.cG hn (fun j c v hj hv=>ih j c v hj hv N (cM hN j c hj))
 |fn hn hv ih=>exact fun N hN=>.fn hn (fun j c v hj hv=>ih j c v hj hv N (cM hN j c hj))
 |mf hn hv ih=>exact fun N hN=>.mf hn (fun j c v hj hv=>ih j c v hj hv N (cM hN j c hj))
def iD:jQ→Option Code
 | .normal=>none
 | .exit id=>some (.exit id)
 | .ret=>some .ret
def ER(w:World)(F:Nat→Prop)(ρ:Map)(e:Env)(tmps:Array Value):Prop:=∀t,VR w F ρ (get e t) (tmps.getD t undef)
structure Ctx where
 P:Program
 cg:qm
def fZ(fz:Nat×Nat)(n:Nat):Prop:=∀o,o<n→(decide (fz.1≤o)&&decide (o<fz.2))=false
def aT(w:World)(F:Nat→Prop)(ρ:Map)(vs:Array Value)(at_:Nat)(cs:List SV):Prop:=
 ∀(j:Nat) c,cs[j]?=some c→∃v,vs[at_+j]?=some v∧VR w F ρ c v∧c.gD=true
def hO(w:World)(F:Nat→Prop)(ρ:Map):List MapEntry→List (SV×SV)→Prop
 |[],[]=>True
 |e::en,(k,v)::es=>jw k=some e.key∧v.gD=true∧VR w F ρ v e.val∧hO w F ρ en es
 |_,_=>False
def BR(C:Ctx)(w:World)(F:Nat→Prop)(ρ:Map)(l:Loc):bb→Prop
 | .dead=>True
 | .box cs=>l.aU=false∧l.arr=false∧l.base=0∧l.bB=0∧l.a8=cs.length∧∃vs ty fz,w.heap[l.bu]?=some (.cells vs ty fz)∧fZ fz vs.size∧vs.size=cs.length∧aT w F ρ vs 0 cs
 | .arr bB z L exact=>l.arr=true∧l.bB=bB∧l.a8=z∧(∀(i:Nat) cs,L[i]?=some cs→cs.length=z)∧L.length≤l.cap∧(exact=true→l.cap=L.length)∧
    (l.aU=true→l.cap=0)∧
    (l.aU=false→∃vs ty fz,w.heap[l.bu]?=some (.cells vs ty fz)∧fZ fz vs.size∧l.base+l.cap*z≤vs.size∧
      ∀(i:Nat) cs,L[i]?=some cs→aT w F ρ vs (l.base+i*z) cs)
 | .loop r st pend=>l.aU=false∧l.arr=false∧∃q:Loop,w.heap[l.bu]?=some (.loop q)∧q.state=st∧q.pending=iD pend∧q.params.toList=r.ps∧
    (∃g nt,nt≤q.tmps.size∧(∀t∈r.ps,t<nt)∧cD C.P C.cg g nt q.assign=some r.assign∧cD C.P C.cg g nt q.body=some r.body)∧ER w F ρ r.env q.tmps
 | .map es=>l.aU=false∧l.arr=false∧∃(en:Array MapEntry) (cl:Nat),w.heap[l.bu]?=some (.map en cl)∧hO w F ρ en.toList es
section
def bb.live:bb→Bool
 | .dead=>false
 |_=>true
def Own(ρ:Map)(H:ab)(b:Nat)(l:Loc):Prop:=(∃x,H.bl[b]?=some x∧x.live=true)∧ρ b=some l∧l.aU=false
structure HR(C:Ctx)(ρ:Map)(F:Nat→Prop)(H:ab)(w:World):Prop where
 fC:∀b l,ρ b=some l→b<H.bl.length
 live:∀(b:Nat) x,H.bl[b]?=some x→x.live=true→∃l,ρ b=some l∧BR C w F ρ l x
 apart:∀b b' l l',Own ρ H b l→Own ρ H b' l'→l.bu=l'.bu→b=b'
 own:∀b l,Own ρ H b l→¬F l.bu∧l.bu<w.heap.size
 eB:∀B,F B→B<w.heap.size
def Clean(N:Nat)(es:List (Nat×Nat)):Prop:=∀p∈es,¬(p.1<N∧N<p.2)
def sg(C:Ctx)(N:Nat)(ρ:Map)(F:Nat→Prop)(H:ab)(w:World):Prop:=∀b x l,b<N→H.bl[b]?=some x→x.live=true→ρ b=some l→BR C w F (ρ.cut N) l x
structure Ext0(C:Ctx)(ρ:Map)(F:Nat→Prop)(H:ab)(w:World)(ρ':Map)(F':Nat→Prop)(H':ab)(w':World):Prop where
 map:∀b l,ρ b=some l→∃l',ρ' b=some l'∧(l'=l∨(H.ro≤b∧l.arr=true∧l.bB<l'.bB))
 eB:∀B,F B→F' B
 new:∀B,F' B→F B∨w.heap.size≤B∨∃b l,Own ρ H b l∧H.ro≤b∧l.bu=B
 frame:∀B,B<w.heap.size→(∀b l,Own ρ H b l→H.ro≤b→l.bu≠B)→w'.heap[B]?=w.heap[B]?
 size:w.heap.size≤w'.heap.size
 old:∀b l',Own ρ' H' b l'→w.heap.size≤l'.bu∨∃l,Own ρ H b l∧l.bu=l'.bu
 ro:H'.ro=H.ro
 br:∀p∈H.br,p∈H'.br
 inv:∀N,N≤H'.bl.length→Clean N H'.br→(N≤H.bl.length→sg C N ρ F H w)→sg C N ρ' F' H' w'
 lp:∀(B:Nat) (q:Loop),w.heap[B]?=some (.loop q)→∃q':Loop,w'.heap[B]?=some (.loop q')
 ln:H.bl.length≤H'.bl.length
 out:w'.os=w.os∧w'.output=w.output
structure Ext(C:Ctx)(ρ:Map)(F:Nat→Prop)(H:ab)(w:World)(ρ':Map)(F':Nat→Prop)(H':ab)(w':World):Prop extends Ext0 C ρ F H w ρ' F' H' w' where
 nd:∀b l',ρ' b=some l'→(∃l,ρ b=some l)∨H.bl.length≤b
section
variable{C:Ctx}{ρ ρ' ρ'':Map}{F F' F'':Nat→Prop}{H H' H'':ab}{w w' w'':World}
theorem Ext.refl(ρ:Map)(F:Nat→Prop)(H:ab)(w:World):Ext C ρ F H w ρ F H w:=
 ⟨⟨fun _ l h=>⟨l,h,.inl rfl⟩,fun _ h=>h,fun _ h=>.inl h,fun _ _ _=>rfl,De _,fun _ l h=>.inr ⟨l,h,rfl⟩,rfl,fun _ h=>h,fun N hN _ h=>h hN,fun _ q h=>⟨q,h⟩,De _,⟨rfl,rfl⟩⟩,fun _ l h=>.inl ⟨l,h⟩⟩
theorem Ext0.trans(h:Ext0 C ρ F H w ρ' F' H' w')(h':Ext0 C ρ' F' H' w' ρ'' F'' H'' w''):Ext0 C ρ F H w ρ'' F'' H'' w'' where
 map:=fun b l hl=>by
  obtain⟨l1,h1,e1⟩:=h.map b l hl
  obtain⟨l2,h2,e2⟩:=h'.map b l1 h1
  refine⟨l2,h2,?_⟩
  rcases e1 with rfl|⟨r1,a1,v1⟩
  ·rcases e2 with rfl|⟨r2,a2,v2⟩
   ·exact .inl rfl
   ·exact .inr ⟨h.ro▸r2,a2,v2⟩
  ·rcases e2 with rfl|⟨_,_,v2⟩
   ·exact .inr ⟨r1,a1,v1⟩
   ·exact .inr ⟨r1,a1,by omega⟩
 eB:=fun B hB=>h'.eB B (h.eB B hB)
 new:=fun B hB=>by
  rcases h'.new B hB with h1|h1|⟨b,l,ho,hr,rfl⟩
  ·exact h.new B h1
  ·exact .inr (.inl (D3 h.size h1))
  ·rcases h.old b l ho with h2|⟨l0,h2,e2⟩
   ·exact .inr (.inl h2)
   ·exact .inr (.inr ⟨b,l0,h2,h.ro▸hr,e2⟩)
 frame:=fun B hB hno=>by
  rw[h'.frame B (DX hB h.size) (fun b l ho hr e=>?_),h.frame B hB hno]
  rcases h.old b l ho with h2|⟨l0,h2,e2⟩
  ·omega
  ·exact hno b l0 h2 (h.ro▸hr) (e2.trans e)
 size:=D3 h.size h'.size
 old:=fun b l ho=>by
  rcases h'.old b l ho with h1|⟨l1,h1,e1⟩
  ·exact .inl (D3 h.size h1)
  ·rcases h.old b l1 h1 with h2|⟨l0,h2,e2⟩
   ·exact .inl (e1▸h2)
   ·exact .inr ⟨l0,h2,e2.trans e1⟩
 ro:=h'.ro.trans h.ro
 br:=fun p hp=>h'.br p (h.br p hp)
 inv:=fun N hN hc h0=>h'.inv N hN hc (fun hN'=>h.inv N hN' (fun p hp=>hc p (h'.br p hp)) h0)
 lp:=fun B q hq=>let⟨q1,h1⟩:=h.lp B q hq;h'.lp B q1 h1
 ln:=D3 h.ln h'.ln
 out:=⟨h'.out.1.trans h.out.1,h'.out.2.trans h.out.2⟩
theorem Ext.trans(h:Ext C ρ F H w ρ' F' H' w')(h':Ext C ρ' F' H' w' ρ'' F'' H'' w''):Ext C ρ F H w ρ'' F'' H'' w'':=
 ⟨h.toExt0.trans h'.toExt0,fun b l hl=>by
   rcases h'.nd b l hl with⟨l1,h1⟩|h1
   ·exact h.nd b l1 h1
   ·exact .inr (D3 h.ln h1)⟩
theorem Ext0.le(h:Ext0 C ρ F H w ρ' F' H' w'):ρ.le ρ':=fun b l hl=>by
 obtain⟨l',h1,e⟩:=h.map b l hl
 exact⟨l',h1,e.imp id (fun⟨_,a,v⟩=>⟨a,v⟩)⟩
theorem Ext0.keeps(h:Ext0 C ρ F H w ρ' F' H' w')(hr:HR C ρ F H w):b9 F w w':=fun B hB=>
 h.frame B (hr.eB B hB) (fun b l ho _ e=>(hr.own b l ho).1 (e▸hB))
theorem Ext0.vr(h:Ext0 C ρ F H w ρ' F' H' w')(hr:HR C ρ F H w){c:SV}{v:Value}(hv:VR w F ρ c v):VR w' F' ρ' c v:=
 hv.mono (h.keeps hr) h.eB h.le
theorem Ext0.er(h:Ext0 C ρ F H w ρ' F' H' w')(hr:HR C ρ F H w){e:Env}{t:Array Value}(hv:ER w F ρ e t):ER w' F' ρ' e t:=
 fun i=>h.vr hr (hv i)
theorem aT.mono(hk:b9 F w w')(hF:∀B,F B→F' B)(hle:ρ.le ρ'){vs:Array Value}{n:Nat}{cs:List SV}(h:aT w F ρ vs n cs):aT w' F' ρ' vs n cs:=
 fun j c hj=>let⟨v,hv,hr,h1⟩:=h j c hj;⟨v,hv,hr.mono hk hF hle,h1⟩
theorem hO.mono(hk:b9 F w w')(hF:∀B,F B→F' B)(hle:ρ.le ρ'):∀{en:List MapEntry} {es:List (SV×SV)},hO w F ρ en es→hO w' F' ρ' en es
 |[],[],_=>trivial
 |_::_,(_,_)::_,⟨h1,h2,h3,h4⟩=>⟨h1,h2,h3.mono hk hF hle,hO.mono hk hF hle h4⟩
 |[],_::_,h=>h.elim
 |_::_,[],h=>h.elim
theorem BR.mono(hk:b9 F w w')(hF:∀B,F B→F' B)(hle:ρ.le ρ'){l:Loc}{x:bb}(hb:l.aU=false→w'.heap[l.bu]?=w.heap[l.bu]?)
 (h:BR C w F ρ l x):BR C w' F' ρ' l x:=by
 cases x with
 |dead=>trivial
 |box cs=>
  obtain⟨h1,h2,h3,h4,h5,vs,ty,fz,h6,h7,h8,h9⟩:=h
  exact⟨h1,h2,h3,h4,h5,vs,ty,fz,(hb h1).trans h6,h7,h8,h9.mono hk hF hle⟩
 |arr bB z L exact'=>
  obtain⟨h1,h2,h3,h4,h5,h6,h7,h8⟩:=h
  refine⟨h1,h2,h3,h4,h5,h6,h7,fun hv=>?_⟩
  obtain⟨vs,ty,fz,a,b,c,d⟩:=h8 hv
  exact⟨vs,ty,fz,(hb hv).trans a,b,c,fun i cs hi=>(d i cs hi).mono hk hF hle⟩
 |loop r st pend=>
  obtain⟨h1,h2,q,h3,h4,h5,h6,h7,h8⟩:=h
  exact⟨h1,h2,q,(hb h1).trans h3,h4,h5,h6,h7,fun t=>(h8 t).mono hk hF hle⟩
 |map es=>
  obtain⟨h1,h2,en,cl,h3,h4⟩:=h
  exact⟨h1,h2,en,cl,(hb h1).trans h3,h4.mono hk hF hle⟩
theorem HR.same(hr:HR C ρ F H w)(hs:w.heap.size≤w'.heap.size)(hh:∀B,B<w.heap.size→w'.heap[B]?=w.heap[B]?)(hout:w'.os=w.os∧w'.output=w.output:=by exact⟨rfl,rfl⟩):HR C ρ F H w'∧Ext C ρ F H w ρ F H w':=by
 have hk:b9 F w w':=fun B hB=>hh B (hr.eB B hB)
 refine⟨⟨hr.fC,fun b x hb hx=>?_,hr.apart,fun b l ho=>⟨(hr.own b l ho).1,DX (hr.own b l ho).2 hs⟩,fun B hB=>DX (hr.eB B hB) hs⟩,?_⟩
 ·obtain⟨l,hl,hbr⟩:=hr.live b x hb hx
  exact⟨l,hl,hbr.mono hk (fun _ h=>h) (Map.le_refl _) (fun hv=>hh _ (hr.own b l ⟨⟨x,hb,hx⟩,hl,hv⟩).2)⟩
 ·refine⟨⟨fun _ l h=>⟨l,h,.inl rfl⟩,fun _ h=>h,fun _ h=>.inl h,fun B hB _=>hh B hB,hs,fun _ l h=>.inr ⟨l,h,rfl⟩,rfl,fun _ h=>h,fun N hN _ h0 b x l hb hx hxl hl=>?_,fun B q hq=>⟨q,(hh B (Dh.1 hq).1).trans hq⟩,De _,hout⟩,fun _ l h=>.inl ⟨l,h⟩⟩
  exact(h0 hN b x l hb hx hxl hl).mono hk (fun _ h=>h) (Map.le_refl _) (fun hv=>hh _ (hr.own b l ⟨⟨x,hx,hxl⟩,hl,hv⟩).2)
def Map.put(ρ:Map)(b:Nat)(l:Loc):Map:=fun b'=>if b'=b then some l else ρ b'
theorem Map.aS(ρ:Map)(b:Nat)(l:Loc):ρ.put b l b=some l:=by simp[Map.put]
theorem Map.aM(ρ:Map){b b':Nat}(l:Loc)(h:b'≠b):ρ.put b l b'=ρ b':=by simp[Map.put,h]
theorem HR.push(hr:HR C ρ F H w)(hs:w.heap.size≤w'.heap.size)(hh:∀B,B<w.heap.size→w'.heap[B]?=w.heap[B]?)
 (x:bb) (l:Loc) (hl:l.aU=false→w.heap.size≤l.bu∧l.bu<w'.heap.size) (hx:BR C w' F (ρ.put H.bl.length l) l x) (hout:w'.os=w.os∧w'.output=w.output:=by exact⟨rfl,rfl⟩) :
 HR C (ρ.put H.bl.length l) F (aZ H x) w'∧Ext C ρ F H w (ρ.put H.bl.length l) F (aZ H x) w':=by
 have hne:∀b l',ρ b=some l'→b≠H.bl.length:=fun b l' h=>Ex (hr.fC b l' h)
 have hle:ρ.le (ρ.put H.bl.length l):=fun b l' h=>⟨l',by rw[Map.aM _ _ (hne b l' h)];exact h,.inl rfl⟩
 have hk:b9 F w w':=fun B hB=>hh B (hr.eB B hB)
 have hown:∀b l',Own (ρ.put H.bl.length l) (aZ H x) b l'→(b=H.bl.length∧l'=l)∨Own ρ H b l':=by
  intro b l' ⟨⟨y,hy,hyl⟩,hm,hv⟩
  by_cases hb:b=H.bl.length
  ·subst hb
   rw[Map.aS]at hm
   exact .inl ⟨rfl,by cases hm;rfl⟩
  ·rw[Map.aM _ _ hb]at hm
   refine .inr ⟨⟨y,?_,hyl⟩,hm,hv⟩
   have hlt:=hr.fC b l' hm
   simpa[aZ,Dy hlt]using hy
 refine⟨⟨fun b l' h=>?_,fun b y hb hy=>?_,fun b b' l1 l2 h1 h2 he=>?_,fun b l' ho=>?_,fun B hB=>DX (hr.eB B hB) hs⟩,?_⟩
 ·by_cases hb:b=H.bl.length
  ·subst hb;simp[aZ]
  ·rw[Map.aM _ _ hb]at h
   have:=hr.fC b l' h
   simp[aZ];omega
 ·by_cases hb':b=H.bl.length
  ·subst hb'
   simp[aZ]at hb
   subst hb
   exact⟨l,Map.aS _ _ _,hx⟩
  ·have hlt:b<H.bl.length:=by
    have:=(C7.1 hb).1
    simp[aZ]at this;omega
   rw[aZ,Dy hlt]at hb
   obtain⟨l',hl',hbr⟩:=hr.live b y hb hy
   exact⟨l',by rw[Map.aM _ _ hb'];exact hl',hbr.mono hk (fun _ h=>h) hle (fun hv=>hh _ (hr.own b l' ⟨⟨y,hb,hy⟩,hl',hv⟩).2)⟩
 ·rcases hown b l1 h1 with⟨e1,f1⟩|o1<;>rcases hown b' l2 h2 with⟨e2,f2⟩|o2
  ·rw[e1,e2]
  ·subst f1
   have:=(hr.own b' l2 o2).2
   have:=(hl h1.2.2).1
   omega
  ·subst f2
   have:=(hr.own b l1 o1).2
   have:=(hl h2.2.2).1
   omega
  ·exact hr.apart b b' l1 l2 o1 o2 he
 ·rcases hown b l' ho with⟨_,f1⟩|o1
  ·subst f1
   have h1:=hl ho.2.2
   exact⟨fun hF=>by have:=hr.eB _ hF;omega,h1.2⟩
  ·have h1:=hr.own b l' o1
   exact⟨h1.1,DX h1.2 hs⟩
 ·refine⟨⟨fun b l' h=>⟨l',by rw[Map.aM _ _ (hne b l' h)];exact h,.inl rfl⟩,fun _ h=>h,fun _ h=>.inl h,fun B hB _=>hh B hB,hs,fun b l' ho=>?_,rfl,fun _ h=>h,fun N hN _ h0 b y l' hb hy hyl hm=>?_,fun B q hq=>⟨q,(hh B (Dh.1 hq).1).trans hq⟩,by simp[aZ],hout⟩,fun b l' h=>?_⟩
  ·rcases hown b l' ho with⟨_,f1⟩|o1
   ·subst f1;exact .inl (hl ho.2.2).1
   ·exact .inr ⟨l',o1,rfl⟩
  ·have hN':N≤H.bl.length+1:=by simpa[aZ]using hN
   by_cases hb':b=H.bl.length
   ·subst hb'
    rw[Map.aS]at hm;cases hm
    simp[aZ]at hy
    subst hy
    refine hx.mono (fun _ _=>rfl) (fun _ h=>h) (fun b1 l1 h1=>⟨l1,?_,.inl rfl⟩) (fun _=>rfl)
    have:b1<N:=by
     by_cases e:b1=H.bl.length
     ·omega
     ·rw[Map.aM _ _ e]at h1
      have:=hr.fC b1 l1 h1
      omega
    simp[Map.cut,this,h1]
   ·have hlt:b<H.bl.length:=by omega
    rw[Map.aM _ _ hb']at hm
    rw[aZ,Dy hlt]at hy
    have hsm:=fun hv=>hh l'.bu (hr.own b l' ⟨⟨y,hy,hyl⟩,hm,hv⟩).2
    by_cases hNl:N≤H.bl.length
    ·refine(h0 hNl b y l' hb hy hyl hm).mono hk (fun _ h=>h) (fun b1 l1 h1=>⟨l1,?_,.inl rfl⟩) hsm
     unfold Map.cut at h1⊢
     split at h1
     ·rename_i h2;rw[if_pos h2,Map.aM _ _ (by omega)];exact h1
     ·cases h1
    ·obtain⟨l2,h2,hbr⟩:=hr.live b y hy hyl
     rw[hm]at h2;cases h2
     refine hbr.mono hk (fun _ h=>h) (fun b1 l1 h1=>⟨l1,?_,.inl rfl⟩) hsm
     have:=hr.fC b1 l1 h1
     unfold Map.cut
     rw[if_pos (by omega),Map.aM _ _ (by omega)];exact h1
  ·by_cases hb':b=H.bl.length
   ·exact .inr (by omega)
   ·rw[Map.aM _ _ hb']at h;exact .inl ⟨l',h⟩
theorem HR.set(hr:HR C ρ F H w){b:Nat}{x y:bb}{l l':Loc}{refs:Nat}(hH:bF H b y refs=some H')(hb:H.bl[b]?=some x)(hx:x.live=true)(hl:ρ b=some l)
 (hs:w.heap.size≤w'.heap.size) (hh:∀B,B<w.heap.size→(l.aU=false→B≠l.bu)→w'.heap[B]?=w.heap[B]?)
 (hl':l'.aU=false→(l.aU=false∧l'.bu=l.bu)∨(w.heap.size≤l'.bu∧l'.bu<w'.heap.size))
 (hver:l'=l∨(l.arr=true∧l.bB<l'.bB))
 (hy:y.live=true→BR C w' F (ρ.put b l') l' y) (hcut:y.live=true→∀N,refs≤N→b<N→BR C w F (ρ.cut N) l x→BR C w' F ((ρ.put b l').cut N) l' y)
 (hlk:(∃r st p,x=.loop r st p)→∃r st p,y=.loop r st p:=by(rintro⟨_,_,_,h⟩;cases h)) (hout:w'.os=w.os∧w'.output=w.output:=by exact⟨rfl,rfl⟩) :
 HR C (ρ.put b l') F H' w'∧Ext C ρ F H w (ρ.put b l') F H' w':=by
 have hro:H.ro≤b∧b<H.bl.length∧H'.bl=H.bl.set b y∧H'.ro=H.ro∧H'.br=(bif decide (refs≤b+1)then H.br else(b,refs)::H.br):=by
  unfold bF at hH
  by_cases h:(decide (H.ro≤b)&&decide (b<H.bl.length))=true
  ·rw[h]at hH
   simp at h
   simp only[Du,Dd]at hH
   subst hH
   exact⟨h.1,h.2,rfl,rfl,rfl⟩
  ·rw[EP]at h;rw[h]at hH;simp at hH
 obtain⟨hro,hlt,hbl,hroe,hesc⟩:=hro
 have hle:ρ.le (ρ.put b l'):=fun b' l1 h=>by
  by_cases e:b'=b
  ·subst e;rw[hl]at h;cases h;exact⟨l',Map.aS _ _ _,hver⟩
  ·exact⟨l1,by rw[Map.aM _ _ e];exact h,.inl rfl⟩
 have hbo:l.aU=false→Own ρ H b l:=fun hv=>⟨⟨x,hb,hx⟩,hl,hv⟩
 have hk:b9 F w w':=fun B hB=>hh B (hr.eB B hB) (fun hv e=>(hr.own b l (hbo hv)).1 (e▸hB))
 have aQ:∀b',b'≠b→H'.bl[b']?=H.bl[b']?:=fun b' e=>by rw[hbl,Dt (Ne.symm e)]
 have hgetb:H'.bl[b]?=some y:=by rw[hbl];simp[hlt]
 have hown:∀b' l1,Own (ρ.put b l') H' b' l1→(b'=b∧l1=l'∧y.live=true)∨(b'≠b∧Own ρ H b' l1):=by
  intro b' l1 ⟨⟨z,hz,hzl⟩,hm,hv⟩
  by_cases e:b'=b
  ·subst e
   rw[Map.aS]at hm;cases hm
   rw[hgetb]at hz;cases hz
   exact .inl ⟨rfl,rfl,hzl⟩
  ·rw[Map.aM _ _ e]at hm
   rw[aQ b' e]at hz
   exact .inr ⟨e,⟨z,hz,hzl⟩,hm,hv⟩
 have hsame:∀b' l1,b'≠b→Own ρ H b' l1→w'.heap[l1.bu]?=w.heap[l1.bu]?:=fun b' l1 e ho=>
  hh _ (hr.own b' l1 ho).2 (fun hv h=>e (hr.apart b' b l1 l ho (hbo hv) h))
 refine⟨⟨fun b' l1 h=>?_,fun b' z hz hzl=>?_,fun b1 b2 l1 l2 h1 h2 he=>?_,fun b' l1 ho=>?_,fun B hB=>DX (hr.eB B hB) hs⟩,?_⟩
 ·rw[hbl,DZ]
  by_cases e:b'=b
  ·subst e;exact hlt
  ·rw[Map.aM _ _ e]at h;exact hr.fC b' l1 h
 ·by_cases e:b'=b
  ·subst e
   rw[hgetb]at hz;cases hz
   exact⟨l',Map.aS _ _ _,hy hzl⟩
  ·rw[aQ b' e]at hz
   obtain⟨l1,hl1,hbr⟩:=hr.live b' z hz hzl
   exact⟨l1,by rw[Map.aM _ _ e];exact hl1,hbr.mono hk (fun _ h=>h) hle (fun hv=>hsame b' l1 e ⟨⟨z,hz,hzl⟩,hl1,hv⟩)⟩
 ·rcases hown b1 l1 h1 with⟨e1,f1,_⟩|⟨e1,o1⟩<;>rcases hown b2 l2 h2 with⟨e2,f2,_⟩|⟨e2,o2⟩
  ·rw[e1,e2]
  ·subst f1
   rcases hl' h1.2.2 with⟨hv,hq⟩|hq
   ·exact absurd (hr.apart b2 b l2 l o2 (hbo hv) (by rw[←he,hq])) e2
   ·have:=(hr.own b2 l2 o2).2;omega
  ·subst f2
   rcases hl' h2.2.2 with⟨hv,hq⟩|hq
   ·exact absurd (hr.apart b1 b l1 l o1 (hbo hv) (by rw[he,hq])) e1
   ·have:=(hr.own b1 l1 o1).2;omega
  ·exact hr.apart b1 b2 l1 l2 o1 o2 he
 ·rcases hown b' l1 ho with⟨_,f1,_⟩|⟨_,o1⟩
  ·subst f1
   rcases hl' ho.2.2 with⟨hv,hq⟩|hq
   ·have:=hr.own b l (hbo hv)
    exact⟨hq▸this.1,hq▸DX this.2 hs⟩
   ·exact⟨fun hF=>by have:=hr.eB _ hF;omega,hq.2⟩
  ·have:=hr.own b' l1 o1
   exact⟨this.1,DX this.2 hs⟩
 ·refine⟨⟨fun b' l1 h=>?_,fun _ h=>h,fun _ h=>.inl h,fun B hB hno=>hh B hB (fun hv e=>hno b l (hbo hv) hro e.symm),hs,fun b' l1 ho=>?_,hroe,fun p hp=>?_,fun N hN hc h0 b' z l1 hb1 hz hzl hm=>?_,fun B q hq=>?_,by rw[hbl,DZ];exact De _,hout⟩,fun b' l1 h=>?_⟩
  ·by_cases e:b'=b
   ·subst e;rw[hl]at h;cases h
    exact⟨l',Map.aS _ _ _,hver.imp id (fun⟨a,v⟩=>⟨hro,a,v⟩)⟩
   ·exact⟨l1,by rw[Map.aM _ _ e];exact h,.inl rfl⟩
  ·rcases hown b' l1 ho with⟨e1,f1,_⟩|⟨e1,o1⟩
   ·subst f1;subst e1
    rcases hl' ho.2.2 with⟨hv,hq⟩|hq
    ·exact .inr ⟨l,hbo hv,hq.symm⟩
    ·exact .inl hq.1
   ·exact .inr ⟨l1,o1,rfl⟩
  ·rw[hesc]
   cases decide (refs≤b+1)with
   |true=>exact hp
   |false=>exact DJ _ hp
  ·have hN':N≤H.bl.length:=by rw[hbl,DZ]at hN;exact hN
   by_cases e:b'=b
   ·subst e
    rw[hgetb]at hz;cases hz
    rw[Map.aS]at hm;cases hm
    refine hcut hzl N ?_ hb1 (h0 hN' b' x l hb1 hb hx hl)
    by_cases hd:refs≤b'+1
    ·omega
    ·have:(b',refs)∈H'.br:=by
      rw[hesc];simp[hd]
     have:=hc _ this
     simp only at this
     omega
   ·rw[aQ b' e]at hz
    rw[Map.aM _ _ e]at hm
    refine(h0 hN' b' z l1 hb1 hz hzl hm).mono hk (fun _ h=>h) (fun b1 l2 h1=>?_) (fun hv=>hsame b' l1 e ⟨⟨z,hz,hzl⟩,hm,hv⟩)
    unfold Map.cut at h1⊢
    split at h1
    ·rename_i h2
     rw[if_pos h2]
     by_cases e1:b1=b
     ·subst e1;rw[hl]at h1;cases h1;exact⟨l',Map.aS _ _ _,hver⟩
     ·exact⟨l2,by rw[Map.aM _ _ e1];exact h1,.inl rfl⟩
    ·cases h1
  ·have hB:=(Dh.1 hq).1
   by_cases hbl:l.aU=false∧B=l.bu
   ·obtain⟨hv,rfl⟩:=hbl
    obtain⟨l1,hl1,hbr⟩:=hr.live b x hb hx
    rw[hl]at hl1;cases hl1
    cases x with
    |dead=>cases hx
    |box cs=>obtain⟨_,_,_,_,_,vs,ty,fz,h6,_⟩:=hbr;rw[hq]at h6;cases h6
    |arr bB z L ex=>
     obtain⟨_,_,_,_,_,_,_,h8⟩:=hbr
     obtain⟨vs,ty,fz,h6,_⟩:=h8 hv
     rw[hq]at h6;cases h6
    |map es=>obtain⟨_,_,en,cl,h6,_⟩:=hbr;rw[hq]at h6;cases h6
    |loop r st p=>
     obtain⟨r',st',p',rfl⟩:=hlk ⟨r,st,p,rfl⟩
     obtain⟨_,ha,_⟩:=hbr
     have:l'=l:=by
      rcases hver with e|⟨e,_⟩
      ·exact e
      ·rw[ha]at e;cases e
     subst this
     obtain⟨_,_,q',h3,_⟩:=hy rfl
     exact⟨q',h3⟩
   ·exact⟨q,(hh B hB (fun hv e=>hbl ⟨hv,e⟩)).trans hq⟩
  ·by_cases e:b'=b
   ·subst e;exact .inl ⟨l,hl⟩
   ·rw[Map.aM _ _ e]at h;exact .inl ⟨l1,h⟩
end
end
section
section
variable{C:Ctx}{ρ:Map}{F:Nat→Prop}{H H':ab}{w w':World}{e:Env}{a:Act}
theorem aa{A:Type}{c:Bool}{x:Option A}{y:A}(h:(bif c then x else none)=some y):c=true∧x=some y:=by
 cases c with
 |true=>exact⟨rfl,h⟩
 |false=>cases h
theorem iU{A:Type}{l:List (Option A)}{r:List A}(h:a7 l=some r):l=r.map some:=by
 induction l generalizing r with
 |nil=>simp[a7]at h;subst h;rfl
 |cons x l ih=>
  cases x with
  |none=>simp[a7]at h
  |some x=>
   simp only[a7,C5]at h
   obtain⟨r',h1,rfl⟩:=h
   rw[ih h1];rfl
theorem cn{A B:Type}{f:A→Option B}{l:List A}{r:List B}(h:a7 (l.map f)=some r) :
 r.length=l.length∧∀(j:Nat) x y,l[j]?=some x→r[j]?=some y→f x=some y:=by
 have h1:=iU h
 have hl:r.length=l.length:=by have:=congrArg List.length h1;simpa using this.symm
 refine⟨hl,fun j x y hx hy=>?_⟩
 have h2:=congrArg (·[j]?) h1
 simp[hx,hy]at h2
 exact h2
theorem ma:∀(d:Nat) {v:Value} {s:SV},gS d v=some s→VR w F ρ s v:=by
 intro d
 induction d with
 |zero=>intro v s h;simp[gS]at h
 |succ d ih=>
  intro v s h
  unfold gS at h
  split at h
  ·cases h;exact .bool _
  ·cases h;exact .int _ _
  ·cases h;exact .str _
  ·cases h;exact .dU
  ·cases h
   exact VR.aP (L:=[]) (fun _ _=>undef) (De _) (fun _=>rfl) (by simp) (.inl rfl) (by simp) (by simp)
  ·cases h;exact .eL
  ·rename_i cs
   simp only[C6]at h
   obtain⟨r,h1,h2⟩:=h
   by_cases hok:r.all SV.gD=true
   ·rw[hok]at h2
    simp only[Du,Dd]at h2
    subst h2
    obtain⟨hl,hp⟩:=cn h1
    refine .agg (by simpa using hl) (fun j c hj=>?_) (fun j c v hj hv=>ih (hp j v c (by simpa using hv) hj))
    exact Dg.1 hok c (Dm hj)
   ·rw[EP]at hok;rw[hok]at h2;simp at h2
  ·cases h
theorem aC{x:Operand}{y:bj}(h:aR x=some y)(he:ER w F ρ e a.tmps):VR w F ρ (ev e y) (a.eval x):=by
 unfold aR at h
 split at h
 ·cases h;exact he _
 ·simp only[C5]at h
  obtain⟨s,h1,rfl⟩:=h
  exact ma 2 h1
 ·cases h
  exact .fn rfl (by simp)
 ·cases h
theorem eS{xs:Array Operand}{ys:List bj}(h:eX xs=some ys)(he:ER w F ρ e a.tmps) :
 (ys.map (ev e)).length=xs.size∧∀(j:Nat) c v,(ys.map (ev e))[j]?=some c→(xs.map a.eval)[j]?=some v→VR w F ρ c v:=by
 obtain⟨hl,hp⟩:=cn h
 refine⟨by simpa using hl,fun j c v hc hv=>?_⟩
 simp at hc hv
 obtain⟨y,hy,rfl⟩:=hc
 obtain⟨x,hx,rfl⟩:=hv
 exact aC (hp j x y (by simpa using hx) hy) he
def bX(C:Ctx)(ρ:Map)(F:Nat→Prop)(H:ab)(w:World)(v:SV)(H':ab)(val:Value)(w':World):Prop:=
 ∃ρ' F',VR w' F' ρ' v val∧HR C ρ' F' H' w'∧Ext C ρ F H w ρ' F' H' w'
theorem bX.same(hr:HR C ρ F H w){v:SV}{val:Value}(hv:VR w F ρ v val):bX C ρ F H w v H val w:=⟨ρ,F,hv,hr,Ext.refl _ _ _ _⟩
def tJ(P:Program)(w:World)(s:Sem Next)(val:Value)(w':World):Prop:=s.run P w=.ok (.value val) w'∨(s.run P w=.ok .skip w'∧val=undef)
def aW(C:Ctx)(s:Sem Next)(ρ:Map)(F:Nat→Prop)(H:ab)(w:World)(v:SV)(H':ab):Prop:=
 ∃val w',tJ C.P w s val w'∧bX C ρ F H w v H' val w'
theorem aW.val{s:Sem Value}(hr:HR C ρ F H w){v:SV}{val:Value}(hs:s.run C.P w=.ok val w)(hv:VR w F ρ v val) :
 aW C (do pure (.value (←s))) ρ F H w v H:=
 ⟨val,w,.inl (by simp[hs,pure,Sem.run]),bX.same hr hv⟩
theorem aW.mh{s:Sem Value}{v:SV}{val:Value}(hs:s.run C.P w=.ok val w')(hd:bX C ρ F H w v H' val w') :
 aW C (do pure (.value (←s))) ρ F H w v H':=
 ⟨val,w',.inl (by simp[hs,pure,Sem.run]),hd⟩
theorem c0{cs:List SV}{v:Value}(h:VR w F ρ (.agg cs) v):∃vs,v=.agg vs∧cs.length=vs.size∧aT w F ρ vs 0 cs:=by
 cases h with
 |agg hn h1 hv=>
  rename_i vs
  refine⟨vs,rfl,hn,fun j c hj=>?_⟩
  have hlt:=(C7.1 hj).1
  have hv':vs[j]?=some vs[j]:=D9 (by omega)
  exact⟨vs[j],by simpa using hv',hv j c _ hj hv',h1 j c hj⟩
theorem ec{c:SV}{cs:List SV}{v:Value}(h:bY c=some cs)(hv:VR w F ρ c v):cs.length=v.cells.size∧aT w F ρ v.cells 0 cs∧c.refs=SV.refs.aK cs:=by
 unfold bY at h
 split at h
 ·cases h
  obtain⟨vs,rfl,h1,h2⟩:=c0 hv
  exact⟨h1,h2,rfl⟩
 ·rename_i hna
  by_cases hok:c.gD=true
  ·rw[hok]at h
   simp only[Du,Dd]at h
   subst h
   have h1:=hv.one hok
   have hc:v.cells= #[v]:=by cases v<;>simp_all [Value.cells,fJ]
   rw[hc]
   refine⟨rfl,fun j d hj=>?_,by simp[SV.refs.aK]⟩
   cases j with
   |zero=>simp at hj;subst hj;exact⟨v,rfl,hv,hok⟩
   |succ j=>simp at hj
  ·rw[EP]at hok;rw[hok]at h;simp at h
theorem kq{ag:Bool}{n o at_:Nat}{cs:List SV}{s:SV}{vs:Array Value}(h:bN ag n cs o=some s)(hc:aT w F ρ vs at_ cs)
 (hsz:at_+cs.length≤vs.size):(ag=true→VR w F ρ s (.agg (vs.extract (at_+o) (at_+o+n))))∧(ag=false→∃v,vs[at_+o]?=some v∧VR w F ρ s v):=by
 unfold bN at h
 cases ag with
 |false=>
  refine⟨by simp,fun _=>?_⟩
  simp only[Dw]at h
  obtain⟨v,h1,h2,_⟩:=hc o s h
  exact⟨v,h1,h2⟩
 |true=>
  refine⟨fun _=>?_,by simp⟩
  by_cases hle:o+n≤cs.length
  ·simp[hle]at h
   subst h
   have hj:∀j c,((cs.drop o).take n)[j]?=some c→j<n∧cs[o+j]?=some c:=by
    intro j c hj
    rw[Dk]at hj
    split at hj
    ·rw[Dx]at hj;exact⟨by assumption,hj⟩
    ·cases hj
   refine .agg (by simp;omega) (fun j c h=>?_) (fun j c v h hv=>?_)
   ·obtain⟨_,h2⟩:=hj j c h
    obtain⟨_,_,_,h3⟩:=hc _ c h2
    exact h3
   ·obtain⟨hlt,h2⟩:=hj j c h
    obtain⟨v',h3,h4,_⟩:=hc _ c h2
    rw[Ft]at hv
    have:v'=v:=by
     split at hv
     ·rw[←Da]at h3;rw[h3]at hv;exact EL hv
     ·cases hv
    exact this▸h4
  ·simp[hle]at h
end
end
section
section
variable{P:Program}{w:World}
theorem cS{t:TypeId}{ag:Bool}(h:fh P t=some ag):(isAgg t).run P w=.ok ag w:=by
 unfold fh at h
 cases hu:P.underlying t with
 |none=>rw[hu]at h;cases h
 |some d=>
  rw[hu]at h
  unfold isAgg
  simp only[Sem.run_bind,run_underlying hu,Result.andThen]
  cases d<;>simp at h<;>subst h<;>rfl
theorem a0{t:TypeId}{n:Nat}(h:dC P t=some n):(sizeOf t).run P w=.ok n w:=by
 unfold dC at h
 simp only[C5]at h
 obtain⟨i,hi,rfl⟩:=h
 unfold sizeOf
 simp only[Sem.run_bind,run_typeInfo w hi,Result.andThen]
 rfl
theorem bP(B o j:Nat):(⟨B,o,none⟩:Addr).add j=⟨B,o+j,none⟩:=by unfold Addr.add;split<;>simp_all
theorem iu{B o:Nat}{vs:Array Value}{ty:TypeId}{fz:Nat×Nat}(h:w.heap[B]?=some (.cells vs ty fz)):w.cell? ⟨B,o,none⟩=vs[o]?:=by
 simp[World.cell?,h]
theorem fX{t:TypeId}{ag:Bool}{n:Nat}(hag:fh P t=some ag)(hsz:dC P t=some n){B o:Nat}(f:Nat→Value)
 (hc:∀j,j<(if ag then n else 1)→w.cell? ⟨B,o+j,none⟩=some (f j)) :
 (loadVar t ⟨B,o,none⟩).run P w=.ok (if ag then .agg ((List.range n).map f).toArray else f 0) w:=by
 unfold loadVar
 simp only[Sem.run_bind,cS hag,Result.andThen]
 cases ag with
 |true=>
  simp only[if_true]at hc⊢
  simp only[Sem.run_bind,a0 hsz,Result.andThen,run_loadCells w ⟨B,o,none⟩ n f (fun j hj=>by rw[bP];exact hc j hj)]
  rfl
 |false=>
  have:=hc 0 (by simp)
  simp only[EZ]at this
  simp only[Dp,if_false,run_load,this]
theorem kx{t:TypeId}{ag:Bool}{n:Nat}(hag:fh P t=some ag)(hsz:dC P t=some n){B o:Nat}{vs:Array Value}{ty:TypeId}{fz:Nat×Nat}
 (hb:w.heap[B]?=some (.cells vs ty fz)) (hle:o+(if ag then n else 1)≤vs.size) :
 (ag=true→(loadVar t ⟨B,o,none⟩).run P w=.ok (.agg (vs.extract o (o+n))) w)∧(ag=false→∀v,vs[o]?=some v→(loadVar t ⟨B,o,none⟩).run P w=.ok v w):=by
 have h:=fX (w:=w) hag hsz (B:=B) (o:=o) (fun j=>vs.getD (o+j) undef) (fun j hj=>by
  rw[iu hb]
  have:o+j<vs.size:=by omega
  simp[this])
 constructor
 ·rintro rfl
  rw[h]
  simp only[if_true]at hle⊢
  congr 2
  apply Array.ext
  ·simp;omega
  ·intro i h1 h2
   simp at h1
   have:o+i<vs.size:=by omega
   simp[this]
 ·rintro rfl v hv
  rw[h]
  simp[hv]
def ie(vs:Array Value)(k:Nat)(xs:List Value):Array Value:=(vs.toList.take k++xs++vs.toList.drop (k+xs.length)).toArray
def cX(w:World)(B:Nat)(vs:Array Value)(ty:TypeId)(fz:Nat×Nat):World:={w with heap:=w.heap.setIfInBounds B (.cells vs ty fz)}
theorem ed{B B':Nat}{vs:Array Value}{ty:TypeId}{fz:Nat×Nat}(h:B'≠B):(cX w B vs ty fz).heap[B']?=w.heap[B']?:=by
 simp[cX,Dz (Ne.symm h)]
theorem lj{B:Nat}{vs:Array Value}{ty:TypeId}{fz:Nat×Nat}:(cX w B vs ty fz).heap.size=w.heap.size:=by simp[cX]
theorem fb{B:Nat}{vs:Array Value}{ty:TypeId}{fz:Nat×Nat}(h:B<w.heap.size):(cX w B vs ty fz).heap[B]?=some (.cells vs ty fz):=by
 simp[cX,h]
theorem fe{vs:Array Value}{k:Nat}{xs:List Value}(h:k+xs.length≤vs.size):(ie vs k xs).size=vs.size:=by
 simp[ie];omega
theorem fD{vs:Array Value}{k:Nat}{xs:List Value}(h:k+xs.length≤vs.size)(j:Nat) :
 (ie vs k xs)[j]?=if j<k then vs[j]? else if j<k+xs.length then xs[j-k]? else vs[j]?:=by
 unfold ie
 simp only[Ey]
 rw[C9,D5]
 have hl:(vs.toList.take k).length=k:=by simp;omega
 rw[hl]
 split
 ·rw[Dk];simp[*]
 ·rw[D5]
  split
  ·rw[if_pos (by omega)]
  ·rw[if_neg (by omega),Dx]
   simp only[Fy]
   congr 1;omega
theorem vt(v:Value):fJ v=v.oneCell':=by cases v<;>rfl
theorem ck(B o:Nat)(ty:TypeId)(fz:Nat×Nat):∀(xs:List Value) (i:Nat) (vs:Array Value) (w:World),w.heap[B]?=some (.cells vs ty fz)→fZ fz vs.size→
 o+i+xs.length≤vs.size→(∀v∈xs,fJ v=true)→(storeCells ⟨B,o,none⟩ xs i).run P w=.ok () (cX w B (ie vs (o+i) xs) ty fz)
 |[],i,vs,w,hb,ht,hle,h1=>by
  have hB:B<w.heap.size:=(Dh.1 hb).1
  have:ie vs (o+i) []=vs:=by simp[ie]
  rw[this]
  simp only[storeCells]
  have:cX w B vs ty fz=w:=by
   unfold cX
   have:w.heap.setIfInBounds B (.cells vs ty fz)=w.heap:=by
    apply E6
    intro j
    by_cases e:B=j
    ·subst e;rw[hb];simp[hB]
    ·rw[Dz e]
   rw[this]
  rw[this];rfl
 |v::r,i,vs,w,hb,ht,hle,h1=>by
  have hB:B<w.heap.size:=(Dh.1 hb).1
  simp only[DU]at hle
  have hlt:o+i<vs.size:=by omega
  have hcell:w.cell? ⟨B,o+i,none⟩=some vs[o+i]:=by rw[iu hb];simp[hlt]
  have hfz:w.frozen? ⟨B,o+i,none⟩=false:=by simp only[World.frozen?,hb];exact ht _ hlt
  have bF:w.setCell ⟨B,o+i,none⟩ v=cX w B (vs.setIfInBounds (o+i) v) ty fz:=by
   unfold World.setCell cX
   congr 1
   apply E6
   intro j
   by_cases e:B=j
   ·subst e
    have hb':=(Dh.1 hb).2
    rw[Fz]
    simp[hb,hB]
    rw[hb']
   ·rw[Dz e]
    simp[Fz,e]
  have hst:(store ((⟨B,o,none⟩:Addr).add i) v).run P w=.ok () (cX w B (vs.setIfInBounds (o+i) v) ty fz):=by
   rw[bP,run_store P w _ v _ (by rw[←vt];exact h1 v (by simp)),hcell]
   simp only[hfz,bF]
   rfl
  have ih:=ck B o ty fz r (i+1) (vs.setIfInBounds (o+i) v) (cX w B (vs.setIfInBounds (o+i) v) ty fz) (fb hB) (by simpa using ht) (by simp;omega) (fun x hx=>h1 x (by simp[hx]))
  simp only[storeCells,Sem.run_bind,hst,Result.andThen_ok,ih]
  congr 1
  unfold cX
  congr 1
  rw[Array.setIfInBounds_setIfInBounds]
  congr 2
  apply E6
  intro j
  rw[fD (by simp;omega),fD (by simp;omega)]
  simp only[DU]
  by_cases e1:j<o+i
  ·rw[if_pos (by omega),if_pos e1,Dz (by omega)]
  ·by_cases e2:j=o+i
   ·subst e2
    rw[if_pos (by omega),if_neg (by omega),if_pos (by omega)]
    simp[hlt]
   ·have a1:¬j<o+(i+1):=by omega
    simp only[a1,e1,if_false]
    by_cases e3:j<o+(i+1)+r.length
    ·have e4:j<o+i+(r.length+1):=by omega
     simp only[e3,e4,if_true]
     rw[show j-(o+i)=(j-(o+(i+1)))+1 by omega]
     simp
    ·have e4:¬j<o+i+(r.length+1):=by omega
     simp only[e3,e4,if_false]
     rw[Dz (by omega)]
theorem fM{t:TypeId}{n:Nat}(hsz:dC P t=some n){B o:Nat}{vs:Array Value}{ty:TypeId}{fz:Nat×Nat}{v:Value}
 (hb:w.heap[B]?=some (.cells vs ty fz)) (ht:fZ fz vs.size) (hn:v.cells.size=n) (hle:o+n≤vs.size) (h1:∀x∈v.cells.toList,fJ x=true) :
 (storeVar t ⟨B,o,none⟩ v).run P w=.ok () (cX w B (ie vs o v.cells.toList) ty fz):=by
 unfold storeVar
 simp only[Sem.run_bind,a0 hsz,Result.andThen,hn,ne_eq,not_true,if_false]
 have:=ck (P:=P) B o ty fz v.cells.toList 0 vs w hb ht (by simp;omega) h1
 simp only[EZ]at this
 simpa[Sem.run_bind]using this
end
end
section
section
variable{C:Ctx}{ρ:Map}{F:Nat→Prop}{H H':ab}{w:World}{e:Env}{a:Act}{s:SV}
theorem pF{v:Value}{cs:List SV}(h:aT w F ρ v.cells 0 cs)(hn:cs.length=v.cells.size):∀x∈v.cells.toList,fJ x=true:=by
 intro x hx
 obtain⟨j,hj,rfl⟩:=List.mem_iff_getElem.1 hx
 simp at hj
 obtain⟨v',h1,h2,h3⟩:=h j _ (Dl (by omega))
 have h4:v'=v.cells.toList[j]:=by
  rw[Ea,D9 hj]at h1
  simpa using(EL h1).symm
 rw[←h4]
 exact h2.one h3
theorem mv(hr:HR C ρ F H w){cs:List SV}{vs:Array Value}{ty:TypeId}(hn:cs.length=vs.size)(hc:aT w F ρ vs 0 cs) :
 bX C ρ F H w (.ptr H.bl.length 0 0 0) (aZ H (.box cs)) (.pointer (some ⟨w.heap.size,0,none⟩)) {w with heap:=w.heap.push (.cells vs ty)}:=by
 let l:Loc:={bu:=w.heap.size,base:=0,cap:=0,a8:=cs.length,bB:=0,aU:=false,arr:=false}
 have hh:∀B,B<w.heap.size→({w with heap:=w.heap.push (.cells vs ty)}:World).heap[B]?=w.heap[B]?:=fun B hB=>by
  simp[Ew,Ex hB]
 have hk:b9 F w ({w with heap:=w.heap.push (.cells vs ty)}:World):=fun B hB=>hh B (hr.eB B hB)
 have hle:ρ.le (ρ.put H.bl.length l):=fun b l' h=>⟨l',by rw[Map.aM _ _ (Ex (hr.fC b l' h))];exact h,.inl rfl⟩
 have hp:=hr.push (w':={w with heap:=w.heap.push (.cells vs ty)}) (by simp) hh (.box cs) l (fun _=>⟨De _,by simp[l]⟩)
  ⟨rfl,rfl,rfl,rfl,rfl,vs,ty,(0,0),by simp[l],fun o ho=>by simp,hn.symm,hc.mono hk (fun _ h=>h) hle⟩
 exact⟨_,F,.ptr (l:=l) (Map.aS _ _ _) (De _) rfl (fun _=>⟨rfl,by simp[l]⟩),hp.1,hp.2⟩
theorem qN{x:Operand}{y:bj}(hx:aR x=some y)(hr:HR C ρ F H w)(he:ER w F ρ e a.tmps):aW C (pure (.value (a.eval x))) ρ F H w (ev e y) H:=
 ⟨a.eval x,w,.inl rfl,bX.same hr (aC hx he)⟩
theorem cI{b:Bool}{v:Value}(h:VR w F ρ (.bool b) v):v=.bool b:=by cases h;rfl
theorem dz{k:IntKind}{n:Int}{v:Value}(h:VR w F ρ (.int k n) v):v=.int k n:=by cases h;rfl
theorem fy{t:ByteArray}{v:Value}(h:VR w F ρ (.str t) v):v=.string t:=by cases h;rfl
theorem tv{c x y:Operand}{c' x' y':bj}(hc:aR c=some c')(hx:aR x=some x')(hy:aR y=some y')(hr:HR C ρ F H w)(he:ER w F ρ e a.tmps)
 (h:fP (ev e c') (ev e x') (ev e y')=some s):aW C (do pure (.value (if←asBool (a.eval c)then a.eval x else a.eval y))) ρ F H w s H:=by
 have h1:=aC hc he
 have h2:=aC hx he
 have h3:=aC hy he
 generalize ev e c'=c1,ev e x'=x1,ev e y'=y1 at *
 have key:∀t,c1=.bool t→VR w F ρ s (if t then a.eval x else a.eval y)→aW C (do pure (.value (if←asBool (a.eval c)then a.eval x else a.eval y))) ρ F H w s H:=by
  intro t ht hv
  subst ht
  rw[cI h1]
  exact⟨_,w,.inl rfl,bX.same hr hv⟩
 have ht:∃t,c1=.bool t:=by
  unfold fP at h
  split at h
  ·exact⟨_,rfl⟩
  ·exact⟨_,rfl⟩
  ·cases h
 obtain⟨t,rfl⟩:=ht
 refine key t rfl ?_
 unfold fP at h
 split at h
 ·rename_i h0
  cases h
  cases h0
  rw[cI h2,cI h3]
  cases t<;>exact .bool _
 ·rename_i t' heq _
  cases heq
  cases t<;>simp at h<;>subst h<;>assumption
 ·cases h
theorem uZ{t:TypeId}{x:Operand}{y:bj}(hx:aR x=some y)(hr:HR C ρ F H w)(he:ER w F ρ e a.tmps){cs:List SV}(h:bY (ev e y)=some cs) :
 aW C (do pure (.value (←Instr.box t (a.eval x)))) ρ F H w (.ptr H.bl.length 0 0 0) (aZ H (.box cs)):=by
 obtain⟨h1,h2,_⟩:=ec h (aC hx he)
 refine aW.mh (w':={w with heap:=w.heap.push (.cells (a.eval x).cells t)}) ?_ (mv hr h1 h2)
 simp[Instr.box,newVar,newRow,newObj,Sem.run]
theorem dO{t:TypeId}{z:List SV}(h:eh C.P t=some z):∃i v,C.P.info? t=some i∧i.zero=some v∧z.length=v.cells.size∧aT w F ρ v.cells 0 z:=by
 unfold eh at h
 split at h
 ·rename_i i hi
  split at h
  ·rename_i v hv
   simp only[C6]at h
   obtain⟨r,h1,h2⟩:=h
   by_cases hok:r.all SV.gD=true
   ·rw[hok]at h2
    simp only[Du,Dd]at h2
    subst h2
    obtain⟨hl,hp⟩:=cn h1
    refine⟨i,v,hi,hv,by simpa using hl,fun j c hj=>?_⟩
    have hlt:=(C7.1 hj).1
    have hlt':j<v.cells.size:=by simp at hl;omega
    have hv':v.cells[j]?=some v.cells[j]:=D9 hlt'
    exact⟨v.cells[j],by simpa using hv',ma 1 (hp j _ c (by simpa using hv') hj),Dg.1 hok c (Dm hj)⟩
   ·rw[EP]at hok;rw[hok]at h2;simp at h2
  ·cases h
 ·cases h
theorem cf{t:TypeId}{i:TypeInfo}{v:Value}(hi:C.P.info? t=some i)(hz:i.zero=some v):(zeroValue t).run C.P w=.ok v w:=by
 unfold zeroValue
 simp only[Sem.run_bind,run_typeInfo w hi,Result.andThen,hz]
 rfl
theorem rq{t:TypeId}{z:List SV}(hz:eh C.P t=some z)(hr:HR C ρ F H w) :
 aW C (do pure (.value (←Instr.alloc t true (.tuple #[])))) ρ F H w (.ptr H.bl.length 0 0 0) (aZ H (.box z)):=by
 obtain⟨i,v,hi,hv,h1,h2⟩:=dO (w:=w) (F:=F) (ρ:=ρ) hz
 refine aW.mh (w':={w with heap:=w.heap.push (.cells v.cells t)}) ?_ (mv hr h1 h2)
 simp[Instr.alloc,cf hi hv,newVar,newRow,newObj,Sem.run]
end
end
section
section
variable{C:Ctx}{ρ:Map}{F:Nat→Prop}{H H':ab}{w:World}{e:Env}{a:Act}{s:SV}
theorem nh{ag:Bool}{n o:Nat}{cs:List SV}(h:bN ag n cs o=some s):o+(if ag then n else 1)≤cs.length:=by
 unfold bN at h
 cases ag with
 |false=>simp only[Dw]at h;have:=(C7.1 h).1;simp;omega
 |true=>
  by_cases hle:o+n≤cs.length
  ·simpa using hle
  ·simp[hle]at h
theorem j0{P:Program}{t:TypeId}{ag:Bool}{n o at_ B:Nat}{cs:List SV}{vs:Array Value}{ty:TypeId}{fz:Nat×Nat}(hag:fh P t=some ag)(hsz:dC P t=some n)
 (hb:w.heap[B]?=some (.cells vs ty fz)) (hc:aT w F ρ vs at_ cs) (hle:at_+cs.length≤vs.size) (h:bN ag n cs o=some s) :
 ∃val,(loadVar t ⟨B,at_+o,none⟩).run P w=.ok val w∧VR w F ρ s val:=by
 have h1:=nh h
 obtain⟨h2,h3⟩:=kq h hc hle
 obtain⟨r1,r2⟩:=kx (o:=at_+o) hag hsz hb (by omega)
 cases ag with
 |true=>exact⟨_,r1 rfl,h2 rfl⟩
 |false=>obtain⟨v,hv,hr⟩:=h3 rfl;exact⟨v,r2 rfl v hv,hr⟩
theorem oX(hr:HR C ρ F H w){b bB i o:Nat}{v:Value}{cs:List SV}(hv:VR w F ρ (.ptr b bB i o) v)(hb:aQ H b=some (.box cs))(hi:i=0) :
 ∃l vs ty fz,ρ b=some l∧l.aU=false∧l.arr=false∧l.bB=0∧v=.pointer (some ⟨l.bu,o,none⟩)∧w.heap[l.bu]?=some (.cells vs ty fz)∧fZ fz vs.size∧vs.size=cs.length∧aT w F ρ vs 0 cs∧
  BR C w F ρ l (.box cs):=by
 obtain⟨l,hl,hbr⟩:=hr.live b _ hb rfl
 have hbr':=hbr
 obtain⟨h1,h2,h3,h4,h5,vs,ty,fz,h6,h7,h8,h9⟩:=hbr
 cases hv with
 |ptr h hv hc ha=>
  rw[hl]at h;cases h
  obtain⟨_,rfl⟩:=ha (by omega)
  subst hi
  exact⟨l,vs,ty,fz,hl,h1,h2,h4,by simp[h3],h6,h7,h8,h9,hbr'⟩
theorem pq(hr:HR C ρ F H w){b bB i o z:Nat}{v:Value}{L:List (List SV)}{ex:Bool}(hv:VR w F ρ (.ptr b bB i o) v)(hb:aQ H b=some (.arr bB z L ex)) :
 ∃l vs ty fz,ρ b=some l∧l.aU=false∧l.bB=bB∧l.arr=true∧l.a8=z∧v=.pointer (some ⟨l.bu,l.base+i*z+o,none⟩)∧w.heap[l.bu]?=some (.cells vs ty fz)∧fZ fz vs.size∧
  l.base+l.cap*z≤vs.size∧L.length≤l.cap∧(∀(i:Nat) cs,L[i]?=some cs→cs.length=z)∧(∀(i:Nat) cs,L[i]?=some cs→aT w F ρ vs (l.base+i*z) cs)∧BR C w F ρ l (.arr bB z L ex):=by
 obtain⟨l,hl,hbr⟩:=hr.live b _ hb rfl
 have hbr':=hbr
 obtain⟨h1,h2,h3,h4,h5,h6,h7,h8⟩:=hbr
 cases hv with
 |ptr h hv hc ha=>
  rw[hl]at h;cases h
  obtain⟨hvi,rfl⟩:=ha h2.symm
  obtain⟨vs,ty,fz,k1,k2,k3,k4⟩:=h8 hvi
  exact⟨l,vs,ty,fz,hl,hvi,h2,h1,h3,by rw[h3],k1,k2,k3,h5,h4,k4,hbr'⟩
theorem oM{L:List (List SV)}{i z cap base n:Nat}{cs:List SV}(hi:L[i]?=some cs)(hz:cs.length=z)(hL:L.length≤cap)(hn:base+cap*z≤n):base+i*z+cs.length≤n:=by
 have h1:=(C7.1 hi).1
 have h2:(i+1)*z≤cap*z:=DO z (by omega)
 rw[DW,EF]at h2
 omega
theorem oR{c:SV}{t:TypeId}{ag:Bool}{n:Nat}{u:Value}(hag:fh C.P t=some ag)(hsz:dC C.P t=some n)(hr:HR C ρ F H w)(hv:VR w F ρ c u)
 (h:bM ag n H c=some s):∃q val,u=.pointer (some q)∧(loadVar t q).run C.P w=.ok val w∧VR w F ρ s val:=by
 unfold bM at h
 split at h
 ·rename_i b bB i o
  split at h
  ·rename_i cs hb
   replace h:=aa h
   obtain⟨hi,h⟩:=h
   obtain⟨l,vs,ty,fz,hl,k1,k1a,k2,k3,k4,k5,k6,k7,_⟩:=oX hr hv hb (by simpa using hi)
   subst k3
   obtain⟨val,r1,r2⟩:=j0 hag hsz k4 k7 (by omega) h
   rw[Ea]at r1
   exact⟨_,val,rfl,r1,r2⟩
  ·rename_i ver' z L ex hb
   replace h:=aa h
   obtain⟨hve,h⟩:=h
   have hve:bB=ver':=by simpa using hve
   subst hve
   split at h
   ·rename_i cs hcs
    obtain⟨l,vs,ty,fz,hl,k1,k2,k2a,k3,k4,k5,k6,k7,k8,k9,k10,_⟩:=pq hr hv hb
    subst k4
    obtain⟨val,r1,r2⟩:=j0 hag hsz k5 (k10 i cs hcs) (oM hcs (k9 i cs hcs) k8 k7) h
    exact⟨_,val,rfl,r1,r2⟩
   ·cases h
  ·cases h
 ·rename_i cs
  cases hv with
  |dy V hF hc h1 hv=>
   rename_i B o
   have hle:=nh h
   have r:=fX (w:=w) hag hsz (B:=B) (o:=o) V (fun j hj=>hc j _ (Dl (by omega)))
   refine⟨_,_,rfl,r,?_⟩
   unfold bN at h
   cases ag with
   |false=>
    simp only[Dw]at h
    exact(hv 0 s h).mono (fun _ _=>rfl) (fun _ h=>h) (fT _)
   |true=>
    simp at hle
    simp[hle]at h
    subst h
    refine .agg (by simp;omega) (fun j c hj=>?_) (fun j c v hj hv'=>?_)
    ·rw[Dk]at hj
     split at hj
     ·exact h1 j c hj
     ·cases hj
    ·rw[Dk]at hj
     split at hj
     ·rename_i hlt
      simp[hlt]at hv'
      subst hv'
      exact(hv j c hj).mono (fun _ _=>rfl) (fun _ h=>h) (fT _)
     ·cases hj
 ·cases h
theorem tt{t:TypeId}{ag:Bool}{n:Nat}{x:Operand}{y:bj}(hag:fh C.P t=some ag)(hsz:dC C.P t=some n)(hx:aR x=some y)(hr:HR C ρ F H w)(he:ER w F ρ e a.tmps)
 (h:bM ag n H (ev e y)=some s):aW C (do pure (.value (←Instr.loadAt t (a.eval x)))) ρ F H w s H:=by
 obtain⟨q,val,hu,h1,h2⟩:=oR hag hsz hr (aC hx he) h
 refine aW.val hr (val:=val) ?_ h2
 unfold Instr.loadAt
 rw[hu]
 simpa[Instr.sureAddr,Sem.run]using h1
theorem gA{vs:Array Value}{at_ o n:Nat}{cs xs:List SV}{v:Value}(hc:aT w F ρ vs at_ cs)(hx:aT w F ρ v.cells 0 xs)(hn:xs.length=n)(hxn:xs.length=v.cells.size)(hle:o+n≤cs.length)
 (hsz:at_+cs.length≤vs.size):aT w F ρ (ie vs (at_+o) v.cells.toList) at_ (eo cs o n xs):=by
 intro j c hj
 have hl:v.cells.toList.length=n:=by simp;omega
 rw[fD (by omega),hl]
 unfold eo at hj
 rw[C9,D5]at hj
 have ht:(cs.take o).length=o:=by simp;omega
 rw[ht]at hj
 split at hj
 ·rename_i hlt
  rw[Dk,if_pos hlt]at hj
  rw[if_pos (by omega)]
  exact hc j c hj
 ·rename_i hge
  rw[D5]at hj
  split at hj
  ·rename_i hlt
   rw[if_neg (by omega),if_pos (by omega)]
   obtain⟨v',h1,h2,h3⟩:=hx _ c hj
   refine⟨v',?_,h2,h3⟩
   rw[Fy,show at_+j-(at_+o)=0+(j-o) by omega]
   exact h1
  ·rename_i hge2
   rw[Dx]at hj
   rw[if_neg (by omega),if_neg (by omega)]
   have:o+n+(j-o-xs.length)=j:=by omega
   rw[this]at hj
   exact hc j c hj
theorem eM{cs xs:List SV}{o n:Nat}(hn:xs.length=n)(hle:o+n≤cs.length):(eo cs o n xs).length=cs.length:=by
 unfold eo;simp;omega
theorem gT{vs:Array Value}{k n at_:Nat}{xs:List Value}{cs:List SV}(hc:aT w F ρ vs at_ cs)(hle:k+xs.length≤vs.size)(hap:at_+cs.length≤k∨k+xs.length≤at_) :
 aT w F ρ (ie vs k xs) at_ cs:=by
 intro j c hj
 have hlt:=(C7.1 hj).1
 obtain⟨v,h1,h2⟩:=hc j c hj
 refine⟨v,?_,h2⟩
 rw[fD hle]
 rcases hap with h|h
 ·rw[if_pos (by omega)];exact h1
 ·rw[if_neg (by omega),if_neg (by omega)];exact h1
theorem bk{b:Nat}{l:Loc}(h:ρ b=some l):ρ.put b l=ρ:=by
 funext b'
 by_cases e:b'=b
 ·subst e;rw[Map.aS,h]
 ·rw[Map.aM _ _ e]
theorem gr(hr:HR C ρ F H w){b:Nat}{x y:bb}{l:Loc}{refs:Nat}{vs':Array Value}{ty:TypeId}{fz:Nat×Nat}(hH:bF H b y refs=some H')(hb:H.bl[b]?=some x)(hx:x.live=true)
 (hl:ρ b=some l) (hv:l.aU=false) (hy:y.live=true→∀ρ1:Map,(ρ1=ρ∨∃N,refs≤N∧ρ1=ρ.cut N)→BR C w F ρ1 l x→BR C (cX w l.bu vs' ty fz) F ρ1 l y)
 (hlk:(∃r st p,x=.loop r st p)→∃r st p,y=.loop r st p:=by(rintro⟨_,_,_,h⟩;cases h)) :
 HR C ρ F H' (cX w l.bu vs' ty fz)∧Ext C ρ F H w ρ F H' (cX w l.bu vs' ty fz):=by
 have:=hr.set (w':=cX w l.bu vs' ty fz) (l':=l) hH hb hx hl (by rw[lj];exact De _) (fun B hB hne=>ed (hne hv)) (fun _=>.inl ⟨hv,rfl⟩) (.inl rfl) (fun hyl=>by
  rw[bk hl]
  obtain⟨l2,h2,hbr⟩:=hr.live b x hb hx
  rw[hl]at h2;cases h2
  exact hy hyl ρ (.inl rfl) hbr) (fun hyl N hN hbN hbr=>by rw[bk hl];exact hy hyl _ (.inr ⟨N,hN,rfl⟩) hbr) hlk
 rwa [bk hl]at this
def o6(C:Ctx)(ρ:Map)(F:Nat→Prop)(H H':ab)(w w':World)(refs:Nat):Prop:=
 ∀N,refs≤N→∀(b:Nat) z z' l,H.bl[b]?=some z→z.live=true→H'.bl[b]?=some z'→ρ b=some l→BR C w F (ρ.cut N) l z→BR C w' F (ρ.cut N) l z'
theorem lf(hr:HR C ρ F H w){b:Nat}{x y:bb}{l:Loc}{refs:Nat}{vs':Array Value}{ty:TypeId}{fz:Nat×Nat}(hH:bF H b y refs=some H')(hb:H.bl[b]?=some x)(hx:x.live=true)
 (hl:ρ b=some l) (hv:l.aU=false) (hy:∀ρ1:Map,(ρ1=ρ∨∃N,refs≤N∧ρ1=ρ.cut N)→BR C w F ρ1 l x→BR C (cX w l.bu vs' ty fz) F ρ1 l y) :
 o6 C ρ F H H' w (cX w l.bu vs' ty fz) refs:=by
 intro N hN b' z z' l' hz hzl hz' hl' hbr
 have hbl:H'.bl=H.bl.set b y∧b<H.bl.length:=by
  unfold bF at hH
  replace hH:=aa hH
  obtain⟨h1,h2⟩:=hH
  simp only[Db,Dc]at h1
  cases h2
  exact⟨rfl,h1.2⟩
 have hk:b9 F w (cX w l.bu vs' ty fz):=fun B hB=>ed (fun h=>(hr.own b l ⟨⟨x,hb,hx⟩,hl,hv⟩).1 (h▸hB))
 rw[hbl.1]at hz'
 by_cases e:b'=b
 ·subst e
  rw[hz]at hb;cases hb
  rw[hl]at hl';cases hl'
  simp[hbl.2]at hz'
  subst hz'
  exact hy _ (.inr ⟨N,hN,rfl⟩) hbr
 ·rw[Dt (Ne.symm e),hz]at hz'
  cases hz'
  exact hbr.mono hk (fun _ h=>h) (Map.le_refl _) (fun hv'=>ed (fun h=>e (hr.apart b' b l' l ⟨⟨z,hz,hzl⟩,hl',hv'⟩ ⟨⟨x,hb,hx⟩,hl,hv⟩ h)))
theorem fo(hr:HR C ρ F H w){b:Nat}{x:bb}{l:Loc}(hb:H.bl[b]?=some x)(hx:x.live=true)(hl:ρ b=some l)(hv:l.aU=false){vs:Array Value}{ty:TypeId}{fz:Nat×Nat} :
 b9 F w (cX w l.bu vs ty fz):=fun B hB=>ed (fun h=>(hr.own b l ⟨⟨x,hb,hx⟩,hl,hv⟩).1 (h▸hB))
theorem oU{A:Prop}{P Q R:Prop}(h1:A→P∧Q)(h2:A→R)(a:A):P∧Q∧R:=⟨(h1 a).1,(h1 a).2,h2 a⟩
theorem nD{t:TypeId}{n:Nat}{c p:SV}{u val:Value}(hsz:dC C.P t=some n)(hr:HR C ρ F H w)(hp:VR w F ρ p u)(hv:VR w F ρ c val)
 (h:cp n H c p=some H'):∃w',(Instr.storeAt t u val).run C.P w=.ok () w'∧HR C ρ F H' w'∧Ext C ρ F H w ρ F H' w'∧o6 C ρ F H H' w w' c.refs:=by
 have hv1:∀ρ1:Map,(ρ1=ρ∨∃N,c.refs≤N∧ρ1=ρ.cut N)→VR w F ρ1 c val:=fun ρ1 h=>by
  rcases h with rfl|⟨N,hN,rfl⟩
  ·exact hv
  ·exact hv.cut N hN
 unfold Instr.storeAt
 unfold cp at h
 split at h
 ·rename_i b bB i o
  simp only[C6]at h
  obtain⟨xs,hxs,h⟩:=h
  obtain⟨q1,q2,_⟩:=ec hxs hv
  have q3:=pF q2 q1
  replace h:=aa h
  obtain⟨hn,h⟩:=h
  have hn:xs.length=n:=by simpa using hn
  ·split at h
   ·rename_i cs hb
    replace h:=aa h
    obtain⟨hi,h⟩:=h
    simp only[Db,D0,Dc]at hi
    ·obtain⟨hi,hle⟩:=hi
     obtain⟨l,vs,ty,fz,hl,k1,k1a,k2,k3,k4,k5,k6,k7,kb⟩:=oX hr hp hb hi
     rw[k3]
     have r:=fM (o:=o) hsz k4 k5 (by omega) (by omega) q3
     have hk:b9 F w (cX w l.bu (ie vs o val.cells.toList) ty fz):=fo hr hb rfl hl k1
     have hsz':(ie vs o val.cells.toList).size=vs.size:=fe (by simp;omega)
     have hlt:l.bu<w.heap.size:=(Dh.1 k4).1
     refine⟨_,by simpa[Instr.sureAddr,Sem.run]using r,oU (fun hy=>(gr hr h hb rfl hl k1 (fun _=>hy))) (fun hy=>lf hr h hb rfl hl k1 hy) (fun ρ1 hρ kb1=>?_)⟩
     obtain⟨g1,g2,g3,g4,g5,vs2,ty2,fz2,j1,j2,j3,j4⟩:=kb1
     rw[k4]at j1;cases j1
     obtain⟨_,q2',_⟩:=ec hxs (hv1 ρ1 hρ)
     refine⟨g1,g2,g3,g4,by rw[eM hn hle];exact g5,_,ty,fz,fb hlt,by rw[hsz'];exact k5,by rw[hsz',eM hn hle];exact k6,?_⟩
     have:=gA (at_:=0) j4 q2' hn q1 hle (by omega)
     rw[Ea]at this
     exact this.mono hk (fun _ h=>h) (Map.le_refl _)
   ·rename_i ver' z L ex hb
    replace h:=aa h
    obtain⟨hve,h⟩:=h
    have hve:bB=ver':=by simpa using hve
    ·subst hve
     split at h
     ·rename_i cs hcs
      replace h:=aa h
      obtain⟨hle,h⟩:=h
      have hle:o+n≤cs.length:=by simpa using hle
      ·skip
       obtain⟨l,vs,ty,fz,hl,k1,k2,k2a,k3,k4,k5,k6,k7,k8,k9,k10,kb⟩:=pq hr hp hb
       rw[k4]
       have hel:=oM hcs (k9 i cs hcs) k8 k7
       have r:=fM (o:=l.base+i*z+o) hsz k5 k6 (by omega) (by omega) q3
       have hk:b9 F w (cX w l.bu (ie vs (l.base+i*z+o) val.cells.toList) ty fz):=fo hr hb rfl hl k1
       have hsz':(ie vs (l.base+i*z+o) val.cells.toList).size=vs.size:=fe (by simp;omega)
       have hlt:l.bu<w.heap.size:=(Dh.1 k5).1
       have hli:=(C7.1 hcs).1
       refine⟨_,by simpa[Instr.sureAddr,Sem.run]using r,oU (fun hy=>(gr hr h hb rfl hl k1 (fun _=>hy))) (fun hy=>lf hr h hb rfl hl k1 hy) (fun ρ1 hρ kb1=>?_)⟩
       obtain⟨g1,g2,g3,g4,g5,g6,g7,g8⟩:=kb1
       obtain⟨vs2,ty2,fz2,j1,j2,j3,j4⟩:=g8 k1
       rw[k5]at j1;cases j1
       obtain⟨_,q2',_⟩:=ec hxs (hv1 ρ1 hρ)
       refine⟨g1,g2,g3,fun j ds hj=>?_,by simpa using g5,by simpa using g6,g7,fun _=>⟨_,ty,fz,fb hlt,by rw[hsz'];exact k6,by rw[hsz'];exact k7,fun j ds hj=>?_⟩⟩
       ·by_cases e1:j=i
        ·subst e1
         simp[hli]at hj
         subst hj
         rw[eM hn hle];exact k9 j cs hcs
        ·rw[Dt (Ne.symm e1)]at hj
         exact g4 j ds hj
       ·by_cases e1:j=i
        ·subst e1
         simp[hli]at hj
         subst hj
         exact(gA (j4 j cs hcs) q2' hn q1 hle hel).mono hk (fun _ h=>h) (Map.le_refl _)
        ·rw[Dt (Ne.symm e1)]at hj
         have hd:=k9 j ds hj
         have hz:=k9 i cs hcs
         refine(gT (n:=0) (j4 j ds hj) (by simp;omega) ?_).mono hk (fun _ h=>h) (Map.le_refl _)
         simp only[EM]
         rcases FG e1 with hlt'|hlt'
         ·left
          have:(j+1)*z≤i*z:=DO z hlt'
          rw[DW,EF]at this
          omega
         ·right
          have:(i+1)*z≤j*z:=DO z hlt'
          rw[DW,EF]at this
          omega
     ·cases h
   ·cases h
 ·cases h
theorem q9{t:TypeId}{n:Nat}{x y:Operand}{x' y':bj}(hsz:dC C.P t=some n)(hx:aR x=some x')(hy:aR y=some y')(hr:HR C ρ F H w)(he:ER w F ρ e a.tmps)
 (h:cp n H (ev e y') (ev e x')=some H'):aW C (do Instr.storeAt t (a.eval x) (a.eval y);pure .skip) ρ F H w .undef H':=by
 obtain⟨w',h1,h2,h3,_⟩:=nD hsz hr (aC hx he) (aC hy he) h
 exact⟨undef,w',.inr ⟨by simp[h1,pure,Sem.run],rfl⟩,ρ,F,.undef _,h2,h3⟩
end
end
section
section
variable{C:Ctx}{ρ:Map}{F:Nat→Prop}{H H':ab}{w:World}{e:Env}{a:Act}{s c d:SV}
theorem lQ(hr:HR C ρ F H w){b bB i o:Nat}{v:Value}(hc:cur H (.ptr b bB i o)=true)(hv:VR w F ρ (.ptr b bB i o) v) :
 ∃l,ρ b=some l∧bB=l.bB∧l.aU=false∧v=.pointer (some ⟨l.bu,l.base+i*l.a8+o,none⟩):=by
 have key:∀l,ρ b=some l→bB=l.bB→∃l,ρ b=some l∧bB=l.bB∧l.aU=false∧v=.pointer (some ⟨l.bu,l.base+i*l.a8+o,none⟩):=by
  intro l hl hve
  cases hv with
  |ptr h h1 h2 h3=>
   rw[hl]at h;cases h
   obtain⟨k1,k2⟩:=h3 hve
   exact⟨l,hl,hve,k1,k2⟩
 unfold cur at hc
 split at hc
 ·rename_i b' v' i' o' heq
  cases heq
  split at hc
  ·rename_i cs hb
   obtain⟨l,hl,hbr⟩:=hr.live b _ hb rfl
   refine key l hl ?_
   cases hv with
   |ptr h h1 h2 h3=>rw[hl]at h;cases h;have:=hbr.2.2.2.1;omega
  ·rename_i v'' z L ex hb
   obtain⟨l,hl,hbr⟩:=hr.live b _ hb rfl
   refine key l hl ?_
   have:=hbr.2.1
   simp at hc;omega
  ·cases hc
 ·rename_i heq;cases heq
 ·rename_i hne _;exact absurd rfl (hne b bB i o)
theorem ct(hr:HR C ρ F H w){b bB off n:Nat}{v:Value}(hc:cur H (.bt b bB off n)=true)(hv:VR w F ρ (.bt b bB off n) v) :
 ∃l z L ex,ρ b=some l∧aQ H b=some (.arr bB z L ex)∧BR C w F ρ l (.arr bB z L ex)∧(l.aU=true→∃a,v=.slice a 0 0∧off=0∧n=0)∧
  (l.aU=false→off+n≤l.cap∧∃a,v=.slice a n (l.cap-off)∧(off<l.cap→a=some ⟨l.bu,l.base+off*l.a8,none⟩)):=by
 unfold cur at hc
 split at hc
 ·rename_i heq;cases heq
 ·rename_i b' v' o' n' heq
  cases heq
  split at hc
  ·rename_i v'' z L ex hb
   simp at hc
   subst hc
   obtain⟨l,hl,hbr⟩:=hr.live b _ hb rfl
   cases hv with
   |bt h h1 h2 h3=>
    rw[hl]at h;cases h
    obtain⟨k1,k2⟩:=h3 hbr.2.1.symm
    exact⟨l,z,L,ex,hl,hb,hbr,k1,k2⟩
  ·cases hc
 ·rename_i hne;exact absurd rfl (hne b bB off n)
theorem iJ{z:Nat}(h:cq H z c=true):cur H c=true:=by
 unfold cq at h
 split at h
 ·unfold cur
  split at h
  ·rename_i hb;simp only[hb];simp at h;simpa using h.1
  ·cases h
 ·rfl
 ·cases h
theorem pX{x:Operand}{y:bj}(hx:aR x=some y)(hr:HR C ρ F H w)(he:ER w F ρ e a.tmps)(o:Oper)(ho:o.op=.nilCheck x)
 (h:bn e H (.eO y)=some (s,H')):aW C (execOp a.eval o) ρ F H w s H':=by
 have hv:=aC hx he
 simp only[bn]at h
 replace h:=aa h;obtain⟨hc,h⟩:=h
 simp only[C5,Df]at h
 obtain⟨s',h,rfl,rfl⟩:=h
 suffices hs:∃u,a.eval x=.pointer (some u)∧s'=ev e y by
  obtain⟨u,hu,rfl⟩:=hs
  refine⟨a.eval x,w,.inl ?_,bX.same hr hv⟩
  unfold execOp
  simp only[ho,hu]
  rfl
 generalize ev e y=c at *
 generalize a.eval x=u at *
 unfold lT at h
 split at h
 ·cases h
  obtain⟨l,_,_,_,rfl⟩:=lQ hr hc hv
  exact⟨_,rfl,rfl⟩
 ·cases h
  cases hv
  exact⟨_,rfl,rfl⟩
 ·cases h
theorem iq{op:BinOp}{t:TypeId}{x y:Operand}{u v:Value}(hu:fJ u=true)(hn:u≠.nilIface):(eqGuard op t x y u v).run C.P w=.ok () w:=by
 unfold eqGuard
 cases op<;>simp<;>(try rfl)<;>(cases u<;>first|rfl|exact absurd rfl hn|(simp[fJ]at hu;done))
theorem mn{op:BinOp}{t:TypeId}{x y:Operand}{u v:Value}(hu:fJ u=true)(hn:u≠.nilIface){val:Value}(hr:HR C ρ F H w)(h:(binOp op t u v).run C.P w=.ok val w)(hs:VR w F ρ s val) :
 aW C (do pure (.value (←(do eqGuard op t x y u v;binOp op t u v)))) ρ F H w s H:=by
 refine aW.val hr ?_ hs
 simp only[Sem.run_bind,iq hu hn,Result.andThen,h]
theorem tC{op:BinOp}{t:TypeId}{k k2:IntKind}{p q:Int}(h:cJ op (.int k p) (.int k2 q)=some s):∃val,(binOp op t (.int k p) (.int k2 q)).run C.P w=.ok val w∧VR w F ρ s val:=by
 cases op<;>simp only[cJ]at h<;>(try (cases h;done))<;>(replace h:=aa h)<;>(obtain⟨hc,h⟩:=h)<;>(try simp only[Db,D0,D7,Di,Dc]at hc) <;>
  simp only[Dd]at h<;>subst h
 case add=>subst hc;exact⟨_,by simp[binOp,Op.intArith,Sem.run,pure],.int _ _⟩
 case sub=>subst hc;exact⟨_,by simp[binOp,Op.intArith,Sem.run,pure],.int _ _⟩
 case mul=>subst hc;exact⟨_,by simp[binOp,Op.intArith,Sem.run,pure],.int _ _⟩
 case quo=>obtain⟨rfl,hq⟩:=hc;exact⟨_,by simp[binOp,Op.intDiv,hq,Sem.run,pure],.int _ _⟩
 case rem=>obtain⟨rfl,hq⟩:=hc;exact⟨_,by simp[binOp,Op.intDiv,hq,Sem.run,pure],.int _ _⟩
 case and=>subst hc;exact⟨_,by simp[binOp,Op.intBits,Sem.run,pure],.int _ _⟩
 case or=>subst hc;exact⟨_,by simp[binOp,Op.intBits,Sem.run,pure],.int _ _⟩
 case xor=>subst hc;exact⟨_,by simp[binOp,Op.intBits,Sem.run,pure],.int _ _⟩
 case shl=>exact⟨_,by simp[binOp,Op.shift,Int.not_lt.2 hc,Sem.run,pure],.int _ _⟩
 case shr=>exact⟨_,by simp[binOp,Op.shift,Int.not_lt.2 hc,Sem.run,pure],.int _ _⟩
 case lss=>subst hc;exact⟨_,by simp[binOp,Op.intCmp,Sem.run,pure],.bool _⟩
 case leq=>subst hc;exact⟨_,by simp[binOp,Op.intCmp,Sem.run,pure],.bool _⟩
 case gtr=>subst hc;exact⟨_,by simp[binOp,Op.intCmp,Sem.run,pure],.bool _⟩
 case geq=>subst hc;exact⟨_,by simp[binOp,Op.intCmp,Sem.run,pure],.bool _⟩
 case eql=>subst hc;refine⟨.bool (p==q),by simp[binOp,Op.intCmp,Sem.run,pure],?_⟩;rw[show decide (p=q)=(p==q) by by_cases h:p=q<;>simp[h]];exact .bool _
 case neq=>subst hc;refine⟨.bool (p != q),by simp[binOp,Op.intCmp,Sem.run,pure],?_⟩;rw[show(!decide (p=q))=(p != q) by by_cases h:p=q<;>simp[h,bne]];exact .bool _
end
end
section
section
variable{C:Ctx}{ρ:Map}{F:Nat→Prop}{H H':ab}{w:World}{e:Env}{a:Act}{s c d:SV}
theorem kc(p q:ByteArray):(p.toList==q.toList)=decide (p=q):=by
 have h:∀x:ByteArray,x.toList=x.data.toList:=fun x=>by
  simp[ByteArray.toList_eq]
 rw[h,h]
 by_cases e:p=q
 ·subst e;simp
 ·have:p.data.toList≠q.data.toList:=fun h=>e (by cases p;cases q;simp at h;rw[h])
  simp[e]
  exact fun h=>this (by rw[h])
theorem tj{op:BinOp}{t:TypeId}{p q:ByteArray}(h:cJ op (.str p) (.str q)=some s):∃val,(binOp op t (.string p) (.string q)).run C.P w=.ok val w∧VR w F ρ s val:=by
 cases op<;>simp only[cJ]at h<;>(try (cases h;done))
 case add=>
  replace h:=aa h
  obtain⟨hc,h⟩:=h
  cases h
  simp at hc
  refine⟨_,?_,.str _⟩
  have:¬((p.size+q.size:Nat):Int)>IntKind.i64.max:=by
   have:IntKind.i64.max=9223372036854775807:=by decide
   omega
  simp only[binOp,Op.stringOp,if_neg this]
  rfl
 case eql=>cases h;exact⟨_,by simp[binOp,Op.stringOp,kc,Sem.run,pure],.bool _⟩
 case neq=>cases h;exact⟨_,by simp[binOp,Op.stringOp,kc,Sem.run,pure],.bool _⟩
theorem sK{op:BinOp}{t:TypeId}{p q:Bool}(ht:C.P.underlying t=some .bool)(h:ju op (.bool p) (.bool q)=some s):∃val,(binOp op t (.bool p) (.bool q)).run C.P w=.ok val w∧VR w F ρ s val:=by
 have he:(Op.equal t (.bool p) (.bool q)).run C.P w=.ok (p==q) w:=by
  have h1:∀d,(Op.equalIn (d+1) t (.bool p) (.bool q)).run C.P w=.ok (p==q) w:=fun d=>by
   simp only[Op.equalIn,Sem.run_bind,run_underlying ht,Result.andThen]
   rfl
  exact h1 9999
 cases op<;>simp only[ju]at h<;>(try (cases h;done))
 case eql=>cases h;exact⟨_,by simp[binOp,he],.bool _⟩
 case neq=>cases h;exact⟨_,by simp[binOp,he],.bool _⟩
theorem oH{op:BinOp}(h:cJ op c d=some s):(∃k p k2 q,c=.int k p∧d=.int k2 q)∨(∃p q,c=.str p∧d=.str q):=by
 unfold cJ at h
 split at h<;>first|exact .inl ⟨_,_,_,_,rfl,rfl⟩|exact .inr ⟨_,_,rfl,rfl⟩|(cases h;done)
theorem sA{op:BinOp}{t:TypeId}{x y:Operand}{x' y':bj}(hx:aR x=some x')(hy:aR y=some y')
 (hr:HR C ρ F H w) (he:ER w F ρ e a.tmps) (h:cJ op (ev e x') (ev e y')=some s) :
 aW C (do pure (.value (←(do eqGuard op t x y (a.eval x) (a.eval y);binOp op t (a.eval x) (a.eval y))))) ρ F H w s H:=by
 have h1:=aC hx he
 have h2:=aC hy he
 generalize ev e x'=c at *
 generalize ev e y'=d at *
 rcases oH h with⟨k,p,k2,q,rfl,rfl⟩|⟨p,q,rfl,rfl⟩
 ·rw[dz h1,dz h2]
  obtain⟨val,r1,r2⟩:=tC (C:=C) (w:=w) (F:=F) (ρ:=ρ) (t:=t) h
  exact mn rfl (by simp) hr r1 r2
 ·rw[fy h1,fy h2]
  obtain⟨val,r1,r2⟩:=tj (C:=C) (w:=w) (F:=F) (ρ:=ρ) (t:=t) h
  exact mn rfl (by simp) hr r1 r2
theorem tk{op:BinOp}{t:TypeId}{x y:Operand}{x' y':bj}(hx:aR x=some x')(hy:aR y=some y')
 (hr:HR C ρ F H w) (he:ER w F ρ e a.tmps) (hb2:C.P.underlying t=some .bool) (h:ju op (ev e x') (ev e y')=some s) :
 aW C (do pure (.value (←(do eqGuard op t x y (a.eval x) (a.eval y);binOp op t (a.eval x) (a.eval y))))) ρ F H w s H:=by
 have h1:=aC hx he
 have h2:=aC hy he
 generalize ev e x'=c at *
 generalize ev e y'=d at *
 have hk:∃p q,c=.bool p∧d=.bool q:=by
  unfold ju at h
  split at h<;>first|exact⟨_,_,rfl,rfl⟩|(cases h;done)
 obtain⟨p,q,rfl,rfl⟩:=hk
 rw[cI h1,cI h2]
 obtain⟨val,r1,r2⟩:=sK (w:=w) (F:=F) (ρ:=ρ) hb2 h
 exact mn rfl (by simp) hr r1 r2
theorem tg{t:TypeId}{x:Operand}{y:bj}(hx:aR x=some y)(hr:HR C ρ F H w)(he:ER w F ρ e a.tmps){b:Bool}(h:ev e y=.bool b) :
 aW C (do pure (.value (←Op.unary .not (a.eval x)))) ρ F H w (.bool (!b)) H:=by
 have h1:=aC hx he
 rw[h]at h1
 rw[cI h1]
 exact aW.val hr (val:=.bool (!b)) rfl (.bool _)
theorem tO{x:Operand}{y:bj}(hx:aR x=some y)(hr:HR C ρ F H w)(he:ER w F ρ e a.tmps){k:IntKind}{n:Int}(h:ev e y=.int k n) :
 aW C (do pure (.value (←Op.unary .neg (a.eval x)))) ρ F H w (.int k (k.wrap (0-n))) H:=by
 have h1:=aC hx he
 rw[h]at h1
 rw[dz h1]
 exact aW.val hr (val:=.int k (k.wrap (0-n))) rfl (.int _ _)
theorem qP{sr ds:TypeId}{k j:IntKind}{x:Operand}{y:bj}(hx:aR x=some y)(hs:C.P.underlying sr=some (.int j))(hd:C.P.underlying ds=some (.int k))(hr:HR C ρ F H w)(he:ER w F ρ e a.tmps)
 {k':IntKind} {n:Int} (h:ev e y=.int k' n):aW C (do pure (.value (←convert sr ds (a.eval x)))) ρ F H w (.int k (k.wrap n)) H:=by
 have h1:=aC hx he
 rw[h]at h1
 rw[dz h1]
 refine aW.val hr (val:=.int k (k.wrap n)) ?_ (.int _ _)
 unfold convert
 simp only[Sem.run_bind,run_underlying hs,run_underlying hd,Result.andThen]
 rfl
theorem rC{sr ds:TypeId}{x:Operand}{y:bj}(hx:aR x=some y)(hs:C.P.underlying sr=some .string)(hd:C.P.underlying ds=some .string)(hr:HR C ρ F H w)(he:ER w F ρ e a.tmps)
 {t:ByteArray} (h:ev e y=.str t):aW C (do pure (.value (←convert sr ds (a.eval x)))) ρ F H w (.str t) H:=by
 have h1:=aC hx he
 rw[h]at h1
 rw[fy h1]
 refine aW.val hr (val:=.string t) ?_ (.str _)
 unfold convert
 simp only[Sem.run_bind,run_underlying hs,run_underlying hd,Result.andThen]
 rfl
theorem tx{f:FuncId}{fs cs:Array Operand}{cs':List bj}(hf:fs.isEmpty=true)(hx:eX cs=some cs')(hr:HR C ρ F H w)(he:ER w F ρ e a.tmps) :
 aW C (do pure (.value (←Instr.makeFunc (.func f) (fs.map a.eval) (cs.map a.eval)))) ρ F H w (.fn f (cs'.map (ev e))) H:=by
 obtain⟨h1,h2⟩:=eS hx he
 have:fs.map a.eval= #[]:=by
  have:fs= #[]:=by simpa using hf
  subst this;simp
 rw[this]
 exact aW.val hr (val:=.func (.func f) #[] (cs.map a.eval)) rfl (.fn (by simpa using h1) h2)
theorem re{f:FuncId}{fs cs:Array Operand}{cs':List bj}(hf:cs.isEmpty=true)(hx:eX fs=some cs')(hr:HR C ρ F H w)(he:ER w F ρ e a.tmps) :
 aW C (do pure (.value (←Instr.makeFunc (.func f) (fs.map a.eval) (cs.map a.eval)))) ρ F H w (.mf f (cs'.map (ev e))) H:=by
 obtain⟨h1,h2⟩:=eS hx he
 have:cs.map a.eval= #[]:=by
  have:cs= #[]:=by simpa using hf
  subst this;simp
 rw[this]
 exact aW.val hr (val:=.func (.func f) (fs.map a.eval) #[]) rfl (.mf (by simpa using h1) h2)
theorem jx{t:TypeId}{fs:List Field}{i:Nat}{f:Field}(h:gl C.P t=some fs)(hf:fs[i]?=some f):∃gs,C.P.underlying t=some (.struct gs)∧gs[i]?=some f:=by
 unfold gl at h
 split at h
 ·rename_i gs hu
  cases h
  exact⟨gs,hu,by simpa using hf⟩
 ·cases h
theorem mX{off:Nat}{v:Value}(hr:HR C ρ F H w)(hc:cur H c=true)(hv:VR w F ρ c v)(h:dx off c=some s) :
 ∃B o,v=.pointer (some ⟨B,o,none⟩)∧VR w F ρ s (.pointer (some ⟨B,o+off,none⟩)):=by
 unfold dx at h
 split at h
 ·rename_i b bB i o
  cases h
  obtain⟨l,h1,h2,h3,rfl⟩:=lQ hr hc hv
  exact⟨_,_,rfl,.ptr h1 (by omega) rfl (fun _=>⟨h3,by rw[Da]⟩)⟩
 ·rename_i cs
  cases h
  cases hv with
  |dy V hF hk h1 hv=>
   refine⟨_,_,rfl,.dy (fun j=>V (off+j)) hF (fun j c hj=>?_) (fun j c hj=>?_) (fun j c hj=>?_)⟩<;>rw[Dx]at hj
   ·rw[Da];exact hk _ c hj
   ·exact h1 _ c hj
   ·exact hv _ c hj
 ·cases h
theorem rm{t:TypeId}{i n:Nat}{fs:List Field}{f:Field}{x:Operand}{y:bj}(hx:aR x=some y)(hfs:gl C.P t=some fs)(hf:fs[i]?=some f)(hn:dC C.P f.type=some (n+1))
 (hr:HR C ρ F H w) (he:ER w F ρ e a.tmps) (hc:cur H (ev e y)=true) (h:dx f.offset (ev e y)=some s):aW C (do pure (.value (←Instr.fieldAt t (a.eval x) i))) ρ F H w s H:=by
 obtain⟨gs,h1,h2⟩:=jx hfs hf
 obtain⟨B,o,h3,h4⟩:=mX hr hc (aC hx he) h
 refine aW.val hr ?_ h4
 unfold Instr.fieldAt
 simp only[Sem.run_bind,run_underlying h1,Result.andThen,h2,h3,Instr.sureAddr,fieldPlace,a0 hn]
 simp[Sem.run,pure,bP]
theorem rO{t:TypeId}{i n:Nat}{ag:Bool}{fs:List Field}{f:Field}{x:Operand}{y:bj}{cs:List SV}(hx:aR x=some y)(hfs:gl C.P t=some fs)(hf:fs[i]?=some f)(hag:fh C.P f.type=some ag)
 (hn:dC C.P f.type=some n) (hr:HR C ρ F H w) (he:ER w F ρ e a.tmps) (hc:ev e y=.agg cs) (h:bN ag n cs f.offset=some s):aW C (do pure (.value (←Instr.field t (a.eval x) i))) ρ F H w s H:=by
 obtain⟨gs,h1,h2⟩:=jx hfs hf
 have hv:=aC hx he
 rw[hc]at hv
 obtain⟨vs,h3,h4,h5⟩:=c0 hv
 obtain⟨p1,p2⟩:=kq h h5 (by omega)
 suffices hs:∃val,(part f.type vs f.offset).run C.P w=.ok val w∧VR w F ρ s val by
  obtain⟨val,r1,r2⟩:=hs
  refine aW.val hr ?_ r2
  unfold Instr.field
  simp only[Sem.run_bind,run_underlying h1,Result.andThen,h2,h3,asAgg]
  simpa[Sem.run,pure]using r1
 unfold part
 cases ag with
 |true=>
  refine⟨_,by simp only[Sem.run_bind,cS hag,Result.andThen,if_true,a0 hn];rfl,by simpa using p1 rfl⟩
 |false=>
  obtain⟨v,k1,k2⟩:=p2 rfl
  rw[Ea]at k1
  refine⟨v,by simp only[Sem.run_bind,cS hag,Result.andThen,Dp,if_false,k1];rfl,k2⟩
theorem og{x:Operand}{y:bj}{vs:List SV}{i:Nat}(hx:aR x=some y)(hr:HR C ρ F H w)(he:ER w F ρ e a.tmps)(hc:ev e y=.cG vs)(h:vs[i]?=some s) :
 aW C (do pure (.value (←Instr.extract (a.eval x) i))) ρ F H w s H:=by
 have hv:=aC hx he
 rw[hc]at hv
 generalize a.eval x=u at *
 cases hv with
 |cG hn hv=>
  rename_i us
  have hlt:=(C7.1 h).1
  have hu:us[i]?=some us[i]:=D9 (by omega)
  refine aW.val hr (val:=us[i]) ?_ (hv i s _ h hu)
  simp only[Instr.extract,hu]
  rfl
theorem iz{n i:Nat}{v:Value}(h:fQ n c=some i)(hv:VR w F ρ c v):∃k j,v=.int k j∧0≤j∧j<n∧i=j.toNat:=by
 unfold fQ at h
 split at h
 ·rename_i k j
  replace h:=aa h
  obtain⟨hc,h⟩:=h
  cases h
  simp at hc
  exact⟨k,j,dz hv,hc.1,hc.2,rfl⟩
 ·cases h
theorem pP{t el:TypeId}{len n i:Nat}{x ix:Operand}{x' i':bj}(hx:aR x=some x')(hi:aR ix=some i')(hu:C.P.underlying t=some (.array len el))(hn:dC C.P el=some (n+1))
 (hr:HR C ρ F H w) (he:ER w F ρ e a.tmps) (hc:cur H (ev e x')=true) (h1:fQ len (ev e i')=some i) (h:dx (i*(n+1)) (ev e x')=some s) :
 aW C (do pure (.value (←Instr.indexAt t (a.eval x) (a.eval ix)))) ρ F H w s H:=by
 obtain⟨B,o,h3,h4⟩:=mX hr hc (aC hx he) h
 obtain⟨k,j,h5,h6,h7,rfl⟩:=iz h1 (aC hi he)
 refine aW.val hr ?_ h4
 unfold Instr.indexAt
 simp only[Sem.run_bind,h5,asIntOf,run_underlying hu,Result.andThen,h3,Instr.sureAddr]
 simp only[pure,Sem.run,Result.andThen,h6,h7,and_self,if_true,Sem.run_bind,a0 hn,bP]
theorem qb{t el:TypeId}{n:Nat}{x ix:Operand}{x' i':bj}(hx:aR x=some x')(hi:aR ix=some i')(hu:C.P.underlying t=some (.slice el))(hn:dC C.P el=some (n+1))
 (hr:HR C ρ F H w) (he:ER w F ρ e a.tmps) (hc:cq H (n+1) (ev e x')=true) (h:eN (ev e x') (ev e i')=some s) :
 aW C (do pure (.value (←Instr.indexAt t (a.eval x) (a.eval ix)))) ρ F H w s H:=by
 have hv:=aC hx he
 have hvi:=aC hi he
 generalize ev e x'=c at *
 generalize ev e i'=d at *
 suffices hs:∃B o len cap k j,a.eval x=.slice (some ⟨B,o,none⟩) len cap∧a.eval ix=.int k j∧0≤j∧j<len∧VR w F ρ s (.pointer (some ⟨B,o+j.toNat*(n+1),none⟩)) by
  obtain⟨B,o,len,cap,k,j,h1,h2,h3,h4,h5⟩:=hs
  refine aW.val hr ?_ h5
  unfold Instr.indexAt
  simp only[Sem.run_bind,h2,asIntOf,run_underlying hu,Result.andThen,h1,Instr.sureAddr]
  simp only[pure,Sem.run,Result.andThen,h3,h4,and_self,if_true,Sem.run_bind,a0 hn,bP]
 generalize a.eval x=u at *
 unfold eN at h
 split at h
 ·rename_i z L f
  simp only[C6,C5]at h
  obtain⟨i,hi',cs,hcs,rfl⟩:=h
  obtain⟨k,j,h5,h6,h7,rfl⟩:=iz hi' hvi
  cases hv with
  |aP V hcap hfull hz hat h1 hv=>
   have hzn:z=n+1:=by
    unfold cq at hc
    simp at hc
    rcases hc with hc|hc
    ·exact hc
    ·subst hc;simp at hcs
   subst hzn
   rcases hat with h0|⟨B,o,ha,hF,hk⟩
   ·subst h0;simp at hcs
   ·subst ha
    exact⟨B,o,_,_,k,j,rfl,h5,h6,h7,.dy (fun q=>V j.toNat q) hF (fun q c hq=>hk _ q cs c hcs hq) (fun q c hq=>h1 _ q cs c hcs hq) (fun q c hq=>hv _ q cs c hcs hq)⟩
 ·rename_i b bB off m
  simp only[C5]at h
  obtain⟨i,hi',rfl⟩:=h
  obtain⟨k,j,h5,h6,h7,rfl⟩:=iz hi' hvi
  obtain⟨l,z,L,ex,hl,hb,hbr,g1,g2⟩:=ct hr (iJ hc) hv
  have hzn:z=n+1:=by
   unfold cq at hc
   simp[hb]at hc
   exact hc
  subst hzn
  cases hvi':l.aU with
  |true=>
   obtain⟨_,_,_,rfl⟩:=g1 hvi'
   simp at h7;omega
  |false=>
   obtain⟨g3,q,rfl,g4⟩:=g2 hvi'
   have:=g4 (by omega)
   subst this
   refine⟨_,_,_,_,k,j,rfl,h5,h6,h7,.ptr hl (ED hbr.2.1.symm) rfl (fun _=>⟨hvi',?_⟩)⟩
   have e1:l.a8=n+1:=hbr.2.2.1
   rw[e1,DW]
   congr 3
   simp[Da]
 ·cases h
end
end
section
section
variable{C:Ctx}{ρ:Map}{F:Nat→Prop}{H H':ab}{w:World}{e:Env}{a:Act}{s c d:SV}
theorem pM{t el:TypeId}{len n i:Nat}{ag:Bool}{x ix:Operand}{x' i':bj}{cs:List SV}(hx:aR x=some x')(hi:aR ix=some i')(hu:C.P.underlying t=some (.array len el))(hag:fh C.P el=some ag)(hn:dC C.P el=some n)
 (hr:HR C ρ F H w) (he:ER w F ρ e a.tmps) (hc:ev e x'=.agg cs) (h1:fQ len (ev e i')=some i) (h:bN ag n cs (i*n)=some s) :
 aW C (do pure (.value (←Instr.index t (a.eval x) (a.eval ix)))) ρ F H w s H:=by
 have hv:=aC hx he
 rw[hc]at hv
 obtain⟨vs,h3,h4,h5⟩:=c0 hv
 obtain⟨k,j,k5,k6,k7,rfl⟩:=iz h1 (aC hi he)
 obtain⟨p1,p2⟩:=kq h h5 (by omega)
 suffices hs:∃val,(part el vs (j.toNat*n)).run C.P w=.ok val w∧VR w F ρ s val by
  obtain⟨val,r1,r2⟩:=hs
  refine aW.val hr ?_ r2
  unfold Instr.index
  simp only[Sem.run_bind,k5,asIntOf,run_underlying hu,Result.andThen,h3]
  simp only[pure,Sem.run,Result.andThen,k6,k7,and_self,if_true,Sem.run_bind,a0 hn]
  exact r1
 unfold part
 cases ag with
 |true=>exact⟨_,by simp only[Sem.run_bind,cS hag,Result.andThen,if_true,a0 hn];rfl,by simpa using p1 rfl⟩
 |false=>
  obtain⟨v,k1,k2⟩:=p2 rfl
  rw[Ea]at k1
  exact⟨v,by simp only[Sem.run_bind,cS hag,Result.andThen,Dp,if_false,k1];rfl,k2⟩
theorem qk{t:TypeId}{i:Nat}{x ix:Operand}{x' i':bj}{b:ByteArray}{y:UInt8}(hx:aR x=some x')(hi:aR ix=some i')(hu:C.P.underlying t=some .string)
 (hr:HR C ρ F H w) (he:ER w F ρ e a.tmps) (hc:ev e x'=.str b) (h1:fQ b.size (ev e i')=some i) (h:b.data[i]?=some y) :
 aW C (do pure (.value (←Instr.index t (a.eval x) (a.eval ix)))) ρ F H w (.int .u8 y.toNat) H:=by
 have hv:=aC hx he
 rw[hc]at hv
 obtain⟨k,j,k5,k6,k7,rfl⟩:=iz h1 (aC hi he)
 have hb:b[j.toNat]?=some y:=by
  obtain⟨hlt,hv'⟩:=Dh.1 h
  have hlt':j.toNat<b.size:=hlt
  rw[getElem?_pos b j.toNat hlt']
  exact congrArg some hv'
 refine aW.val hr (val:=.int .u8 y.toNat) ?_ (.int _ _)
 unfold Instr.index
 simp only[Sem.run_bind,k5,asIntOf,run_underlying hu,Result.andThen,fy hv]
 simp only[pure,Sem.run,Result.andThen,k6,if_true,hb]
theorem tG{ats:Array TypeId}{t0 ty:TypeId}{x:Operand}{y:bj}{b:ByteArray}(hx:aR x=some y)(h0:ats[0]?=some t0)(hu:C.P.underlying t0=some .string)(hr:HR C ρ F H w)(he:ER w F ρ e a.tmps)(hc:ev e y=.str b) :
 aW C (do pure (.value (←Builtin.len_ ats ty #[a.eval x]))) ρ F H w (.int .i64 b.size) H:=by
 have hv:=aC hx he
 rw[hc]at hv
 refine aW.val hr (val:=.int .i64 b.size) ?_ (.int _ _)
 unfold Builtin.len_
 simp only[h0]
 simp[run_underlying hu,fy hv,goInt]
theorem tT{n:Nat}{v:Value}(hr:HR C ρ F H w)(hc:cur H c=true)(h:jG c=some n)(hv:VR w F ρ c v):∃q cap,v=.slice q n cap:=by
 unfold jG at h
 split at h
 ·cases h
  cases hv
  exact⟨_,_,rfl⟩
 ·cases h
  obtain⟨l,z,L,ex,_,_,_,g1,g2⟩:=ct hr hc hv
  cases hvi:l.aU with
  |true=>obtain⟨q,rfl,_,rfl⟩:=g1 hvi;exact⟨_,_,rfl⟩
  |false=>obtain⟨_,q,rfl,_⟩:=g2 hvi;exact⟨_,_,rfl⟩
 ·cases h
theorem tf{ats:Array TypeId}{t0 el ty:TypeId}{x:Operand}{y:bj}{n:Nat}(hx:aR x=some y)(h0:ats[0]?=some t0)(hu:C.P.underlying t0=some (.slice el))(hr:HR C ρ F H w)(he:ER w F ρ e a.tmps)
 (hc:cur H (ev e y)=true) (h:jG (ev e y)=some n):aW C (do pure (.value (←Builtin.len_ ats ty #[a.eval x]))) ρ F H w (.int .i64 n) H:=by
 obtain⟨q,cap,hq⟩:=tT hr hc h (aC hx he)
 refine aW.val hr (val:=.int .i64 n) ?_ (.int _ _)
 unfold Builtin.len_
 simp only[h0]
 simp[run_underlying hu,hq,goInt]
theorem tF{ats:Array TypeId}{t0 el ty:TypeId}{x:Operand}{n:Nat}(h0:ats[0]?=some t0)(hu:C.P.underlying t0=some (.array n el))(hr:HR C ρ F H w) :
 aW C (do pure (.value (←Builtin.len_ ats ty #[a.eval x]))) ρ F H w (.int .i64 n) H:=by
 refine aW.val hr (val:=.int .i64 n) ?_ (.int _ _)
 unfold Builtin.len_
 simp only[h0]
 simp[run_underlying hu,goInt]
theorem ql{f:Int→Int→Int}{g:Value→Value→Sem Value}(hg:∀k x k2 y,g (.int k x) (.int k2 y)=pure (.int k (f x y))) :
 ∀(cs:List SV) (vs:List Value) (x:Int) (k:IntKind) (s:SV),cs.length=vs.length→(∀(j:Nat) c v,cs[j]?=some c→vs[j]?=some v→VR w F ρ c v)→foldI f x k cs=some s→
 ∃n,s=.int k n∧(vs.foldlM g (.int k x)).run C.P w=.ok (.int k n) w:=by
 intro cs
 induction cs with
 |nil=>
  intro vs x k s hn _ h
  simp[foldI]at h
  subst h
  cases vs with
  |nil=>exact⟨x,rfl,rfl⟩
  |cons _ _=>simp at hn
 |cons c cs ih=>
  intro vs x k s hn hv h
  cases vs with
  |nil=>simp at hn
  |cons v vs=>
   cases c<;>simp only[foldI]at h<;>(try (cases h;done))
   rename_i k2 y
   replace h:=aa h
   obtain⟨_,h⟩:=h
   have h0:=dz (hv 0 _ v rfl rfl)
   subst h0
   obtain⟨n,rfl,hrun⟩:=ih vs (f x y) k s (by simpa using hn) (fun j c v hc hv'=>hv (j+1) c v (by simpa using hc) (by simpa using hv')) h
   refine⟨n,rfl,?_⟩
   simp only[FL,Sem.run_bind,hg]
   exact hrun
theorem kV{f:Int→Int→Int}{g:Value→Value→Sem Value}(hg:∀k x k2 y,g (.int k x) (.int k2 y)=pure (.int k (f x y))){xs:Array Operand}{ys:List bj}(hx:eX xs=some ys)(he:ER w F ρ e a.tmps)
 (h:j5 f (ys.map (ev e))=some s):∃k n x r,s=.int k n∧(xs.map a.eval).toList=x::r∧(r.foldlM g x).run C.P w=.ok (.int k n) w:=by
 obtain⟨h1,h2⟩:=eS hx he
 generalize ys.map (ev e)=cs at *
 cases cs with
 |nil=>simp[j5]at h
 |cons c cs=>
  cases c<;>simp only[j5]at h<;>(try (cases h;done))
  rename_i k x
  cases hl:(xs.map a.eval).toList with
  |nil=>simp at hl;subst hl;simp at h1
  |cons v vs=>
   have hg':∀j:Nat,(xs.map a.eval)[j]?=(v::vs)[j]?:=fun j=>by rw[←hl];simp
   have h0:=dz (h2 0 _ v rfl (by rw[hg'];rfl))
   subst h0
   have hlen:=congrArg List.length hl
   obtain⟨n,rfl,hrun⟩:=ql (C:=C) (w:=w) (F:=F) (ρ:=ρ) hg cs vs x k s (by simp at h1 hlen;omega) (fun j c v hc hv=>h2 (j+1) c v (by simpa using hc) (by rw[hg'];simpa using hv)) h
   exact⟨k,n,_,_,rfl,rfl,hrun⟩
theorem vb{ats:Array TypeId}{ty:TypeId}{xs:Array Operand}{ys:List bj}(hx:eX xs=some ys)(hr:HR C ρ F H w)(he:ER w F ρ e a.tmps)
 (h:j5 (fun a b=>if b>a then b else a) (ys.map (ev e))=some s):aW C (do pure (.value (←Builtin.max_ ats ty (xs.map a.eval)))) ρ F H w s H:=by
 obtain⟨k,n,x,r,rfl,h1,h2⟩:=kV (C:=C) (g:=Builtin.max2) (fun _ _ _ _=>rfl) hx he h
 refine aW.val hr ?_ (.int k n)
 unfold Builtin.max_
 simp only[h1]
 exact h2
theorem vc{ats:Array TypeId}{ty:TypeId}{xs:Array Operand}{ys:List bj}(hx:eX xs=some ys)(hr:HR C ρ F H w)(he:ER w F ρ e a.tmps)
 (h:j5 (fun a b=>if b<a then b else a) (ys.map (ev e))=some s):aW C (do pure (.value (←Builtin.min_ ats ty (xs.map a.eval)))) ρ F H w s H:=by
 obtain⟨k,n,x,r,rfl,h1,h2⟩:=kV (C:=C) (g:=Builtin.min2) (fun _ _ _ _=>rfl) hx he h
 refine aW.val hr ?_ (.int k n)
 unfold Builtin.min_
 simp only[h1]
 exact h2
theorem fR{y n:Nat}{v:Value}{code:BoundsCode}(h:m9 y c=some n)(hv:VR w F ρ c v):n≤y∧∀z,y≤z→(Instr.sliceBound v z code).run C.P w=.ok n w:=by
 unfold m9 at h
 split at h
 ·rename_i k j
  replace h:=aa h
  obtain⟨hc,h⟩:=h
  cases h
  simp at hc
  refine⟨by omega,fun z hz=>?_⟩
  rw[dz hv]
  unfold Instr.sliceBound
  have:0≤j∧j≤(z:Int):=by omega
  simp only[Sem.run_bind,asIntOf,pure,Sem.run,Result.andThen,this,and_self,if_true]
 ·cases h
theorem dI{x:Option Operand}{y:Option bj}(h:dK x=some y)(he:ER w F ρ e a.tmps):(x=none∧y=none)∨∃p q,x=some p∧y=some q∧VR w F ρ (ev e q) (a.eval p):=by
 cases x with
 |none=>simp[dK]at h;exact .inl ⟨rfl,h.symm⟩
 |some p=>
  simp only[dK,C5]at h
  obtain⟨q,h1,rfl⟩:=h
  exact .inr ⟨p,q,rfl,rfl,aC h1 he⟩
theorem iI{isS:Bool}{n cap h l:Nat}{lo hi:Option Operand}{lo' hi':Option bj}(hlo:dK lo=some lo')(hhi:dK hi=some hi')(he:ER w F ρ e a.tmps)(hcap:n≤cap)
 (h1:dg n n (hi'.map (ev e))=some h) (h2:dg h 0 (lo'.map (ev e))=some l):l≤h∧h≤n∧(Instr.sliceBounds isS n cap (lo.map a.eval) (hi.map a.eval) none).run C.P w=.ok (l,h,cap) w:=by
 have a1:h≤n∧(match hi.map a.eval,(none:Option Value)with
  |some v,some _=>Instr.sliceBound v cap .slice3B
  |some v,none=>Instr.sliceBound v cap (if isS then .sliceAcap else .sliceAlen)
  |none,none=>pure n
  |none,some _=>stuck "Slice: max without high").run C.P w=.ok h w:=by
  rcases dI hhi he with⟨rfl,rfl⟩|⟨p,q,rfl,rfl,hv⟩
  ·simp[dg]at h1;subst h1;exact⟨De _,rfl⟩
  ·obtain⟨k1,k2⟩:=fR (C:=C) (code:=if isS then .sliceAcap else .sliceAlen) h1 hv
   exact⟨k1,k2 cap hcap⟩
 have a2:l≤h∧(match lo.map a.eval with
  |some v=>Instr.sliceBound v h (if(none:Option Value).isSome then .slice3C else .sliceB)
  |none=>pure 0).run C.P w=.ok l w:=by
  rcases dI hlo he with⟨rfl,rfl⟩|⟨p,q,rfl,rfl,hv⟩
  ·simp[dg]at h2;subst h2;exact⟨EU _,rfl⟩
  ·obtain⟨k1,k2⟩:=fR (C:=C) (code:=.sliceB) h2 hv
   exact⟨k1,k2 h (De _)⟩
 refine⟨a2.1,a1.1,?_⟩
 have b1:=a1.2
 have b2:=a2.2
 unfold Instr.sliceBounds
 simp only[Sem.run_bind,pure,Sem.run,Result.andThen_ok]at b1 b2⊢
 cases hi<;>cases lo<;>simp only[E9,D1]at b1 b2⊢ <;>simp_all [Sem.run,pure]
end
end
section
section
variable{C:Ctx}{ρ:Map}{F:Nat→Prop}{H H':ab}{w:World}{e:Env}{a:Act}{s c d:SV}
theorem py{t:TypeId}{x:Operand}{y:bj}{lo hi:Option Operand}{lo' hi':Option bj}{b:ByteArray}(hx:aR x=some y)(hlo:dK lo=some lo')(hhi:dK hi=some hi')(hu:C.P.underlying t=some .string)
 (hr:HR C ρ F H w) (he:ER w F ρ e a.tmps) (hc:ev e y=.str b) (h:mm b (lo'.map (ev e)) (hi'.map (ev e))=some s) :
 aW C (do pure (.value (←Instr.sliceAt t (a.eval x) (lo.map a.eval) (hi.map a.eval) ((none:Option Operand).map a.eval)))) ρ F H w s H:=by
 have hv:=aC hx he
 rw[hc]at hv
 unfold mm at h
 simp only[C6,C5]at h
 obtain⟨h1,k1,l1,k2,rfl⟩:=h
 obtain⟨_,_,hrun⟩:=iI (C:=C) (w:=w) (isS:=false) hlo hhi he (De b.size) k1 k2
 refine aW.val hr (val:=.string (b.extract l1 h1)) ?_ (.str _)
 unfold Instr.sliceAt
 simp only[Sem.run_bind,run_underlying hu,Result.andThen,Instr.slice,fy hv,E9,hrun]
 simp[Sem.run,pure,hrun]
theorem bJ{A:Type}{L:List A}{h l i:Nat}{x:A}(hx:((L.take h).drop l)[i]?=some x):L[l+i]?=some x∧l+i<h:=by
 rw[Dx,Dk]at hx
 split at hx
 ·exact⟨hx,by assumption⟩
 ·cases hx
theorem orElse_some{A:Type}{x:Option A}{f:Unit→Option A}{s:A}(h:x.orElse f=some s):x=some s∨f ()=some s:=by
 cases x with
 |none=>exact .inr h
 |some y=>exact .inl h
theorem qg{t el:TypeId}{n:Nat}{x:Operand}{y:bj}{lo hi mx:Option Operand}{lo' hi' mx':Option bj}(hx:aR x=some y)(hlo:dK lo=some lo')(hhi:dK hi=some hi')(hmx:dK mx=some mx')
 (hu:C.P.underlying t=some (.slice el)) (hn:dC C.P el=some n) (hr:HR C ρ F H w) (he:ER w F ρ e a.tmps) (hc:cq H n (ev e y)=true)
 (h:dF H (ev e y) (lo'.map (ev e)) (hi'.map (ev e)) (mx'.map (ev e))=some s) :
 aW C (do pure (.value (←Instr.sliceAt t (a.eval x) (lo.map a.eval) (hi.map a.eval) (mx.map a.eval)))) ρ F H w s H:=by
 have hv:=aC hx he
 generalize ev e y=c at *
 unfold dF at h
 split at h
 ·rename_i b v off m hvv hh hm
  cases hmx':mx' with
  |some q=>rw[hmx']at hm;cases hm
  |none=>
   have hmn:mx=none:=by
    rcases dI hmx he with⟨e1,_⟩|⟨_,_,_,e2,_⟩
    ·exact e1
    ·rw[hmx']at e2;cases e2
   subst hmx' hmn
   split at h
   ·rename_i v0 z L ex hb0
    simp only[C6,C5]at h
    obtain⟨h1,k1,l1,k2,rfl⟩:=h
    obtain⟨l,z9,L9,ex9,hl,hb,hbr,g1,g2⟩:=ct hr (iJ hc) hv
    rw[hb0]at hb
    cases hb
    have hb:=hb0
    have hzn:z=n:=by
     unfold cq at hc
     simp[hb]at hc
     exact hc
    subst hzn
    have hver:v=l.bB:=hbr.2.1.symm
    have hesz:l.a8=z:=hbr.2.2.1
    have hLc:L.length≤l.cap:=hbr.2.2.2.2.1
    have k1':dg (L.length-off) (L.length-off) (hi'.map (ev e))=some h1:=by rw[hh];exact k1
    have his:∃u,hi=some u:=by
     rcases dI hhi he with⟨_,e2⟩|⟨p,q,e1,_,_⟩
     ·rw[e2]at hh;cases hh
     ·exact⟨p,e1⟩
    obtain⟨u,rfl⟩:=his
    suffices hs:∃q len cap,a.eval x=.slice q len cap∧L.length-off≤cap∧(L.length-off≤cap→l1≤h1→h1≤L.length-off→VR w F ρ (.bt b v (off+l1) (h1-l1)) (.slice (if cap=l1 then q else q.map (·.add (l1*z))) (h1-l1) (cap-l1))) by
     obtain⟨q,len,cap,j1,j2,j3⟩:=hs
     obtain⟨p1,p2,hrun⟩:=iI (C:=C) (w:=w) (isS:=true) hlo hhi he j2 k1' k2
     refine aW.val hr ?_ (j3 j2 p1 p2)
     unfold Instr.sliceAt
     have hrun':(Instr.sliceBounds true len cap (lo.map a.eval) (some (a.eval u)) none).run C.P w=.ok (l1,h1,cap) w:=hrun
     simp only[Sem.run_bind,run_underlying hu,Result.andThen,Instr.slice,j1,D1,E9,hrun',a0 hn]
     rfl
    cases hvi:l.aU with
    |true=>
     obtain⟨q,hq,rfl,rfl⟩:=g1 hvi
     have hcap0:=hbr.2.2.2.2.2.2.1 hvi
     refine⟨q,0,0,hq,by omega,fun j2 p1 p2=>?_⟩
     have:h1=0:=by omega
     subst this
     have:l1=0:=by omega
     subst this
     exact .bt hl (ED hver) rfl (fun _=>⟨fun _=>⟨q,rfl,rfl,rfl⟩,(fun hf=>by rw[hvi]at hf;cases hf)⟩)
    |false=>
     obtain⟨g3,q,hq,g4⟩:=g2 hvi
     refine⟨q,m,l.cap-off,hq,by omega,fun j2 p1 p2=>?_⟩
     refine .bt hl (ED hver) rfl (fun _=>⟨(fun hf=>by rw[hvi]at hf;cases hf),fun _=>⟨by omega,_,by congr 1;omega,fun hlt=>?_⟩⟩)
     rw[if_neg (by omega),g4 (by omega)]
     simp[bP,hesz,DW,Da]
   ·cases h
 ·cases h
theorem p9{t el:TypeId}{n:Nat}{x:Operand}{y:bj}{lo hi mx:Option Operand}{lo' hi' mx':Option bj}(hx:aR x=some y)(hlo:dK lo=some lo')(hhi:dK hi=some hi')(hmx:dK mx=some mx')
 (hu:C.P.underlying t=some (.slice el)) (hn:dC C.P el=some n) (hr:HR C ρ F H w) (he:ER w F ρ e a.tmps) (hc:cq H n (ev e y)=true) (hsome:mx'.isSome=true→hi'.isSome=true)
 (h:gR (ev e y) (lo'.map (ev e)) (hi'.map (ev e)) (mx'.map (ev e))=some s) :
 aW C (do pure (.value (←Instr.sliceAt t (a.eval x) (lo.map a.eval) (hi.map a.eval) (mx.map a.eval)))) ρ F H w s H:=by
 have hv:=aC hx he
 generalize ev e y=c at *
 suffices hs:∃q len cap l1 h1 m1,a.eval x=.slice q len cap∧(Instr.sliceBounds true len cap (lo.map a.eval) (hi.map a.eval) (mx.map a.eval)).run C.P w=.ok (l1,h1,m1) w∧
  VR w F ρ s (.slice (if m1=l1 then q else q.map (·.add (l1*n))) (h1-l1) (m1-l1)) by
  obtain⟨q,len,cap,l1,h1,m1,k1,k2,k3⟩:=hs
  refine aW.val hr ?_ k3
  unfold Instr.sliceAt
  simp only[Sem.run_bind,run_underlying hu,Result.andThen,Instr.slice,k1,k2,a0 hn]
  rfl
 cases hmx':mx' with
 |none=>
  have hmn:mx=none:=by
   rcases dI hmx he with⟨e1,_⟩|⟨_,_,_,e2,_⟩
   ·exact e1
   ·rw[hmx']at e2;cases e2
  subst hmx' hmn
  simp only[E9]at h⊢
  unfold gR at h
  split at h
  ·rename_i z L f
   simp only[C6,C5,dg,Dd]at h
   obtain⟨m,rfl,h1,k1,l1,k2,rfl⟩:=h
   generalize a.eval x=u at *
   cases hv with
   |aP V hcap hfull hz hat h1' hv=>
    rename_i q cap
    obtain⟨p1,p2,hrun⟩:=iI (C:=C) (w:=w) (isS:=true) hlo hhi he hcap k1 k2
    refine⟨q,_,cap,l1,h1,cap,rfl,hrun,?_⟩
    have hlen:((L.take h1).drop l1).length=h1-l1:=by simp;omega
    rw[←hlen]
    refine .aP (fun i j=>V (l1+i) j) (by rw[hlen];omega) (fun hf=>?_) (fun i cs hi=>hz _ cs (bJ hi).1) ?_ (fun i j cs c hi hj=>h1' _ j cs c (bJ hi).1 hj) (fun i j cs c hi hj=>hv _ j cs c (bJ hi).1 hj)
    ·simp at hf
     rw[hlen,hfull hf.1,hf.2]
    ·by_cases hemp:(L.take h1).drop l1=[]
     ·exact .inl hemp
     ·right
      have hlt:l1<h1:=by
       have:0<((L.take h1).drop l1).length:=FE.2 hemp
       omega
      rcases hat with h0|⟨B,o,ha,hF,hk⟩
      ·subst h0;simp at p2;omega
      ·subst ha
       have hne:L≠[]:=fun h=>by subst h;simp at p2;omega
       have hzn:z=n:=by
        unfold cq at hc
        simp at hc
        rcases hc with hc|hc
        ·exact hc
        ·exact absurd hc hne
       subst hzn
       refine⟨B,o+l1*z,?_,hF,fun i j cs c hi hj=>?_⟩
       ·rw[if_neg (by omega)];simp[bP]
       ·have:=hk _ j cs c (bJ hi).1 hj
        rw[DW]at this
        rw[Da o]
        exact this
  ·rename_i b bB off m
   simp only[C6,C5]at h
   obtain⟨h1,k1,l1,k2,rfl⟩:=h
   obtain⟨l,z,L,ex,hl,hb,hbr,g1,g2⟩:=ct hr (iJ hc) hv
   have hzn:z=n:=by
    unfold cq at hc
    simp[hb]at hc
    exact hc
   subst hzn
   have hver:bB=l.bB:=hbr.2.1.symm
   have hesz:l.a8=z:=hbr.2.2.1
   cases hvi:l.aU with
   |true=>
    obtain⟨q,hq,rfl,rfl⟩:=g1 hvi
    obtain⟨p1,p2,hrun⟩:=iI (C:=C) (w:=w) (isS:=true) hlo hhi he (De 0) k1 k2
    have:h1=0:=by omega
    subst this
    have:l1=0:=by omega
    subst this
    exact⟨q,0,0,0,0,0,hq,hrun,.bt hl (ED hver) rfl (fun _=>⟨fun _=>⟨q,rfl,rfl,rfl⟩,(fun hf=>by rw[hvi]at hf;cases hf)⟩)⟩
   |false=>
    obtain⟨g3,q,hq,g4⟩:=g2 hvi
    obtain⟨p1,p2,hrun⟩:=iI (C:=C) (w:=w) (isS:=true) hlo hhi he (show m≤l.cap-off by omega) k1 k2
    refine⟨q,m,l.cap-off,l1,h1,l.cap-off,hq,hrun,.bt hl (ED hver) rfl (fun _=>⟨(fun hf=>by rw[hvi]at hf;cases hf),fun _=>⟨by omega,_,by congr 1;omega,fun hlt=>?_⟩⟩)⟩
    rw[if_neg (by omega),g4 (by omega)]
    simp[bP,hesz,DW,Da]
  ·cases h
 |some mq=>
  obtain⟨mo,rfl,hmv⟩:∃mo,mx=some mo∧VR w F ρ (ev e mq) (a.eval mo):=by
   rcases dI hmx he with⟨_,e2⟩|⟨p,q,e1,e2,e3⟩
   ·rw[hmx']at e2;cases e2
   ·rw[hmx']at e2;cases e2;exact⟨p,e1,e3⟩
  subst hmx'
  simp only[D1]at h⊢
  have hb3:∀{n0 cap m h1 l1:Nat},n0≤cap→m9 n0 (ev e mq)=some m→dg m n0 (hi'.map (ev e))=some h1→dg h1 0 (lo'.map (ev e))=some l1→hi'.isSome=true→
   l1≤h1∧h1≤m∧m≤n0∧(Instr.sliceBounds true n0 cap (lo.map a.eval) (hi.map a.eval) (some (a.eval mo))).run C.P w=.ok (l1,h1,m) w:=by
   intro n0 cap m h1 l1 hcap km kh kl hsome
   obtain⟨m1,m2⟩:=fR (C:=C) (code:=.slice3Acap) km hmv
   rcases dI hhi he with⟨_,rfl⟩|⟨hp,hq,rfl,rfl,hhv⟩
   ·cases hsome
   ·obtain⟨h3,h4⟩:=fR (C:=C) (code:=.slice3B) kh hhv
    have a2:l1≤h1∧(match lo.map a.eval with
     |some v=>Instr.sliceBound v h1 (if(some (a.eval mo)).isSome then .slice3C else .sliceB)
     |none=>pure 0).run C.P w=.ok l1 w:=by
     rcases dI hlo he with⟨rfl,rfl⟩|⟨p,q,rfl,rfl,hv⟩
     ·simp[dg]at kl;subst kl;exact⟨EU _,rfl⟩
     ·obtain⟨k1,k2⟩:=fR (C:=C) (code:=.slice3C) kl hv
      exact⟨k1,k2 h1 (De _)⟩
    refine⟨a2.1,h3,m1,?_⟩
    have b2:=a2.2
    have b1:=h4 m (De _)
    have b0:=m2 cap hcap
    unfold Instr.sliceBounds
    simp only[Sem.run_bind,pure,Sem.run,Result.andThen_ok]at b0 b1 b2⊢
    cases lo<;>simp only[E9,D1]at b2⊢ <;>simp_all [Sem.run,pure]
  have hsome:=hsome rfl
  unfold gR at h
  split at h
  ·rename_i z L f
   simp only[C6,C5,dg]at h
   obtain⟨m,km,h1,k1,l1,k2,rfl⟩:=h
   generalize a.eval x=u at *
   cases hv with
   |aP V hcap hfull hz hat h1' hv=>
    rename_i q cap
    obtain⟨p1,p2,p3,hrun⟩:=hb3 hcap km k1 k2 hsome
    refine⟨q,_,cap,l1,h1,m,rfl,hrun,?_⟩
    have hlen:((L.take h1).drop l1).length=h1-l1:=by simp;omega
    rw[←hlen]
    refine .aP (fun i j=>V (l1+i) j) (by rw[hlen];omega) (fun hf=>?_) (fun i cs hi=>hz _ cs (bJ hi).1) ?_ (fun i j cs c hi hj=>h1' _ j cs c (bJ hi).1 hj) (fun i j cs c hi hj=>hv _ j cs c (bJ hi).1 hj)
    ·simp at hf
     rw[hlen,hf]
    ·by_cases hemp:(L.take h1).drop l1=[]
     ·exact .inl hemp
     ·right
      have hlt:l1<h1:=by
       have:0<((L.take h1).drop l1).length:=FE.2 hemp
       omega
      rcases hat with h0|⟨B,o,ha,hF,hk⟩
      ·subst h0;simp at p3;omega
      ·subst ha
       have hne:L≠[]:=fun h=>by subst h;simp at p3;omega
       have hzn:z=n:=by
        unfold cq at hc
        simp at hc
        rcases hc with hc|hc
        ·exact hc
        ·exact absurd hc hne
       subst hzn
       refine⟨B,o+l1*z,?_,hF,fun i j cs c hi hj=>?_⟩
       ·rw[if_neg (by omega)];simp[bP]
       ·have:=hk _ j cs c (bJ hi).1 hj
        rw[DW]at this
        rw[Da o]
        exact this
  ·rename_i b bB off m0
   simp only[C6,C5,dg]at h
   obtain⟨m,km,h1,k1,l1,k2,h⟩:=h
   obtain⟨l,z,L,ex,hl,hb,hbr,g1,g2⟩:=ct hr (iJ hc) hv
   have hsl:∃q cap,a.eval x=.slice q m0 cap∧m0≤cap:=by
    cases hvi:l.aU with
    |true=>obtain⟨q,hq,_,rfl⟩:=g1 hvi;exact⟨q,0,hq,De _⟩
    |false=>obtain⟨g3,q,hq,_⟩:=g2 hvi;exact⟨q,_,hq,by omega⟩
   obtain⟨q,cap,hq,hcap⟩:=hsl
   obtain⟨p1,p2,p3,hrun⟩:=hb3 hcap km k1 k2 hsome
   refine⟨q,m0,cap,l1,h1,m,hq,hrun,?_⟩
   replace h:=EL h
   cases hml:m==l1 with
   |false=>rw[hml,Dw]at h;rw[←h];exact VR.undef _
   |true=>
   rw[hml,Du]at h
   rw[←h]
   have hml:m=l1:=by simpa using hml
   have e1:h1-l1=0:=by omega
   have e2:m-l1=0:=by omega
   rw[e1,e2]
   exact VR.aP (L:=[]) (fun _ _=>undef) (De _) (fun _=>rfl) (by simp) (.inl rfl) (by simp) (by simp)
  ·cases h
end
end
section
section
variable{C:Ctx}{ρ:Map}{F:Nat→Prop}{H H':ab}{w:World}{e:Env}{a:Act}{s c d:SV}
theorem nB(off:Nat):∀(l:List Value) (k:Nat) (cells:Array Value),off+k+l.length≤cells.size→
 (l.zipIdx k).foldl (fun(cs:Array Value) (p:Value×Nat)=>cs.setIfInBounds (off+p.2) p.1) cells=ie cells (off+k) l
 |[],k,cells,_=>by simp[ie]
 |v::r,k,cells,h=>by
  simp only[DU]at h
  rw[List.zipIdx_cons,Fo,nB off r (k+1) _ (by simp;omega)]
  apply E6
  intro j
  rw[fD (by simp;omega),fD (by simp;omega)]
  simp only[DU]
  by_cases e1:j<off+k
  ·have e2:j<off+(k+1):=by omega
   simp only[e1,e2,if_true]
   rw[Dz (by omega)]
  ·by_cases e2:j=off+k
   ·subst e2
    have e3:off+k<off+(k+1):=by omega
    have e4:¬off+k<off+k:=by omega
    have e5:off+k<off+k+(r.length+1):=by omega
    simp only[e3,e4,e5,if_true,if_false]
    have:off+k<cells.size:=by omega
    simp[this]
   ·have a1:¬j<off+(k+1):=by omega
    simp only[a1,e1,if_false]
    by_cases e3:j<off+(k+1)+r.length
    ·have e4:j<off+k+(r.length+1):=by omega
     simp only[e3,e4,if_true]
     rw[show j-(off+k)=(j-(off+(k+1)))+1 by omega]
     simp
    ·have e4:¬j<off+k+(r.length+1):=by omega
     simp only[e3,e4,if_false]
     rw[Dz (by omega)]
theorem lx{place:Nat→Option (Nat×Nat)}{cells:Array Value}{i off:Nat}{v:Value}{rest:List (Nat×Value)}(hp:place i=some (off,v.cells.size))(hle:off+v.cells.size≤cells.size) :
 Instr.fill place cells ((i,v)::rest)=Instr.fill place (ie cells off v.cells.toList) rest:=by
 have:(v.cells.zipIdx.foldl (fun cs (c,j)=>cs.setIfInBounds (off+j) c) cells)=ie cells off v.cells.toList:=by
  have:=nB off v.cells.toList 0 cells (by simpa using hle)
  rw[EZ]at this
  rw[←this,←Array.foldl_toList,Array.toList_zipIdx]
 simp only[Instr.fill,hp]
 rw[if_neg (by simp;omega),this]
theorem je{place:Nat→Option (Nat×Nat)}:∀(qs:List (Nat×Operand)) (ps:List (Nat×Nat×bj)) (z r:List SV) (cells:Array Value),
 ps.length=qs.length→(∀(j:Nat) p q,qs[j]?=some q→ps[j]?=some p→place q.1=some (p.1,p.2.1)∧aR q.2=some p.2.2)→ER w F ρ e a.tmps→z.length=cells.size→aT w F ρ cells 0 z→ew (ev e) z ps=some r→
 ∃out,Instr.fill place cells (qs.map fun q=>(q.1,a.eval q.2))=some out∧r.length=out.size∧aT w F ρ out 0 r
 |[],[],z,r,cells,_,_,_,hz,hc,h=>by
  simp[ew]at h;subst h
  exact⟨cells,rfl,hz,hc⟩
 |[],_::_,_,_,_,hl,_,_,_,_,_=>by simp at hl
 |_::_,[],_,_,_,hl,_,_,_,_,_=>by simp at hl
 |q::qs,(off,n,x)::ps,z,r,cells,hl,hp,he,hz,hc,h=>by
  obtain⟨h1,h2⟩:=hp 0 _ _ rfl rfl
  simp only[ew,C6]at h
  obtain⟨cs,hcs,h⟩:=h
  replace h:=aa h
  obtain⟨hb,h⟩:=h
  simp at hb
  obtain⟨hn,hle⟩:=hb
  obtain⟨k1,k2,_⟩:=ec hcs (aC h2 he)
  have hsz:(ie cells off (a.eval q.2).cells.toList).size=cells.size:=fe (by simp;omega)
  have aZ:=gA (at_:=0) hc k2 hn k1 hle (by omega)
  rw[Ea]at aZ
  obtain⟨out,o1,o2,o3⟩:=je qs ps _ r (ie cells off (a.eval q.2).cells.toList) (by simpa using hl) (fun j p q hq hp'=>hp (j+1) p q (by simpa using hq) (by simpa using hp')) he
   (by rw[eM hn hle,hsz];exact hz) aZ h
  refine⟨out,?_,o2,o3⟩
  simp only[DQ]
  rw[lx (by rw[h1,←k1,hn]) (by omega)]
  exact o1
theorem run_places{P:Program}{w:World}:∀(fs:List Field),(∀f∈fs,(dC P f.type).isSome=true)→Sem.run P (fs.mapM (fun(f:Field)=>(do pure (f.offset,←sizeOf f.type):Sem (Nat×Nat)))) w=.ok (fs.map fun(f:Field)=>(f.offset,(dC P f.type).getD 0)) w
 |[],_=>rfl
 |f::fs,h=>by
  obtain⟨n,hn⟩:=Fm.1 (h f (by simp))
  have ih:=run_places (P:=P) (w:=w) fs (fun g hg=>h g (by simp[hg]))
  simp only[List.mapM_cons,Sem.run_bind,a0 hn,Result.andThen,DQ,hn,EE]
  simp only[pure,Sem.run,Result.andThen,Sem.run_bind]at ih⊢
  rw[ih]
theorem sq{t:TypeId}{qs:Array (Nat×Operand)}{z r:List SV}{ps:List (Nat×Nat×bj)}(hz:eh C.P t=some z)(hp:nR C.P t qs.toList=some ps)(hr:HR C ρ F H w)(he:ER w F ρ e a.tmps)
 (h:ew (ev e) z ps=some r):aW C (do pure (.value (←Instr.build t (qs.map fun(i,x)=>(i,a.eval x))))) ρ F H w (.agg r) H:=by
 obtain⟨i,v,hi,hv,h1,h2⟩:=dO (w:=w) (F:=F) (ρ:=ρ) hz
 have fin:∀out:Array Value,r.length=out.size→aT w F ρ out 0 r→VR w F ρ (.agg r) (.agg out):=fun out o1 o2=>
  .agg o1 (fun j c hj=>let⟨_,_,_,h⟩:=o2 j c hj;h) (fun j c v hj hv=>by
   obtain⟨v',h3,h4,_⟩:=o2 j c hj
   rw[Ea]at h3
   rw[h3]at hv;cases hv;exact h4)
 have hlist:(qs.map fun(i,x)=>(i,a.eval x)).toList=qs.toList.map fun q=>(q.1,a.eval q.2):=by simp
 unfold nR at hp
 split at hp
 ·rename_i fs hu
  cases hall:fs.toList.all (fun f=>(dC C.P f.type).isSome)with
  |false=>rw[hall]at hp;simp at hp
  |true=>
   rw[hall]at hp
   simp only[Ec,Dw]at hp
   obtain⟨p1,p2⟩:=cn hp
   have hpl:=run_places (P:=C.P) (w:=w) fs.toList (fun f hf=>Dg.1 hall f hf)
   obtain⟨out,o1,o2,o3⟩:=je (place:=((fs.toList.map fun f=>(f.offset,(dC C.P f.type).getD 0)).toArray[·]?)) qs.toList ps z r v.cells p1 (fun j p q hq hp'=>by
    have:=p2 j q p hq hp'
    split at this
    ·rename_i f hf
     split at this
     ·rename_i n x hn hx
      cases this
      refine⟨?_,hx⟩
      simp[hf,hn]
     ·cases this
    ·cases this) he h1 h2 h
   refine aW.val hr ?_ (fin out o2 o3)
   unfold Instr.build
   simp only[Sem.run_bind,cf hi hv,Result.andThen,run_underlying hu,Array.mapM_eq_mapM_toList]
   rw[Sem.run_map,hpl]
   simp only[Result.andThen,hlist,o1]
   rfl
 ·rename_i n el hu
  split at hp
  ·rename_i m hm
   obtain⟨p1,p2⟩:=cn hp
   obtain⟨out,o1,o2,o3⟩:=je (place:=fun i=>some (i*m,m)) qs.toList ps z r v.cells p1 (fun j p q hq hp'=>by
    have:=p2 j q p hq hp'
    simp only[C5]at this
    obtain⟨x,hx,rfl⟩:=this
    exact⟨rfl,hx⟩) he h1 h2 h
   refine aW.val hr ?_ (fin out o2 o3)
   unfold Instr.build
   simp only[Sem.run_bind,cf hi hv,Result.andThen,run_underlying hu,a0 hm,hlist,o1]
   rfl
  ·cases hp
 ·cases hp
end
end
section
section
variable{C:Ctx}{ρ:Map}{F:Nat→Prop}{H H':ab}{w:World}{e:Env}{a:Act}{s c d:SV}
def cx(w:World)(F:Nat→Prop)(ρ:Map)(vs:Array Value)(at_ z:Nat)(L:List (List SV)):Prop:=
 (∀(i:Nat) cs,L[i]?=some cs→cs.length=z)∧∀(i:Nat) cs,L[i]?=some cs→aT w F ρ vs (at_+i*z) cs
theorem gj(hr:HR C ρ F H w){L:List (List SV)}{z cap:Nat}{ex:Bool}{vs:Array Value}{ty:TypeId}{w':World}(hw:w'.heap=w.heap.push (.cells vs ty))(hcap:L.length≤cap)(hex:ex=true→cap=L.length)
 (hsz:cap*z≤vs.size) (hc:cx w F ρ vs 0 z L) (n:Nat) (hn:n≤L.length) (hout:w'.os=w.os∧w'.output=w.output:=by exact⟨rfl,rfl⟩) :
 bX C ρ F H w (.bt H.bl.length 0 0 n) (aZ H (.arr 0 z L ex)) (.slice (some ⟨w.heap.size,0,none⟩) n cap) w':=by
 let l:Loc:={bu:=w.heap.size,base:=0,cap:=cap,a8:=z,bB:=0,aU:=false,arr:=true}
 have hh:∀B,B<w.heap.size→w'.heap[B]?=w.heap[B]?:=fun B hB=>by
  rw[hw];simp[Ew,Ex hB]
 have hk:b9 F w w':=fun B hB=>hh B (hr.eB B hB)
 have hle:ρ.le (ρ.put H.bl.length l):=fun b l' h=>⟨l',by rw[Map.aM _ _ (Ex (hr.fC b l' h))];exact h,.inl rfl⟩
 have hp:=hr.push (w':=w') (by rw[hw];simp) hh (.arr 0 z L ex) l (fun _=>⟨De _,by rw[hw];simp[l]⟩)
  ⟨rfl,rfl,rfl,hc.1,hcap,hex,(fun h=>by cases h),fun _=>⟨vs,ty,(0,0),by rw[hw];simp[l],fun o ho=>by simp,by simpa[l]using hsz,fun i cs hi=>by
   have:=hc.2 i cs hi
   exact this.mono hk (fun _ h=>h) hle⟩⟩ hout
 exact⟨_,F,.bt (l:=l) (Map.aS _ _ _) (De _) rfl (fun _=>⟨(fun h=>by cases h),fun _=>⟨by simp[l];omega,_,rfl,fun _=>by simp[l]⟩⟩),hp.1,hp.2⟩
theorem kZ{z:Nat}:∀(qs:List (Nat×Operand)) (ps:List (Nat×bj)) (L r:List (List SV)) (cells:Array Value),
 ps.length=qs.length→(∀(j:Nat) p q,qs[j]?=some q→ps[j]?=some p→q.1=p.1∧aR q.2=some p.2)→ER w F ρ e a.tmps→L.length*z≤cells.size→cx w F ρ cells 0 z L→cU (ev e) z L ps=some r→
 ∃out,Instr.fill (fun i=>some (i*z,z)) cells (qs.map fun q=>(q.1,a.eval q.2))=some out∧r.length=L.length∧out.size=cells.size∧cx w F ρ out 0 z r
 |[],[],L,r,cells,_,_,_,hz,hc,h=>by
  simp[cU]at h;subst h
  exact⟨cells,rfl,rfl,rfl,hc⟩
 |[],_::_,_,_,_,hl,_,_,_,_,_=>by simp at hl
 |_::_,[],_,_,_,hl,_,_,_,_,_=>by simp at hl
 |q::qs,(i,x)::ps,L,r,cells,hl,hp,he,hz,hc,h=>by
  obtain⟨h1,h2⟩:=hp 0 _ _ rfl rfl
  simp only[cU,C6]at h
  obtain⟨cs,hcs,h⟩:=h
  replace h:=aa h
  obtain⟨hb,h⟩:=h
  simp at hb
  obtain⟨hn,hlt⟩:=hb
  simp only at h1 h2
  obtain⟨k1,k2,_⟩:=ec hcs (aC h2 he)
  have hm:(i+1)*z≤L.length*z:=DO z hlt
  rw[DW,EF]at hm
  have hle:i*z+(a.eval q.2).cells.size≤cells.size:=by omega
  have hsz:(ie cells (i*z) (a.eval q.2).cells.toList).size=cells.size:=fe (by simp;omega)
  have hrow:cx w F ρ (ie cells (i*z) (a.eval q.2).cells.toList) 0 z (L.set i cs):=by
   refine⟨fun j ds hj=>?_,fun j ds hj=>?_⟩
   ·by_cases e1:j=i
    ·subst e1;simp[hlt]at hj;subst hj;exact hn
    ·rw[Dt (Ne.symm e1)]at hj;exact hc.1 j ds hj
   ·by_cases e1:j=i
    ·subst e1
     simp[hlt]at hj
     subst hj
     obtain⟨old,hold⟩:∃o,L[j]?=some o:=⟨L[j],Dl hlt⟩
     have:=gA (at_:=0+j*z) (o:=0) (n:=z) (hc.2 j old hold) k2 hn k1 (by rw[hc.1 j old hold];omega) (by rw[hc.1 j old hold];omega)
     rw[EZ,Ea]at this
     rw[Ea]
     intro q' c' hq'
     refine this q' c' ?_
     have hlen:=(C7.1 hq').1
     unfold eo
     rw[FJ,EY,Dy hlen]
     exact hq'
    ·rw[Dt (Ne.symm e1)]at hj
     refine gT (n:=0) (hc.2 j ds hj) (by simp;omega) ?_
     have hd:=hc.1 j ds hj
     simp only[EM]
     rcases FG e1 with hlt'|hlt'
     ·left
      have:(j+1)*z≤i*z:=DO z hlt'
      rw[DW,EF]at this
      omega
     ·right
      have:(i+1)*z≤j*z:=DO z hlt'
      rw[DW,EF]at this
      omega
  obtain⟨out,o1,o2,o3,o4⟩:=kZ qs ps _ r (ie cells (i*z) (a.eval q.2).cells.toList) (by simpa using hl) (fun j p q hq hp'=>hp (j+1) p q (by simpa using hq) (by simpa using hp')) he
   (by rw[hsz];simpa using hz) hrow h
  refine⟨out,?_,by simpa using o2,o3.trans hsz,o4⟩
  simp only[DQ]
  rw[h1,lx (by rw[←k1,hn]) hle]
  exact o1
def bC(zs:Array Value)(n:Nat):Array Value:=(Array.range n).map fun i=>zs[i%zs.size]!
theorem fH{z n:Nat}{zs:Array Value}{zl:List SV}(hz:zl.length=z)(hzs:zl.length=zs.size)(hc:aT w F ρ zs 0 zl)(h0:0<z):cx w F ρ (bC zs (n*z)) 0 z (List.replicate n zl):=by
 refine⟨fun i cs hi=>?_,fun i cs hi=>?_⟩<;>rw[EJ]at hi<;>split at hi<;>(try (cases hi;done))<;>cases hi
 ·exact hz
 ·rename_i hlt
  intro j c hj
  have hjl:=(C7.1 hj).1
  obtain⟨v,h1,h2,h3⟩:=hc j c hj
  have hm:(i+1)*z≤n*z:=DO z hlt
  rw[DW,EF]at hm
  refine⟨v,?_,h2,h3⟩
  rw[Ea]at h1⊢
  unfold bC
  have hmod:(i*z+j)%zs.size=j:=by
   rw[←hzs,hz,FN,Nat.add_mul_mod_self_right,Nat.mod_eq_of_lt (by omega)]
  simp only[Array.getElem?_map,Array.getElem?_range,show i*z+j<n*z by omega,if_true,D1,hmod]
  congr 1
  have hj':j<zs.size:=by omega
  rw[getElem!_pos zs j hj']
  rw[D9 hj']at h1
  exact EL h1
theorem pR{t el:TypeId}{n z:Nat}{qs:Array (Nat×Operand)}{zl:List SV}{ps:List (Nat×bj)}{L:List (List SV)}(he0:gL C.P t=some el)(hsz:dC C.P el=some (z+1))(hz:eh C.P el=some zl)
 (hp:a7 (qs.toList.map fun p=>(aR p.2).map fun x=>(p.1,x))=some ps) (hlim:n*(z+1)≤16777216) (hzl:zl.length=z+1) (hr:HR C ρ F H w) (he:ER w F ρ e a.tmps)
 (h:cU (ev e) (z+1) (List.replicate n zl) ps=some L):aW C (do pure (.value (←Instr.buildSlice t n (qs.map fun(i,x)=>(i,a.eval x))))) ρ F H w (.bt H.bl.length 0 0 n) (aZ H (.arr 0 (z+1) L true)):=by
 obtain⟨i,v,hi,hv,h1,h2⟩:=dO (w:=w) (F:=F) (ρ:=ρ) hz
 have hu:C.P.underlying t=some (.slice el):=by
  unfold gL at he0
  split at he0
  ·cases he0;assumption
  ·cases he0
 have hlist:(qs.map fun(i,x)=>(i,a.eval x)).toList=qs.toList.map fun q=>(q.1,a.eval q.2):=by simp
 obtain⟨p1,p2⟩:=cn hp
 have hzr:(bC v.cells (n*(z+1))).size=n*(z+1):=by simp[bC]
 obtain⟨out,o1,o2,o3,o4⟩:=kZ qs.toList ps (List.replicate n zl) L (bC v.cells (n*(z+1))) p1 (fun j p q hq hp'=>by
  have:=p2 j q p hq hp'
  simp only[C5]at this
  obtain⟨x,hx,rfl⟩:=this
  exact⟨rfl,hx⟩) he (by rw[hzr];simp) (fH hzl h1 h2 (Nat.succ_pos z)) h
 have hlen:L.length=n:=by simpa using o2
 refine aW.mh (w':={w with heap:=w.heap.push (.cells out el)}) ?_ (gj hr rfl (De L.length) (fun _=>rfl) (by rw[o3,hzr,hlen];exact De _) o4 n (by omega))
 have hlim':¬n*(z+1)>2 ^ 24:=by omega
 unfold Instr.buildSlice
 simp only[Sem.run_bind,run_underlying hu,Result.andThen,a0 hsz,if_neg hlim']
 by_cases h0:n*(z+1)=0
 ·have hzz:(Array.range (n*(z+1))).map (fun x=>(#[]:Array Value)[x%(#[]:Array Value).size]!)=bC v.cells (n*(z+1)):=by
   unfold bC;rw[h0];simp
  simp only[h0,if_true,pure,Sem.run,Result.andThen,Sem.run_bind]
  rw[h0]at hzz
  rw[h0]at o1
  simp only[hzz,hlist,o1]
  simp[newRow,newObj,Sem.run,hlen]
 ·simp only[h0,if_false,Sem.run_bind,cf hi hv,Result.andThen,pure,Sem.run]
  have hzz:(Array.range (n*(z+1))).map (fun x=>v.cells[x%v.cells.size]!)=bC v.cells (n*(z+1)):=rfl
  simp only[hzz,hlist,o1]
  simp[newRow,newObj,Sem.run,hlen]
end
end
section
section
variable{C:Ctx}{ρ:Map}{F:Nat→Prop}{H H':ab}{w:World}{e:Env}{a:Act}{s c d:SV}
theorem lB{w':World}(h:w'.heap=w.heap)(ad:Addr):w'.cell? ad=w.cell? ad:=by simp[World.cell?,h]
theorem iv{vs:Array Value}{at_ z:Nat}:cx w F ρ vs at_ z []:=⟨by simp,by simp⟩
theorem pr{vs:Array Value}{z:Nat}{X:List (List SV)}(h:cx w F ρ vs 0 z X)(hn:vs.size=X.length*z):∀v∈vs.toList,fJ v=true:=by
 intro v hv
 obtain⟨j,hj,rfl⟩:=List.mem_iff_getElem.1 hv
 simp at hj
 have hz:0<z:=by
  rcases Fp z with h0|h0
  ·subst h0;omega
  ·exact h0
 have hi:j/z<X.length:=by
  apply Nat.div_lt_of_lt_mul
  rw[FO];omega
 have hx:X[j/z]?=some X[j/z]:=Dl hi
 have hl:=h.1 _ _ hx
 have hm:j%z<(X[j/z]).length:=by rw[hl];exact Nat.mod_lt _ hz
 obtain⟨v',h1,h2,h3⟩:=h.2 _ _ hx (j%z) _ (Dl hm)
 have:0+j/z*z+j%z=j:=by
  rw[Ea,FO];exact Nat.div_add_mod j z
 rw[this,D9 (by omega)]at h1
 have:v'=vs.toList[j]:=by simpa using(EL h1).symm
 rw[←this]
 exact h2.one h3
def uc(C:Ctx)(w:World)(F:Nat→Prop)(H:ab)(ρ ρ1:Map)(c:SV):Prop:=∀b bB off n l x,c=.bt b bB off n→ρ b=some l→aQ H b=some x→x.live=true→BR C w F ρ1 l x
theorem cH(hr:HR C ρ F H w):uc C w F H ρ ρ c:=fun b bB off n l x _ hl hb hx=>by
 obtain⟨l',h1,h2⟩:=hr.live b x hb hx
 rw[hl]at h1;cases h1
 exact h2
theorem fW(hr:HR C ρ F H w){z:Nat}(hz:0<z){X:List (List SV)}{v:Value}(hv:VR w F ρ c v)(h:ig z H c=some X) :
 ∃q cap cells,v=.slice q X.length cap∧(∀w':World,w'.heap=w.heap→(Builtin.firstCells z X.length v).run C.P w'=.ok cells w')∧cells.size=X.length*z∧∀ρ1:Map,uc C w F H ρ ρ1 c→cx w F ρ1 cells 0 z X:=by
 unfold ig at h
 split at h
 ·rename_i z' L f
  replace h:=aa h
  obtain⟨hc,h⟩:=h
  have h':L=X:=EL h
  subst h'
  clear h
  cases hv with
  |aP V hcap hfull hz' hat h1 hv=>
   rename_i q cap
   rcases hat with h0|⟨B,o,ha,hF,hk⟩
   ·subst h0
    refine⟨q,cap,#[],rfl,fun w' hw=>?_,by simp,fun _ _=>iv⟩
    cases q with
    |none=>rfl
    |some q=>simp only[Builtin.firstCells,D8,Fa];rfl
   ·subst ha
    by_cases h0:L=[]
    ·subst h0
     exact⟨_,cap,#[],rfl,fun w' hw=>by simp only[Builtin.firstCells,D8,Fa];rfl,by simp,fun _ _=>iv⟩
    ·have hzz:z'=z:=by
      simp at hc
      rcases hc with hc|hc
      ·exact hc
      ·exact absurd hc h0
     subst hzz
     refine⟨_,cap,((List.range (L.length*z')).map fun j=>V (j/z') (j%z')).toArray,rfl,fun w' hw=>?_,by simp,fun ρ1 _=>⟨fun i cs hi=>hz' i cs hi,fun i cs hi j c hj=>?_⟩⟩
     ·simp only[Builtin.firstCells]
      refine run_loadCells w' _ _ _ (fun j hj=>?_)
      rw[bP,lB hw]
      have hi:j/z'<L.length:=Nat.div_lt_of_lt_mul (by rw[FO];exact hj)
      have hx:L[j/z']?=some L[j/z']:=Dl hi
      have hm:j%z'<(L[j/z']).length:=by rw[hz' _ _ hx];exact Nat.mod_lt _ hz
      have:=hk _ _ _ _ hx (Dl hm)
      rw[Da,FO,Nat.div_add_mod]at this
      exact this
     ·have hil:=(C7.1 hi).1
      have hjl:=(C7.1 hj).1
      rw[hz' i cs hi]at hjl
      have hm:(i+1)*z'≤L.length*z':=DO z' hil
      rw[DW,EF]at hm
      refine⟨V i j,?_,(hv i j cs c hi hj).mono (fun _ _=>rfl) (fun _ h=>h) (fT _),h1 i j cs c hi hj⟩
      have e1:(i*z'+j)/z'=i:=by
       rw[FN,Nat.add_mul_div_right _ _ hz,Nat.div_eq_of_lt hjl,Ea]
      have e2:(i*z'+j)%z'=j:=by rw[FN,Nat.add_mul_mod_self_right,Nat.mod_eq_of_lt hjl]
      rw[Ea]
      have hlt:i*z'+j<L.length*z':=by omega
      simp only[Ey,Fe,List.getElem?_range hlt,D1,e1,e2]
 ·rename_i b bB off n
  split at h
  ·rename_i ver' z' L ex hb
   replace h:=aa h
   obtain⟨hc,h⟩:=h
   simp at hc
   obtain⟨⟨rfl,rfl⟩,hle⟩:=hc
   cases h
   obtain⟨l,z2,L2,ex2,hl,hb2,hbr,g1,g2⟩:=ct hr (by unfold cur;simp[hb]) hv
   rw[hb]at hb2;cases hb2
   have hlen:((L.drop off).take n).length=n:=by simp;omega
   cases hvi:l.aU with
   |true=>
    obtain⟨q,rfl,rfl,rfl⟩:=g1 hvi
    simp only[FJ,D8,Fa]
    refine⟨q,0,#[],rfl,fun w' hw=>?_,by simp,fun _ _=>iv⟩
    cases q with
    |none=>rfl
    |some q=>simp only[Builtin.firstCells,Fa];rfl
   |false=>
    obtain⟨g3,q,rfl,g4⟩:=g2 hvi
    obtain⟨h1,h2,h3,h4,h5,h6,h7,h8⟩:=hbr
    obtain⟨vs,ty,fz,k1,k2,k3,k4⟩:=h8 hvi
    rw[hlen]
    by_cases hn0:n=0
    ·subst hn0
     simp only[FJ]
     refine⟨q,_,#[],rfl,fun w' hw=>?_,by simp,fun _ _=>iv⟩
     cases q with
     |none=>rfl
     |some q=>simp only[Builtin.firstCells,Fa];rfl
    ·have:=g4 (by omega)
     subst this
     have hm:(off+n)*z'≤l.cap*z':=DO z' g3
     rw[DW]at hm
     refine⟨_,_,vs.extract (l.base+off*z') (l.base+off*z'+n*z'),rfl,fun w' hw=>?_,by simp;omega,fun ρ1 hρ1=>⟨fun i cs hi=>?_,fun i cs hi=>?_⟩⟩
     ·simp only[Builtin.firstCells,h3]
      rw[run_loadCells w' _ _ (fun j=>vs.getD (l.base+off*z'+j) undef) (fun j hj=>by
       rw[bP,lB hw,iu k1]
       have:l.base+off*z'+j<vs.size:=by omega
       simp[this])]
      congr 1
      apply Array.ext
      ·simp;omega
      ·intro j h1 h2
       simp at h1
       have:l.base+off*z'+j<vs.size:=by omega
       simp[this]
     ·obtain⟨e1,_⟩:L[off+i]?=some cs∧True:=by
       rw[Dk]at hi
       split at hi
       ·rw[Dx]at hi;exact⟨hi,trivial⟩
       ·cases hi
      exact h4 _ cs e1
     ·obtain⟨e1,e2⟩:L[off+i]?=some cs∧i<n:=by
       rw[Dk]at hi
       split at hi
       ·rw[Dx]at hi;exact⟨hi,by assumption⟩
       ·cases hi
      intro j c hj
      have hjl:=(C7.1 hj).1
      rw[h4 _ cs e1]at hjl
      obtain⟨_,_,_,_,_,_,_,h9⟩:=hρ1 b _ _ _ l _ rfl hl hb rfl
      obtain⟨vs2,ty2,fz2,m1,m2,m3,m4⟩:=h9 hvi
      rw[k1]at m1;cases m1
      obtain⟨v',p1,p2⟩:=m4 _ cs e1 j c hj
      refine⟨v',?_,p2⟩
      have hm2:(i+1)*z'≤n*z':=DO z' e2
      rw[DW,EF]at hm2
      rw[Ft,if_pos (by omega)]
      rw[DW]at p1
      rw[show l.base+off*z'+(0+i*z'+j)=l.base+(off*z'+i*z')+j by omega]
      exact p1
  ·cases h
 ·cases h
end
end
section
section
variable{C:Ctx}{ρ:Map}{F:Nat→Prop}{H H':ab}{w:World}{e:Env}{a:Act}{s c d:SV}
structure tB(P:Program)(ats:Array TypeId)(el:TypeId)(z:Nat)(i:TypeInfo)(zv:Value):Prop where
 t0:∃t,ats[0]?=some t∧P.underlying t=some (.slice el)
 t1:∃t el',ats[1]?=some t∧P.underlying t=some (.slice el')
 inf:P.info? el=some i
 size:i.size=z
 zero:i.zero=some zv
 CB:zv.cells.size=z
 sE:0<z
 Cl:0<i.bytes
theorem tB.dC{P:Program}{ats:Array TypeId}{el:TypeId}{z:Nat}{i:TypeInfo}{zv:Value}(h:tB P ats el z i zv):dC P el=some z:=by
 unfold Go.Sh.dC;rw[h.inf];simp[h.size]
theorem run_append_fits{P:Program}{ats:Array TypeId}{el:TypeId}{z:Nat}{i:TypeInfo}{zv:Value}(hT:tB P ats el z i zv){ty:TypeId}{base q:Option Addr}{sl sc m mc:Nat}{cells:Array Value}
 (hx:(Builtin.firstCells z m (.slice q m mc)).run P w=.ok cells w) (hfit:sl+m≤sc) {w':World} (hst:∀ad,base=some ad→(storeCells (ad.add (sl*z)) cells.toList).run P w=.ok () w') (hno:base=none→w'=w) :
 (Builtin.append_ ats ty #[.slice base sl sc,.slice q m mc]).run P w=.ok (.slice base (sl+m) sc) w':=by
 obtain⟨t0,h0,hu0⟩:=hT.t0
 obtain⟨t1,el',h1,hu1⟩:=hT.t1
 unfold Builtin.append_
 simp only[h0,h1,Ey,List.getElem?_cons_zero,Fq,Sem.run_bind,run_underlying hu0,run_underlying hu1,Result.andThen,a0 hT.dC]
 simp only[pure,Sem.run,Result.andThen,Builtin.lenOf,Dp,if_false,hfit,if_true,Sem.run_bind,EV]
 rw[hx]
 cases base with
 |none=>simp only[hno rfl];rfl
 |some ad=>simp only[hst ad rfl,Sem.run_bind,Result.andThen];rfl
theorem iX{P:Program}{ats:Array TypeId}{el:TypeId}{z:Nat}{i:TypeInfo}{zv:Value}(hT:tB P ats el z i zv){ty:TypeId}{base q:Option Addr}{sl sc m mc:Nat}{cells old:Array Value}
 (hx:∀w',w'.heap=w.heap→(Builtin.firstCells z m (.slice q m mc)).run P w'=.ok cells w') (ho:∀w',w'.heap=w.heap→(Builtin.firstCells z sl (.slice base sl sc)).run P w'=.ok old w') (hfit:¬sl+m≤sc) (hb:(sl+m)*i.bytes≤bW) :
 ∃nc w' vs ty',sl+m≤nc∧(w'.heap=w.heap.push (.cells vs ty')∧w'.os=w.os∧w'.output=w.output)∧(∃rest,vs=old++cells++rest∧rest.size=(nc-(sl+m))*z)∧
  (Builtin.append_ ats ty #[.slice base sl sc,.slice q m mc]).run P w=.ok (.slice (some ⟨w.heap.size,0,none⟩) (sl+m) nc) w':=by
 obtain⟨t0,h0,hu0⟩:=hT.t0
 obtain⟨t1,el',h1,hu1⟩:=hT.t1
 have hbp:=hT.Cl
 have hml:bW=1099511627776:=rfl
 have g1:¬Builtin.nextslicecap (sl+m) sc*i.bytes>2 ^ 48:=by
  have:=growslice_fits (need:=sl+m) (old:=sc) (bytes:=i.bytes) (by omega) (by omega)
  omega
 have hle:sl+m≤(sl+m)*i.bytes:=Nat.le_mul_of_pos_right _ hbp
 have g2:¬(9223372036854775807<((sl:Int)+(m:Int))):=by omega
 have g1':¬(281474976710656<Builtin.nextslicecap (sl+m) sc*i.bytes):=by omega
 refine⟨grownCap w (sl+m) sc el,w.drew.alloc (.cells (old++cells++Builtin.zeroCells zv.cells (grownCap w (sl+m) sc el-(sl+m))) el),_,el,?_,⟨rfl,rfl,rfl⟩,⟨_,rfl,by simp[Builtin.zeroCells,hT.CB]⟩,?_⟩
 ·show sl+m≤(sl+m)+_%_
  omega
 ·have hf:=hx w.drew rfl
  have hfo:=ho w.drew rfl
  have hi:=hT.inf
  have hsz:=hT.size
  have hz:=hT.zero
  simp[Builtin.append_,h0,h1,run_underlying hu0,run_underlying hu1,sizeOf,typeInfo,zeroValue,hi,hz,hsz,Builtin.lenOf,hfit,g2,g1',Question.forced,hf,hfo,newRow,grownCap]
end
end
section
section
variable{C:Ctx}{ρ:Map}{F:Nat→Prop}{H H':ab}{w:World}{e:Env}{a:Act}{s c d:SV}
theorem gQ{vs ws:Array Value}{at_:Nat}{cs:List SV}(hc:aT w F ρ vs at_ cs):aT w F ρ (vs++ws) at_ cs:=by
 intro j c hj
 obtain⟨v,h1,h2⟩:=hc j c hj
 have:=(Dh.1 h1).1
 exact⟨v,by rw[Ff this];exact h1,h2⟩
theorem nf{vs ws:Array Value}{at_:Nat}{cs:List SV}(hc:aT w F ρ ws at_ cs):aT w F ρ (vs++ws) (vs.size+at_) cs:=by
 intro j c hj
 obtain⟨v,h1,h2⟩:=hc j c hj
 refine⟨v,?_,h2⟩
 rw[Array.getElem?_append_right (by omega),show vs.size+at_+j-vs.size=at_+j by omega]
 exact h1
theorem mQ{vs ws rest:Array Value}{z:Nat}{Y X:List (List SV)}(hy:cx w F ρ vs 0 z Y)(hs:vs.size=Y.length*z)(hx:cx w F ρ ws 0 z X):cx w F ρ (vs++ws++rest) 0 z (Y++X):=by
 refine⟨fun i cs hi=>?_,fun i cs hi=>?_⟩<;>rw[D5]at hi<;>split at hi
 ·exact hy.1 i cs hi
 ·exact hx.1 _ cs hi
 ·exact gQ (gQ (hy.2 i cs hi))
 ·rename_i hge
  have:=gQ (ws:=rest) (nf (vs:=vs) (hx.2 _ cs hi))
  rw[hs,Ea,←DW,show Y.length+(i-Y.length)=i by omega]at this
  rwa [Ea]
theorem mN{vs xs:Array Value}{z base off cap:Nat}{L X:List (List SV)}(hL:∀(i:Nat) cs,L[i]?=some cs→cs.length=z)(hc:∀(i:Nat) cs,L[i]?=some cs→aT w F ρ vs (base+i*z) cs)(hx:cx w F ρ xs 0 z X)(hn:xs.size=X.length*z)
 (ho:off≤L.length) (hfit:off+X.length≤cap) (hLc:L.length≤cap) (hsz:base+cap*z≤vs.size) :
 cx w F ρ (ie vs (base+off*z) xs.toList) base z (L.take off++X++L.drop (off+X.length)):=by
 have hm:(off+X.length)*z≤cap*z:=DO z hfit
 rw[DW]at hm
 have hle:base+off*z+xs.toList.length≤vs.size:=by simp;omega
 have ht:(L.take off).length=off:=by simp;omega
 have key:∀(i:Nat) cs,(L.take off++X++L.drop (off+X.length))[i]?=some cs→(off≤i∧i<off+X.length∧X[i-off]?=some cs)∨((i<off∨off+X.length≤i)∧L[i]?=some cs):=by
  intro i cs hi
  rw[C9,D5,ht]at hi
  split at hi
  ·rename_i hlt
   rw[Dk,if_pos hlt]at hi
   exact .inr ⟨.inl hlt,hi⟩
  ·rename_i hge
   rw[D5]at hi
   split at hi
   ·exact .inl ⟨by omega,by omega,hi⟩
   ·rename_i h2
    rw[Dx,show off+X.length+(i-off-X.length)=i by omega]at hi
    exact .inr ⟨.inr (by omega),hi⟩
 refine⟨fun i cs hi=>?_,fun i cs hi=>?_⟩
 ·rcases key i cs hi with⟨_,_,h⟩|⟨_,h⟩
  ·exact hx.1 _ cs h
  ·exact hL i cs h
 ·rcases key i cs hi with⟨h1,h2,h⟩|⟨h1,h⟩
  ·intro j c hj
   have hjl:=(C7.1 hj).1
   rw[hx.1 _ cs h]at hjl
   obtain⟨v,p1,p2⟩:=hx.2 _ cs h j c hj
   refine⟨v,?_,p2⟩
   have hp:=(Dh.1 p1).1
   have e1:i*z=off*z+(i-off)*z:=by rw[←DW];congr 1;omega
   rw[fD hle,if_neg (by omega),if_pos (by simp;omega),Fy]
   rw[show base+i*z+j-(base+off*z)=0+(i-off)*z+j by omega]
   exact p1
  ·refine gT (n:=0) (hc i cs h) hle ?_
   rw[hL i cs h]
   simp only[EM,hn]
   rcases h1 with h1|h1
   ·left
    have:(i+1)*z≤off*z:=DO z h1
    rw[DW,EF]at this
    omega
   ·right
    have:(off+X.length)*z≤i*z:=DO z h1
    rw[DW]at this
    omega
theorem qW{vs:Array Value}{z at_ N:Nat}{X:List (List SV)}(h:cx w F ρ vs at_ z X)(hN:SV.refs.aK X.flatten≤N):cx w F (ρ.cut N) vs at_ z X:=by
 refine⟨h.1,fun i cs hi j c hj=>?_⟩
 obtain⟨v,h1,h2,h3⟩:=h.2 i cs hi j c hj
 have hm:c∈X.flatten:=Fh.2 ⟨cs,Dm hi,Dm hj⟩
 obtain⟨m,hm⟩:=DC hm
 exact⟨v,h1,h2.cut N (cM hN m c hm),h3⟩
def oe(ρ ρ1:Map)(r:Nat):Prop:=ρ1=ρ∨∃N,r≤N∧ρ1=ρ.cut N
theorem ja{vs:Array Value}{z at_:Nat}{X:List (List SV)}{ρ1:Map}(h:cx w F ρ vs at_ z X)(hN:oe ρ ρ1 (SV.refs.aK X.flatten)):cx w F ρ1 vs at_ z X:=by
 rcases hN with rfl|⟨N,hN,rfl⟩
 ·exact h
 ·exact qW h hN
theorem fv{ats:Array TypeId}{el:TypeId}{z:Nat}{i:TypeInfo}{zv:Value}(hT:tB C.P ats el z i zv){ty:TypeId}(hr:HR C ρ F H w){Y X:List (List SV)}{sv xv:Value}{base:Option Addr}{sc:Nat}(hsv:VR w F ρ s sv)(hxv:VR w F ρ c xv)
 (hY:ig z H s=some Y) (hX:ig z H c=some X) (he:sv=.slice base Y.length sc) (hg:¬Y.length+X.length≤sc) (hb:(Y.length+X.length)*i.bytes≤bW) :
 ∃nc w' vs ty',Y.length+X.length≤nc∧(w'.heap=w.heap.push (.cells vs ty')∧w'.os=w.os∧w'.output=w.output)∧nc*z≤vs.size∧(∀ρ1:Map,uc C w F H ρ ρ1 s→oe ρ ρ1 (SV.refs.aK X.flatten)→cx w F ρ1 vs 0 z (Y++X))∧
  (Builtin.append_ ats ty #[sv,xv]).run C.P w=.ok (.slice (some ⟨w.heap.size,0,none⟩) (Y.length+X.length) nc) w':=by
 obtain⟨q,mc,cells,rfl,k1,k2,k3⟩:=fW hr hT.sE hxv hX
 obtain⟨q',mc',old,h1,j1,j2,j3⟩:=fW hr hT.sE hsv hY
 subst he
 cases h1
 obtain⟨nc,w',vs,ty',g1,g2,⟨rest,g3,g4⟩,g5⟩:=iX hT (ty:=ty) k1 j1 hg hb
 refine⟨nc,w',vs,ty',g1,g2,?_,?_,g5⟩
 ·rw[g3]
  simp only[Array.size_append,j2,k2,g4]
  rw[←DW,←DW]
  exact DO z (by omega)
 ·intro ρ1 h1 h2
  rw[g3];exact mQ (j3 ρ1 h1) j2 (ja (k3 ρ (cH hr)) h2)
theorem mb(hr:HR C ρ F H w){b bB z:Nat}{L L':List (List SV)}{ex:Bool}{l:Loc}{refs:Nat}(hb:aQ H b=some (.arr bB z L ex))(hl:ρ b=some l)(hbr:BR C w F ρ l (.arr bB z L ex))
 (hH:bF H b (.arr (bB+1) z L' false) refs=some H') {w':World} {l':Loc} (hv':l'.bB=bB+1) (ha:l'.arr=true) (hs:w.heap.size≤w'.heap.size) (hh:∀B,B<w.heap.size→(l.aU=false→B≠l.bu)→w'.heap[B]?=w.heap[B]?)
 (hl':l'.aU=false→(l.aU=false∧l'.bu=l.bu)∨(w.heap.size≤l'.bu∧l'.bu<w'.heap.size))
 (hy:∀ρ1:Map,oe ρ ρ1 refs→BR C w F ρ1 l (.arr bB z L ex)→BR C w' F (ρ1.put b l') l' (.arr (bB+1) z L' false)) {off n:Nat} {val:Value} (hone:fJ val=true)
 (hval:(l'.aU=true→∃a,val=.slice a 0 0∧off=0∧n=0)∧
  (l'.aU=false→off+n≤l'.cap∧∃a,val=.slice a n (l'.cap-off)∧(off<l'.cap→a=some ⟨l'.bu,l'.base+off*l'.a8,none⟩))) (hout:w'.os=w.os∧w'.output=w.output:=by exact⟨rfl,rfl⟩) :
 bX C ρ F H w (.bt b (bB+1) off n) H' val w':=by
 obtain⟨p1,p2⟩:=hr.set (w':=w') hH hb rfl hl hs hh hl' (.inr ⟨hbr.1,by have:=hbr.2.1;omega⟩) (fun _=>hy ρ (.inl rfl) hbr) (fun _ N hN hbN h=>by
  have:=hy (ρ.cut N) (.inr ⟨N,hN,rfl⟩) h
  have e:(ρ.put b l').cut N=(ρ.cut N).put b l':=by
   funext b'
   unfold Map.cut Map.put
   by_cases e:b'=b
   ·subst e;simp[hbN]
   ·simp[e]
  rw[e];exact this) (hout:=hout)
 exact⟨_,F,.bt (Map.aS _ _ _) (by omega) hone (fun _=>hval),p1,p2⟩
theorem eJ{ats:Array TypeId}{el:TypeId}{z:Nat}{i:TypeInfo}{zv:Value}(hT:tB C.P ats el z i zv){ty:TypeId}(hr:HR C ρ F H w){xv:Value}{base:Option Addr}{sl sc:Nat}(hxv:VR w F ρ c xv)
 (hX:ig z H c=some []) (hg:sl≤sc):(Builtin.append_ ats ty #[.slice base sl sc,xv]).run C.P w=.ok (.slice base sl sc) w:=by
 obtain⟨q,mc,cells,rfl,k1,k2,k3⟩:=fW hr hT.sE hxv hX
 have h0:cells= #[]:=EG (by simpa using k2)
 subst h0
 have:=run_append_fits hT (ty:=ty) (base:=base) (k1 w rfl) (by simpa using hg) (w':=w) (fun ad _=>rfl) (fun _=>rfl)
 simpa using this
theorem iA{ats:Array TypeId}{el:TypeId}{z:Nat}{i:TypeInfo}{zv:Value}(hT:tB C.P ats el z i zv){ty:TypeId}(hr:HR C ρ F H w){X:List (List SV)}{xv:Value}{b v off n:Nat}{L:List (List SV)}{ex:Bool}{l:Loc}
 (hxv:VR w F ρ c xv) (hX:ig z H c=some X) (hb:aQ H b=some (.arr v z L ex)) (hl:ρ b=some l) (hbr:BR C w F ρ l (.arr v z L ex)) (hvi:l.aU=false) (hle:off+n≤L.length) (hfit:off+n+X.length≤l.cap) :
 ∃vs' ty' fz,(Builtin.append_ ats ty #[.slice (some ⟨l.bu,l.base+off*z,none⟩) n (l.cap-off),xv]).run C.P w=.ok (.slice (some ⟨l.bu,l.base+off*z,none⟩) (n+X.length) (l.cap-off)) (cX w l.bu vs' ty' fz)∧
  fZ fz vs'.size∧l.base+l.cap*z≤vs'.size∧(∀ρ1:Map,BR C w F ρ1 l (.arr v z L ex)→oe ρ ρ1 (SV.refs.aK X.flatten)→cx (cX w l.bu vs' ty' fz) F ρ1 vs' l.base z (L.take (off+n)++X++L.drop (off+n+X.length)))∧(cX w l.bu vs' ty' fz).heap[l.bu]?=some (.cells vs' ty' fz):=by
 obtain⟨q,mc,cells,rfl,k1,k2,k3⟩:=fW hr hT.sE hxv hX
 obtain⟨h1,h2,h3,h4,h5,h6,h7,h8⟩:=hbr
 obtain⟨vs,ty',fz,g1,g2,g3,g4⟩:=h8 hvi
 have hm:(off+n+X.length)*z≤l.cap*z:=DO z hfit
 rw[DW]at hm
 have hsz:(ie vs (l.base+(off+n)*z) cells.toList).size=vs.size:=fe (by simp;omega)
 have hlt:l.bu<w.heap.size:=(Dh.1 g1).1
 have hst:=ck (P:=C.P) l.bu (l.base+(off+n)*z) ty' fz cells.toList 0 vs w g1 g2 (by simp;omega) (fun x hx=>pr (k3 ρ (cH hr)) k2 x hx)
 refine⟨ie vs (l.base+(off+n)*z) cells.toList,ty',fz,?_,by rw[hsz];exact g2,by rw[hsz];exact g3,?_,fb hlt⟩
 ·refine run_append_fits hT (k1 w rfl) (by omega) (fun ad hd=>?_) (fun h=>by cases h)
  cases hd
  rw[bP,show l.base+off*z+n*z=l.base+(off+n)*z by rw[DW];omega]
  exact hst
 ·intro ρ1 hb1 hc1
  obtain⟨_,_,_,_,_,_,_,q8⟩:=hb1
  obtain⟨vs2,ty2,fz2,m1,m2,m3,m4⟩:=q8 hvi
  rw[g1]at m1;cases m1
  have:=mN (xs:=cells) h4 m4 (ja (k3 ρ (cH hr)) hc1) k2 hle hfit h5 g3
  have hk:b9 F w (cX w l.bu (ie vs (l.base+(off+n)*z) cells.toList) ty' fz):=fo hr hb rfl hl hvi
  exact⟨this.1,fun j cs hj=>(this.2 j cs hj).mono hk (fun _ h=>h) (Map.le_refl _)⟩
theorem qh{ats:Array TypeId}{el:TypeId}{z:Nat}{i:TypeInfo}{zv:Value}(hT:tB C.P ats el z i zv){ty:TypeId}(hr:HR C ρ F H w){X:List (List SV)}{sv xv:Value}(hsv:VR w F ρ s sv)(hxv:VR w F ρ c xv)
 (hX:ig z H c=some X) (h:fI z i.bytes H s X=some (d,H')):∃val w',(Builtin.append_ ats ty #[sv,xv]).run C.P w=.ok val w'∧bX C ρ F H w d H' val w':=by
 have hz:=hT.sE
 unfold fI at h
 split at h
 ·rename_i z0 L f
  replace h:=aa h
  obtain⟨hb,h⟩:=h
  replace hb:=D4 hb
  cases hsv with
  |aP V hcap hfull hz' hat h1 hv=>
   rename_i q cap
   split at h
   ·replace h:=aa h
    obtain⟨hf,h⟩:=h
    simp only[Dd,Df]at h
    obtain⟨rfl,rfl⟩:=h
    have hc0:cap=0:=hfull hf
    subst hc0
    cases X with
    |nil=>
     refine⟨_,w,eJ hT hr hxv hX (De _),?_⟩
     let l:Loc:={bu:=0,base:=0,cap:=0,a8:=z,bB:=0,aU:=true,arr:=true}
     have hp:=hr.push (w':=w) (De _) (fun _ _=>rfl) (.arr 0 z [] false) l (fun h=>by cases h) ⟨rfl,rfl,rfl,by simp,De _,(fun h=>by cases h),fun _=>rfl,fun h=>by cases h⟩
     exact⟨_,F,.bt (l:=l) (Map.aS _ _ _) (De _) rfl (fun _=>⟨fun _=>⟨q,rfl,rfl,rfl⟩,fun h=>by cases h⟩),hp.1,hp.2⟩
    |cons x X=>
     obtain⟨nc,w',vs,ty',g1,g2,g3,g4,g5⟩:=fv hT (ty:=ty) hr (.aP V hcap hfull hz' hat h1 hv) hxv (Y:=[]) (by simp[ig]) hX rfl (by simp) hb
     refine⟨_,w',g5,?_⟩
     have:=gj hr (ex:=false) (hout:=g2.2) g2.1 (by simpa using g1) (fun h=>by cases h) g3 (g4 ρ (cH hr) (.inl rfl)) (x::X).length (by simp)
     simpa using this
   ·simp only[Dd,Df]at h
    obtain⟨rfl,rfl⟩:=h
    exact⟨_,w,eJ hT hr hxv hX hcap,bX.same hr (.aP V hcap hfull hz' hat h1 hv)⟩
   ·rename_i hne1 hne2
    replace h:=aa h
    obtain⟨hf,h⟩:=h
    simp only[Db,D0]at hf
    obtain⟨hf,rfl⟩:=hf
    simp only[Dd,Df]at h
    obtain⟨rfl,rfl⟩:=h
    have hc0:=hfull hf
    have hX0:0<X.length:=by
     cases X with
     |nil=>exact absurd rfl hne2
     |cons _ _=>simp
    obtain⟨nc,w',vs,ty',g1,g2,g3,g4,g5⟩:=fv hT (ty:=ty) hr (.aP V hcap hfull hz' hat h1 hv) hxv (Y:=L) (by simp[ig]) hX rfl (by omega) hb
    refine⟨_,w',g5,?_⟩
    have:=gj hr (ex:=false) (hout:=g2.2) g2.1 (by simpa using g1) (fun h=>by cases h) g3 (g4 ρ (cH hr) (.inl rfl)) (L.length+X.length) (by simp)
    simpa using this
 ·rename_i b v off n
  replace h:=aa h
  obtain⟨hb,h⟩:=h
  replace hb:=D4 hb
  split at h
  ·rename_i v' z' L ex hg
   replace h:=aa h
   obtain⟨hc,h⟩:=h
   simp only[Db,D0,Dc]at hc
   obtain⟨⟨rfl,rfl⟩,hle⟩:=hc
   have hY:ig z' H (.bt b v off n)=some ((L.drop off).take n):=by
    simp[ig,hg,hle]
   have hYl:((L.drop off).take n).length=n:=by simp;omega
   obtain⟨l,z2,L2,ex2,hl,hb2,hbr,g1,g2⟩:=ct hr (by unfold cur;simp[hg]) hsv
   rw[hg]at hb2;cases hb2
   have hbr':=hbr
   obtain⟨b1,b2,b3,b4,b5,b6,b7,b8⟩:=hbr'
   obtain⟨base,sc,hse,hsc⟩:∃base sc,sv=.slice base n sc∧n≤sc:=by
    cases hvi:l.aU with
    |true=>obtain⟨q,p1,p2,p3⟩:=g1 hvi;exact⟨q,0,by rw[p1,p3],by omega⟩
    |false=>obtain⟨p1,q,p2,p3⟩:=g2 hvi;exact⟨q,_,p2,by omega⟩
   cases hi:(!ex&&off==0&&n==L.length)with
   |true=>
    rw[hi]at h
    simp only[Db,D0,D7]at hi
    obtain⟨⟨he0,rfl⟩,hn⟩:=hi
    simp only[Du,C5,Df]at h
    obtain⟨H1,hH,rfl,rfl⟩:=h
    have hY':(L.drop 0).take n=L:=by rw[hn];simp
    rw[hY']at hY hYl
    have hLX:∀(j:Nat) cs,(L++X)[j]?=some cs→cs.length=z':=fun j cs hj=>by
     rw[D5]at hj
     obtain⟨q,mc,cells,_,_,_,k3⟩:=fW hr hz hxv hX
     split at hj
     ·exact b4 j cs hj
     ·exact(k3 ρ (cH hr)).1 _ cs hj
    have hle':∀(ρ1:Map) (l':Loc),oe ρ ρ1 (SV.refs.aK X.flatten)→l'.bB=v+1→ρ1.le (ρ1.put b l'):=fun ρ1 l' hc hv' b' l1 h1=>by
     have h2:ρ b'=some l1:=by
      rcases hc with rfl|⟨N,_,rfl⟩
      ·exact h1
      ·unfold Map.cut at h1
       split at h1
       ·exact h1
       ·cases h1
     by_cases e:b'=b
     ·subst e;rw[hl]at h2;cases h2;exact⟨_,Map.aS _ _ _,.inr ⟨b1,by omega⟩⟩
     ·exact⟨l1,by rw[Map.aM _ _ e];exact h1,.inl rfl⟩
    by_cases hX0:X=[]
    ·subst hX0
     subst hse
     refine⟨_,w,eJ hT hr hxv hX hsc,?_⟩
     rw[Er]at hH
     refine mb hr hg hl hbr hH (w':=w) (l':={l with bB:=v+1}) rfl b1 (De _) (fun _ _ _=>rfl) (fun h=>.inl ⟨h,rfl⟩) (fun ρ1 hρ1 hbr1=>⟨b1,rfl,b3,b4,b5,(fun h=>by cases h),b7,fun h=>?_⟩) rfl ⟨fun h=>?_,fun h=>?_⟩
     ·obtain⟨vs,ty',fz,e1,e2,e3,e4⟩:=hbr1.2.2.2.2.2.2.2 h
      exact⟨vs,ty',fz,e1,e2,e3,fun j cs hj=>(e4 j cs hj).mono (fun _ _=>rfl) (fun _ h=>h) (hle' ρ1 _ hρ1 rfl)⟩
     ·obtain⟨q,p1,p2,p3⟩:=g1 h
      exact⟨q,by rw[p1],p2,by simpa using p3⟩
     ·obtain⟨p1,q,p2,p3⟩:=g2 h
      exact⟨by simpa using p1,q,by simpa using p2,by simpa using p3⟩
    ·have hXp:0<X.length:=by
      cases X with
      |nil=>exact absurd rfl hX0
      |cons _ _=>simp
     by_cases hfit:l.aU=false∧n+X.length≤l.cap
     ·obtain⟨hvi,hfit⟩:=hfit
      obtain⟨p1,q,p2,p3⟩:=g2 hvi
      have:=p3 (by omega)
      subst this
      rw[p2,b3]
      obtain⟨vs',ty',fz,e1,e2,e3,e4,e5⟩:=iA hT (ty:=ty) hr hxv hX hg hl hbr hvi hle (by omega)
      refine⟨_,_,e1,?_⟩
      have hc:L.take (0+n)++X++L.drop (0+n+X.length)=L++X:=by
       rw[Ea,hn,Fi,E3 (by omega),Er]
      refine mb hr hg hl hbr hH (l':={l with bB:=v+1}) rfl b1 (by rw[lj];exact De _) (fun B _ hB=>ed (hB hvi)) (fun h=>.inl ⟨h,rfl⟩) (fun ρ1 hρ1 hbr1=>⟨b1,rfl,b3,hLX,by simp;omega,(fun h=>by cases h),b7,fun h=>?_⟩) rfl ⟨fun h=>?_,fun h=>?_⟩
      ·have e6:=e4 ρ1 hbr1 hρ1
       rw[hc]at e6
       exact⟨vs',ty',fz,e5,e2,e3,fun j cs hj=>(e6.2 j cs hj).mono (fun _ _=>rfl) (fun _ h=>h) (hle' ρ1 _ hρ1 rfl)⟩
      ·simp[hvi]at h
      ·exact⟨by simpa using hfit,_,rfl,fun _=>by simp[b3]⟩
     ·have hg':¬L.length+X.length≤sc:=by
       cases hvi:l.aU with
       |true=>obtain⟨q,p1,p2,p3⟩:=g1 hvi;rw[p1]at hse;cases hse;omega
       |false=>obtain⟨p1,q,p2,p3⟩:=g2 hvi;rw[p2]at hse;cases hse;have:¬n+X.length≤l.cap:=fun h=>hfit ⟨hvi,h⟩;omega
      obtain⟨nc,w',vs,ty',e1,e2,e3,e4,e5⟩:=fv hT (ty:=ty) hr hsv hxv hY hX (by rw[hse,hn]) hg' (by rw[←hn];exact hb)
      refine⟨_,w',e5,?_⟩
      have hkeep:∀B,B<w.heap.size→w'.heap[B]?=w.heap[B]?:=fun B hB=>by
       rw[e2.1];simp[Ew,Ex hB]
      rw[hn]
      refine mb hr hg hl hbr hH (hout:=e2.2) (l':={bu:=w.heap.size,base:=0,cap:=nc,a8:=z',bB:=v+1,aU:=false,arr:=true}) rfl rfl (by rw[e2.1];simp) (fun B hB _=>hkeep B hB) (fun _=>.inr ⟨De _,by rw[e2.1];simp⟩)
       (fun ρ1 hρ1 hbr1=>⟨rfl,rfl,rfl,hLX,by simpa using e1,(fun h=>by cases h),(fun h=>by cases h),fun _=>?_⟩) rfl ⟨fun h=>(by cases h),fun _=>⟨by simpa using e1,_,rfl,fun _=>by simp⟩⟩
      have e6:=e4 ρ1 (fun b' _ _ _ l2 x hs h1 h2 _=>by cases hs;rw[hl]at h1;cases h1;rw[hg]at h2;cases h2;exact hbr1) hρ1
      exact⟨vs,ty',(0,0),by rw[e2.1];simp,fun o ho=>by simp,by simpa using e3,fun j cs hj=>(e6.2 j cs hj).mono (fun B hB=>hkeep B (hr.eB B hB)) (fun _ h=>h) (hle' ρ1 _ hρ1 rfl)⟩
   |false=>
    rw[hi]at h
    simp only[Dw]at h
    cases hfit:decide (off+n+X.length≤L.length)with
    |true=>
     rw[hfit]at h
     replace hfit:=D4 hfit
     simp only[Du,C5,Df]at h
     obtain⟨H1,hH,rfl,rfl⟩:=h
     by_cases hX0:X=[]
     ·subst hX0
      subst hse
      refine⟨_,w,eJ hT hr hxv hX hsc,?_⟩
      rw[Er,D8,EZ,FA]at hH
      obtain⟨p1,p2⟩:=hr.set (w':=w) (l':=l) hH hg rfl hl (De _) (fun _ _ _=>rfl) (fun h=>.inl ⟨h,rfl⟩) (.inl rfl) (fun _=>by rw[bk hl];exact hbr) (fun _ N _ _ h=>by rw[bk hl];exact h)
      rw[bk hl]at p1 p2
      exact⟨ρ,F,hsv,p1,p2⟩
     ·have hXp:0<X.length:=by
       cases X with
       |nil=>exact absurd rfl hX0
       |cons _ _=>simp
      have hvi:l.aU=false:=by
       cases hvi:l.aU with
       |true=>have:=b7 hvi;omega
       |false=>rfl
      obtain⟨p1,q,p2,p3⟩:=g2 hvi
      have:=p3 (by omega)
      subst this
      rw[p2,b3]
      obtain⟨vs',ty',fz,e1,e2,e3,e4,e5⟩:=iA hT (ty:=ty) hr hxv hX hg hl hbr hvi hle (by omega)
      refine⟨_,_,e1,?_⟩
      have hlen:(L.take (off+n)++X++L.drop (off+n+X.length)).length=L.length:=by simp;omega
      obtain⟨r1,r2⟩:=gr (vs':=vs') (ty:=ty') (fz:=fz) hr hH hg rfl hl hvi (fun _ ρ1 hρ1 hbr1=>⟨b1,b2,b3,(e4 ρ1 hbr1 hρ1).1,by rw[hlen];exact b5,by rw[hlen];exact b6,b7,fun _=>⟨vs',ty',fz,e5,e2,e3,(e4 ρ1 hbr1 hρ1).2⟩⟩)
      exact⟨ρ,F,.bt hl (by omega) rfl (fun _=>⟨fun h=>(by rw[hvi]at h;cases h),fun _=>⟨by omega,_,rfl,fun _=>by rw[b3]⟩⟩),r1,r2⟩
    |false=>
     rw[hfit]at h
     replace hfit:=Dv hfit
     simp only[Dw]at h
     replace h:=aa h
     obtain⟨hex,h⟩:=h
     simp only[Dd,Df]at h
     obtain⟨rfl,rfl⟩:=h
     have hcap:=b6 hex
     have hg':¬((L.drop off).take n).length+X.length≤sc:=by
      rw[hYl]
      cases hvi:l.aU with
      |true=>obtain⟨q,p1,p2,p3⟩:=g1 hvi;rw[p1]at hse;cases hse;have:=b7 hvi;omega
      |false=>obtain⟨p1,q,p2,p3⟩:=g2 hvi;rw[p2]at hse;cases hse;omega
     obtain⟨nc,w',vs,ty',e1,e2,e3,e4,e5⟩:=fv hT (ty:=ty) hr hsv hxv hY hX (by rw[hse,hYl]) hg' (by rw[hYl];exact hb)
     refine⟨_,w',e5,?_⟩
     rw[hYl]
     exact gj hr (ex:=false) (hout:=e2.2) e2.1 (by simpa using e1) (fun h=>by cases h) e3 (e4 ρ (cH hr) (.inl rfl)) _ (by rw[C8,hYl];exact De _)
  ·cases h
 ·cases h
end
end
section
section
variable{C:Ctx}{ρ:Map}{F:Nat→Prop}{H H':ab}{w:World}{e:Env}{a:Act}{s c d:SV}
theorem wrap_small{n:Int}(h0:0≤n)(h1:n≤bW):IntKind.i64.wrap n=n:=by
 have:bW=1099511627776:=rfl
 rw[IntKind.wrap_i64];omega
theorem oy{t el:TypeId}{i:TypeInfo}{z:List SV}(hu:C.P.underlying t=some (.slice el))(hi:C.P.info? el=some i)(hz:eh C.P el=some z)(hzl:z.length=i.size)(h0:0<i.size)(hbp:0<i.bytes)(hr:HR C ρ F H w)
 {lv cv:Value} {ls cs:SV} (hl:VR w F ρ ls lv) (hc:VR w F ρ cs cv) (h:jY i.size z i.bytes H ls cs=some (d,H')):∃val w',(Instr.makeSlice t lv cv).run C.P w=.ok val w'∧bX C ρ F H w d H' val w':=by
 unfold jY at h
 split at h
 ·rename_i l c
  replace h:=aa h
  obtain⟨hb,h⟩:=h
  simp only[Db,Dc]at hb
  obtain⟨⟨h1,h2⟩,h3⟩:=hb
  simp only[Dd,Df]at h
  obtain⟨rfl,rfl⟩:=h
  obtain rfl:=dz hl
  obtain rfl:=dz hc
  obtain⟨i',v,hi',hv,k1,k2⟩:=dO (w:=w) (F:=F) (ρ:=ρ) hz
  rw[hi]at hi';cases hi'
  have hzr:(bC v.cells (c.toNat*i.size)).size=c.toNat*i.size:=by simp[bC]
  have hrow:=fH (n:=c.toNat) hzl k1 k2 h0
  refine⟨.slice (some ⟨w.heap.size,0,none⟩) l.toNat c.toNat,{w with heap:=w.heap.push (.cells (bC v.cells (c.toNat*i.size)) el)},?_,gj hr rfl (by simp) (fun _=>by simp) (by rw[hzr];exact De _) hrow l.toNat (by simp;omega)⟩
  have hm:c≤c*i.bytes:=by
   have:c*1≤c*i.bytes:=Et (by omega) (by omega)
   omega
  have hml:(bW:Int)=1099511627776:=rfl
  have wl:IntKind.i64.wrap l=l:=wrap_small h1 (by omega)
  have wc:IntKind.i64.wrap c=c:=wrap_small (by omega) (by omega)
  have n1:¬c<0:=by omega
  have n2:¬(281474976710656<(i.bytes:Int)*c):=by rw[Int.mul_comm];omega
  have n3:¬l<0:=by omega
  have n4:¬c<l:=by omega
  by_cases hn:c.toNat*i.size=0
  ·have hzz:(Array.range (c.toNat*i.size)).map (fun x=>(#[]:Array Value)[x%(#[]:Array Value).size]!)=bC v.cells (c.toNat*i.size):=by
    unfold bC;rw[hn];simp
   have hask:∀w:World,(askRoom (c.toNat*i.bytes)).run C.P w=.ok () w:=fun w=>by unfold askRoom;split<;>rfl
   unfold Instr.makeSlice
   simp only[Sem.run_bind,run_underlying hu,Result.andThen,run_typeInfo _ hi,asInt,asIntOf,pure,Sem.run,wl,wc,hask]
   simp[n1,n2,n3,n4,hask,sizeOf,typeInfo,hi,newRow,hn]
   have hr0:Array.range 0= #[]:=EG (by simp)
   simp[bC,hr0]
  ·have hask:∀w:World,(askRoom (c.toNat*i.bytes)).run C.P w=.ok () w:=fun w=>by unfold askRoom;split<;>rfl
   unfold Instr.makeSlice
   simp only[Sem.run_bind,run_underlying hu,Result.andThen,run_typeInfo _ hi,asInt,asIntOf,pure,Sem.run,wl,wc,hask]
   simp[n1,n2,n3,n4,hask,sizeOf,typeInfo,hi,newRow,hn,zeroValue,hv,bC]
 ·cases h
end
end
section
section
variable{C:Ctx}{ρ:Map}{F:Nat→Prop}{H H':ab}{w:World}{e:Env}{a:Act}{s c d:SV}
theorem eH:∀(sh:List LK) (x y:List SV) (r:Bool),bg sh x y=some r→x.length=sh.length∧y.length=sh.length
 |[],x,y,r,h=>by
  unfold bg at h
  split at h<;>first|(simp;done)|(simp_all;done)
 |k::sh,x,y,r,h=>by
  unfold bg at h
  split at h
  ·rename_i h1;cases h1
  ·rename_i sh' k1 p1 x' k2 p2 y' h1
   cases h1
   replace h:=aa h
   simp only[C5]at h
   obtain⟨_,r',h2,_⟩:=h
   have:=eH sh x' y' r' h2
   simp[this]
  ·rename_i sh' p1 x' p2 y' h1
   cases h1
   simp only[C5]at h
   obtain⟨r',h2,_⟩:=h
   have:=eH sh x' y' r' h2
   simp[this]
  ·rename_i sh' p1 x' p2 y' h1
   cases h1
   simp only[C5]at h
   obtain⟨r',h2,_⟩:=h
   have:=eH sh x' y' r' h2
   simp[this]
  ·cases h
theorem fU{k:LK}{c d:SV}{r:Bool}(h:bg [k] [c] [d]=some r):(∃q p p',k=.i∧c=.int q p∧d=.int q p'∧r=decide (p=p'))∨(∃p p',k=.b∧c=.bool p∧d=.bool p'∧r=(p==p'))∨
 (∃p p',k=.s∧c=.str p∧d=.str p'∧r=decide (p=p')):=by
 unfold bg at h
 split at h
 ·simp_all
 ·rename_i sh q p x q2 p2 y h1 h2 h3
  cases h1;cases h2;cases h3
  replace h:=aa h
  simp only[C5]at h
  obtain⟨hk,r',h3,rfl⟩:=h
  have:r'=true:=by simpa[bg]using h3.symm
  subst this
  have:q=q2:=by simpa using hk
  subst this
  exact .inl ⟨_,_,_,rfl,rfl,rfl,by simp⟩
 ·rename_i sh p x p2 y h1 h2 h3
  cases h1;cases h2;cases h3
  simp only[C5]at h
  obtain⟨r',h3,rfl⟩:=h
  have:r'=true:=by simpa[bg]using h3.symm
  subst this
  exact .inr (.inl ⟨_,_,rfl,rfl,rfl,by simp⟩)
 ·rename_i sh p x p2 y h1 h2 h3
  cases h1;cases h2;cases h3
  simp only[C5]at h
  obtain⟨r',h3,rfl⟩:=h
  have:r'=true:=by simpa[bg]using h3.symm
  subst this
  exact .inr (.inr ⟨_,_,rfl,rfl,rfl,by simp⟩)
 ·cases h
theorem qn{A:Type}{c:Bool}{x:Option A}{y:A}(h:(bif c then none else x)=some y):c=false∧x=some y:=by
 cases c with
 |true=>cases h
 |false=>exact⟨rfl,h⟩
theorem cz:∀(s1 s2:List LK) (x y:List SV) (r:Bool),bg (s1++s2) x y=some r→
 ∃r1 r2,bg s1 (x.take s1.length) (y.take s1.length)=some r1∧bg s2 (x.drop s1.length) (y.drop s1.length)=some r2∧r=(r1&&r2)
 |[],s2,x,y,r,h=>⟨true,r,by simp[bg],by simpa using h,by simp⟩
 |k::s1,s2,x,y,r,h=>by
  simp only[Eu]at h
  unfold bg at h
  split at h
  ·rename_i h1;cases h1
  ·rename_i sh' k1 p1 x' k2 p2 y' h1
   cases h1
   replace h:=aa h
   simp only[C5]at h
   obtain⟨hk,r',h2,rfl⟩:=h
   obtain⟨r1,r2,h3,h4,rfl⟩:=cz s1 s2 x' y' r' h2
   exact⟨decide (p1=p2)&&r1,r2,by simp[bg,hk,h3],by simpa using h4,by simp[FT]⟩
  ·rename_i sh' p1 x' p2 y' h1
   cases h1
   simp only[C5]at h
   obtain⟨r',h2,rfl⟩:=h
   obtain⟨r1,r2,h3,h4,rfl⟩:=cz s1 s2 x' y' r' h2
   exact⟨(p1==p2)&&r1,r2,by simp[bg,h3],by simpa using h4,by simp[FT]⟩
  ·rename_i sh' p1 x' p2 y' h1
   cases h1
   simp only[C5]at h
   obtain⟨r',h2,rfl⟩:=h
   obtain⟨r1,r2,h3,h4,rfl⟩:=cz s1 s2 x' y' r' h2
   exact⟨decide (p1=p2)&&r1,r2,by simp[bg,h3],by simpa using h4,by simp[FT]⟩
  ·cases h
def tq(P:Program)(w:World)(F:Nat→Prop)(ρ:Map)(dd:Nat)(t:TypeId)(sh:List LK):Prop:=
 ∀(xs ys:Array Value) (cs ds:List SV) (r:Bool) (o:Nat),aT w F ρ xs o cs→aT w F ρ ys o ds→bg sh cs ds=some r→dC P t=some sh.length→
  ∃u v,(part t xs o).run P w=.ok u w∧(part t ys o).run P w=.ok v w∧(Op.equalIn dd t u v).run P w=.ok r w
theorem gq{vs:Array Value}{o i n:Nat}{cs:List SV}(h:aT w F ρ vs o cs):aT w F ρ vs (o+i) ((cs.drop i).take n):=by
 intro j c hj
 rw[Dk]at hj
 split at hj
 ·rw[Dx]at hj
  obtain⟨v,h1,h2,h3⟩:=h _ c hj
  exact⟨v,by rw[Da];exact h1,h2,h3⟩
 ·cases hj
theorem gI{vs:Array Value}{o n:Nat}{cs:List SV}(h:aT w F ρ vs o cs)(hn:cs.length≤n):aT w F ρ (vs.extract o (o+n)) 0 cs:=by
 intro j c hj
 obtain⟨v,h1,h2,h3⟩:=h j c hj
 have hlt:=(C7.1 hj).1
 have hlt':=(Dh.1 h1).1
 refine⟨v,?_,h2,h3⟩
 rw[Ea,Ft,if_pos (by omega)]
 exact h1
theorem oC{P:Program}{t:TypeId}{k k2:IntKind}{p q:Int}{dd:Nat}{q0:IntKind}(hu:P.underlying t=some (.int q0))(hk:k=k2):(Op.equalIn (dd+1) t (.int k p) (.int k2 q)).run P w=.ok (decide (p=q)) w:=by
 subst hk
 simp only[Op.equalIn,Sem.run_bind,run_underlying hu,Result.andThen_ok]
 simp only[if_true,Sem.run_pure]
 congr 1
theorem lr{P:Program}{t:TypeId}{vs:Array Value}{o:Nat}{v:Value}(hag:fh P t=some false)(h:vs[o]?=some v):(part t vs o).run P w=.ok v w:=by
 unfold part
 simp only[Sem.run_bind,cS hag,Result.andThen,Dp,if_false,h]
 rfl
theorem nb{P:Program}{t:TypeId}{vs:Array Value}{o n:Nat}(hag:fh P t=some true)(hsz:dC P t=some n):(part t vs o).run P w=.ok (.agg (vs.extract o (o+n))) w:=by
 unfold part
 simp only[Sem.run_bind,cS hag,Result.andThen,if_true,a0 hsz]
 rfl
def qO(P:Program)(dd:Nat)(acc:List LK)(f:Field):Option (List LK):=
 bif f.name != "_" &&f.offset==acc.length then(cK P dd f.type).bind fun sh=>bif (dC P f.type)==some sh.length then some (acc++sh)else none else none
theorem fm{P:Program}{dd d2:Nat}(ih:∀t sh,cK P dd t=some sh→tq P w F ρ d2 t sh):∀(fs:List Field) (acc sh:List LK) (xs ys:Array Value) (cs ds:List SV) (r:Bool),
 fs.foldlM (qO P dd) acc=some sh→∃rest,sh=acc++rest∧
 (aT w F ρ xs acc.length cs→aT w F ρ ys acc.length ds→bg rest cs ds=some r→(Op.eqFields d2 xs ys fs).run P w=.ok r w)
 |[],acc,sh,xs,ys,cs,ds,r,h=>by
  simp at h
  subst h
  refine⟨[],by simp,fun hx hy hr=>?_⟩
  have:r=true:=by
   unfold bg at hr
   split at hr<;>simp_all
  subst this
  rfl
 |f::fs,acc,sh,xs,ys,cs,ds,r,h=>by
  rw[FL]at h
  simp only[bind,C6]at h
  obtain⟨acc',h1,h2⟩:=h
  unfold qO at h1
  replace h1:=aa h1
  obtain⟨hc,h1⟩:=h1
  simp only[Db,bne_iff_ne,D0]at hc
  simp only[C6]at h1
  obtain⟨shf,h3,h1⟩:=h1
  replace h1:=aa h1
  obtain⟨h4,h1⟩:=h1
  cases h1
  have h4:dC P f.type=some shf.length:=by simpa using h4
  obtain⟨rest,hrest,_⟩:=fm ih fs (acc++shf) sh xs ys [] [] true h2
  refine⟨shf++rest,by rw[hrest];simp,fun hx hy hr=>?_⟩
  obtain⟨r1,r2,k1,k2,rfl⟩:=cz _ _ _ _ _ hr
  have hx1:=gq (i:=0) (n:=shf.length) hx
  have hy1:=gq (i:=0) (n:=shf.length) hy
  simp only[EZ,EW]at hx1 hy1
  obtain⟨u,v,g1,g2,g3⟩:=ih f.type shf h3 xs ys _ _ r1 acc.length hx1 hy1 k1 h4
  obtain⟨rest',hrest',hrec⟩:=fm ih fs (acc++shf) sh xs ys (cs.drop shf.length) (ds.drop shf.length) r2 h2
  have:rest'=rest:=List.append_cancel_left (hrest'.symm.trans hrest)
  subst this
  have hx2:aT w F ρ xs (acc++shf).length (cs.drop shf.length):=by
   intro j c hj
   rw[Dx]at hj
   obtain⟨v,q1,q2,q3⟩:=hx _ c hj
   exact⟨v,by rw[C8,Da];exact q1,q2,q3⟩
  have hy2:aT w F ρ ys (acc++shf).length (ds.drop shf.length):=by
   intro j c hj
   rw[Dx]at hj
   obtain⟨v,q1,q2,q3⟩:=hy _ c hj
   exact⟨v,by rw[C8,Da];exact q1,q2,q3⟩
  have:=hrec hx2 hy2 k2
  simp only[Op.eqFields,ne_eq,hc.1,not_false_eq_true,if_true,Sem.run_bind,hc.2,g1,g2,g3,Result.andThen_ok]
  cases r1 with
  |true=>simpa using this
  |false=>simp
theorem jD{P:Program}{d2:Nat}{t:TypeId}{sh:List LK}(ih:tq P w F ρ d2 t sh)(hsz:dC P t=some sh.length):∀(n i:Nat) (xs ys:Array Value) (cs ds:List SV) (r:Bool),
 aT w F ρ xs (i*sh.length) cs→aT w F ρ ys (i*sh.length) ds→bg (List.replicate n sh).flatten cs ds=some r→(Op.eqItems d2 t sh.length xs ys (List.range' i n)).run P w=.ok r w
 |0,i,xs,ys,cs,ds,r,hx,hy,hr=>by
  have:r=true:=by
   simp only[List.replicate_zero,List.flatten_nil]at hr
   unfold bg at hr
   split at hr<;>simp_all
  subst this
  rfl
 |n+1,i,xs,ys,cs,ds,r,hx,hy,hr=>by
  rw[E1,Fu]at hr
  obtain⟨r1,r2,k1,k2,rfl⟩:=cz _ _ _ _ _ hr
  have hx1:=gq (i:=0) (n:=sh.length) hx
  have hy1:=gq (i:=0) (n:=sh.length) hy
  simp only[EZ,EW]at hx1 hy1
  obtain⟨u,v,g1,g2,g3⟩:=ih xs ys _ _ r1 _ hx1 hy1 k1 hsz
  have hx2:aT w F ρ xs ((i+1)*sh.length) (cs.drop sh.length):=by
   intro j c hj
   rw[Dx]at hj
   obtain⟨v,q1,q2,q3⟩:=hx _ c hj
   exact⟨v,by rw[DW,EF,Da];exact q1,q2,q3⟩
  have hy2:aT w F ρ ys ((i+1)*sh.length) (ds.drop sh.length):=by
   intro j c hj
   rw[Dx]at hj
   obtain⟨v,q1,q2,q3⟩:=hy _ c hj
   exact⟨v,by rw[DW,EF,Da];exact q1,q2,q3⟩
  have:=jD ih hsz n (i+1) xs ys _ _ r2 hx2 hy2 k2
  simp only[List.range'_succ,Op.eqItems,Sem.run_bind,g1,g2,g3,Result.andThen_ok]
  cases r1 with
  |true=>simpa using this
  |false=>simp
theorem lE{P:Program}{dd D:Nat}{t:TypeId}{sh:List LK}(ih:∀t sh,cK P dd t=some sh→tq P w F ρ (D+dd) t sh)(h:cK P (dd+1) t=some sh)(hag:fh P t=some true){xs ys:Array Value}{cs ds:List SV}{r:Bool}
 (hx:aT w F ρ xs 0 cs) (hy:aT w F ρ ys 0 ds) (hr:bg sh cs ds=some r):(Op.equalIn (D+dd+1) t (.agg xs) (.agg ys)).run P w=.ok r w:=by
 unfold cK at h
 split at h
 ·rename_i hu;simp[fh,hu]at hag
 ·rename_i hu;simp[fh,hu]at hag
 ·rename_i hu;simp[fh,hu]at hag
 ·rename_i fs hu
  replace h:=qn h
  obtain⟨hs,h⟩:=h
  have hf:P.fieldsOf t=fs:=by simp[Program.fieldsOf,hu]
  rw[run_equalIn_struct w (D+dd) t xs ys (by rw[hf];exact hu) hs,hf]
  obtain⟨rest,h1,h2⟩:=fm ih fs.toList [] sh xs ys cs ds r h
  simp only[EY]at h1
  subst h1
  exact h2 hx hy hr
 ·rename_i n e hu
  simp only[C6]at h
  obtain⟨she,h1,h⟩:=h
  replace h:=aa h
  obtain⟨h2,h⟩:=h
  cases h
  have h2:dC P e=some she.length:=by simpa using h2
  have h3:=h2
  unfold dC at h3
  simp only[C5]at h3
  obtain⟨i,hi,hi2⟩:=h3
  have hcells:P.cellsOf e=she.length:=by simp[Program.cellsOf,hi,hi2]
  rw[run_equalIn_array w (D+dd) xs ys hu hi,hcells,FD]
  exact jD (ih e she h1) h2 n 0 xs ys cs ds r (by simpa using hx) (by simpa using hy) hr
 ·cases h
theorem xq{P:Program}:∀(dd:Nat) (D:Nat) (t:TypeId) (sh:List LK),cK P dd t=some sh→tq P w F ρ (D+dd) t sh
 |0,_,_,_,h=>by simp[cK]at h
 |dd+1,D,t,sh,h=>by
  intro xs ys cs ds r o hx hy hr hsz
  have hlen:=eH sh cs ds r hr
  have leaf:fh P t=some false→∀k,sh=[k]→(∀u v,∀c d,VR w F ρ c u→VR w F ρ d v→bg [k] [c] [d]=some r→(Op.equalIn (D+dd+1) t u v).run P w=.ok r w)→
   ∃u v,(part t xs o).run P w=.ok u w∧(part t ys o).run P w=.ok v w∧(Op.equalIn (D+dd+1) t u v).run P w=.ok r w:=by
   intro hag k hk hgo
   subst hk
   obtain⟨c,rfl⟩:∃c,cs=[c]:=E4.1 hlen.1
   obtain⟨d,rfl⟩:∃d,ds=[d]:=E4.1 hlen.2
   obtain⟨u,u1,u2,_⟩:=hx 0 c rfl
   obtain⟨v,v1,v2,_⟩:=hy 0 d rfl
   exact⟨u,v,lr hag u1,lr hag v1,hgo u v c d u2 v2 hr⟩
  have agg:fh P t=some true→∃u v,(part t xs o).run P w=.ok u w∧(part t ys o).run P w=.ok v w∧(Op.equalIn (D+dd+1) t u v).run P w=.ok r w:=fun hag=>
   ⟨_,_,nb hag hsz,nb hag hsz,lE (fun t sh h=>xq dd D t sh h) h hag (gI hx (by omega)) (gI hy (by omega)) hr⟩
  rw[←Da]
  unfold cK at h
  split at h
  ·rename_i hu
   refine leaf (by simp[fh,hu]) .b (by simpa using h.symm) (fun u v c d hu1 hv1 hr1=>?_)
   rcases fU hr1 with⟨_,_,_,h0,_⟩|⟨p,p',_,rfl,rfl,rfl⟩|⟨_,_,h0,_⟩
   ·cases h0
   ·rw[cI hu1,cI hv1,run_equalIn_bool w _ t _ _ hu]
   ·cases h0
  ·rename_i q hu
   refine leaf (by simp[fh,hu]) .i (by simpa using h.symm) (fun u v c d hu1 hv1 hr1=>?_)
   rcases fU hr1 with⟨q,p,p',_,rfl,rfl,rfl⟩|⟨_,_,h0,_⟩|⟨_,_,h0,_⟩
   ·rw[dz hu1,dz hv1,oC hu rfl]
   ·cases h0
   ·cases h0
  ·rename_i hu
   refine leaf (by simp[fh,hu]) .s (by simpa using h.symm) (fun u v c d hu1 hv1 hr1=>?_)
   rcases fU hr1 with⟨_,_,_,h0,_⟩|⟨_,_,h0,_⟩|⟨p,p',_,rfl,rfl,rfl⟩
   ·cases h0
   ·cases h0
   ·rw[fy hu1,fy hv1,run_equalIn_string w _ t _ _ hu,kc]
  ·rename_i fs hu;exact agg (by simp[fh,hu])
  ·rename_i n el hu;exact agg (by simp[fh,hu])
  ·cases h
theorem rG{op:BinOp}{neg:Bool}{t:TypeId}{x y:Operand}{x' y':bj}{sh:List LK}{cs ds:List SV}{r:Bool}(cm:(op=.eql∧neg=false)∨(op=.neq∧neg=true))(hx:aR x=some x')(hy:aR y=some y')
 (hm:C.P.eqGuardType C.P.depth t=false) (hsh:cK C.P 6 t=some sh) (hag:fh C.P t=some true) (hr:HR C ρ F H w) (he:ER w F ρ e a.tmps) (h1:ev e x'=.agg cs) (h2:ev e y'=.agg ds) (h:bg sh cs ds=some r) :
 aW C (do let v←(do eqGuard op t x y (a.eval x) (a.eval y);binOp op t (a.eval x) (a.eval y));pure (.value v)) ρ F H w (.bool (neg ^^ r)) H:=by
 have v1:=aC hx he
 have v2:=aC hy he
 rw[h1]at v1
 rw[h2]at v2
 obtain⟨xs,e1,_,c1⟩:=c0 v1
 obtain⟨ys,e2,_,c2⟩:=c0 v2
 rw[e1,e2]
 have hq:=lE (dd:=5) (D:=9994) (fun t sh h=>xq 5 9994 t sh h) hsh hag c1 c2 h
 have hE:(Op.equal t (.agg xs) (.agg ys)).run C.P w=.ok r w:=hq
 refine⟨.bool (neg ^^ r),w,.inl ?_,bX.same hr (.bool _)⟩
 simp only[Sem.run_bind,run_eqGuard_agg w op t x y xs ys hm,Result.andThen_ok]
 rcases cm with⟨rfl,rfl⟩|⟨rfl,rfl⟩
 ·simp[binOp,hE]
 ·simp[binOp,hE]
end
end
section
section
variable{C:Ctx}{ρ:Map}{F:Nat→Prop}{H H':ab}{w:World}{e:Env}{a:Act}{s c d:SV}
theorem lz(z m:Nat)(q:Option Addr)(n cap n' cap':Nat):Builtin.firstCells z m (.slice q n cap)=Builtin.firstCells z m (.slice q n' cap'):=by
 cases q<;>rfl
theorem qz(hr:HR C ρ F H w){z:Nat}(hz:0<z){X:List (List SV)}{v:Value}(hv:VR w F ρ c v)(h:ig z H c=some X){m:Nat}(hm:m≤X.length) :
 ∃q cap cells,v=.slice q X.length cap∧(Builtin.firstCells z m v).run C.P w=.ok cells w∧cells.size=m*z∧∀ρ1:Map,uc C w F H ρ ρ1 c→cx w F ρ1 cells 0 z (X.take m):=by
 have hml:(X.take m).length=m:=by simp;omega
 unfold ig at h
 split at h
 ·rename_i z' L f
  have h0:=aa h
  obtain⟨hc,h1⟩:=h0
  have h':L=X:=EL h1
  subst h'
  cases hv with
  |aP V hcap hfull hz' hat h1 hv=>
   rename_i q cap
   have hv2:VR w F ρ (.aP z' (L.take m) false) (.slice q (L.take m).length cap):=by
    refine .aP V (by omega) (fun h=>by cases h) (fun i cs hi=>hz' i cs ?_) ?_ (fun i j cs c hi hj=>h1 i j cs c ?_ hj) (fun i j cs c hi hj=>hv i j cs c ?_ hj)
    ·rw[Dk]at hi;split at hi
     ·exact hi
     ·cases hi
    ·rcases hat with h0|⟨B,o,ha,hF,hk⟩
     ·left;rw[h0];simp
     ·exact .inr ⟨B,o,ha,hF,fun i j cs c hi hj=>hk i j cs c (by
       rw[Dk]at hi;split at hi
       ·exact hi
       ·cases hi) hj⟩
    ·rw[Dk]at hi;split at hi
     ·exact hi
     ·cases hi
    ·rw[Dk]at hi;split at hi
     ·exact hi
     ·cases hi
   have hrd:ig z H (.aP z' (L.take m) false)=some (L.take m):=by
    unfold ig
    simp only[Ef,D0]at hc
    rcases hc with hc|hc
    ·subst hc;simp
    ·have:L=[]:=by simpa using hc
     subst this;simp
   obtain⟨q',cap',cells,k0,k1,k2,k3⟩:=fW hr hz hv2 hrd
   rw[hml]at k1 k2
   refine⟨q,cap,cells,rfl,?_,k2,fun ρ1 _=>k3 ρ1 (fun b bB off n l x hh=>by cases hh)⟩
   rw[lz z m q L.length cap m cap]
   exact k1 w rfl
 ·rename_i b bB off n
  split at h
  ·rename_i ver' z' L ex hb
   have h0:=aa h
   obtain⟨hc,h1⟩:=h0
   simp only[Db,D0,Dc]at hc
   obtain⟨⟨rfl,rfl⟩,hle⟩:=hc
   have hX:(L.drop off).take n=X:=EL h1
   have hXl:X.length=n:=by rw[←hX];simp;omega
   obtain⟨l,z2,L2,ex2,hl,hb2,hbr,g1,g2⟩:=ct hr (by unfold cur;simp[hb]) hv
   rw[hb]at hb2;cases hb2
   obtain⟨q,cap,hve⟩:∃q cap,v=.slice q n cap:=by
    cases hvi:l.aU with
    |true=>obtain⟨q,p1,p2,p3⟩:=g1 hvi;exact⟨q,0,by rw[p1,p3]⟩
    |false=>obtain⟨p1,q,p2,p3⟩:=g2 hvi;exact⟨q,_,p2⟩
   have hv2:VR w F ρ (.bt b bB off m) (.slice q m cap):=by
    refine .bt hl (ED hbr.2.1.symm) rfl (fun _=>⟨fun hvi=>?_,fun hvi=>?_⟩)
    ·obtain⟨q',p1,p2,p3⟩:=g1 hvi
     rw[p1]at hve
     have hm0:m=0:=by omega
     injection hve with e1 e2 e3
     rw[hm0,←e1,←e3]
     exact⟨q',rfl,p2,rfl⟩
    ·obtain⟨p1,q',p2,p3⟩:=g2 hvi
     rw[p2]at hve
     injection hve with e1 e2 e3
     rw[←e1,←e3]
     exact⟨by omega,q',rfl,p3⟩
   have hrd:ig z' H (.bt b bB off m)=some (X.take m):=by
    have hlm:off+m≤L.length:=by omega
    unfold ig
    simp[hb,hlm]
    rw[←hX,List.take_take,FF (by omega)]
   obtain⟨q',cap',cells,k0,k1,k2,k3⟩:=fW hr hz hv2 hrd
   rw[hml]at k1 k2
   subst hve
   refine⟨q,cap,cells,by rw[hXl],?_,k2,fun ρ1 hs=>k3 ρ1 (fun b1 ver1 off1 n1 l1 x1 hh h2 h3 h4=>by cases hh;exact hs _ _ _ _ _ _ rfl h2 h3 h4)⟩
   rw[lz z' m q n cap m cap]
   exact k1 w rfl
  ·cases h
 ·cases h
theorem ki(hr:HR C ρ F H w){b v off z:Nat}{L X:List (List SV)}{ex:Bool}{l:Loc}{cells:Array Value}(hb:aQ H b=some (.arr v z L ex))(hl:ρ b=some l)(hbr:BR C w F ρ l (.arr v z L ex))
 (hvi:l.aU=false) (hfit:off+X.length≤L.length) (hsz:cells.size=X.length*z) (hrow:∀ρ1:Map,oe ρ ρ1 (SV.refs.aK X.flatten)→cx w F ρ1 cells 0 z X) {refs:Nat} (hrefs:SV.refs.aK X.flatten≤refs)
 (hH:bF H b (.arr v z (L.take off++X++L.drop (off+X.length)) ex) refs=some H') :
 ∃w',(storeCells ⟨l.bu,l.base+off*z,none⟩ cells.toList).run C.P w=.ok () w'∧HR C ρ F H' w'∧Ext C ρ F H w ρ F H' w':=by
 obtain⟨h1,h2,h3,h4,h5,h6,h7,h8⟩:=id hbr
 obtain⟨vs,ty',fz,g1,g2,g3,g4⟩:=h8 hvi
 have hm:(off+X.length)*z≤l.cap*z:=DO z (by omega)
 rw[DW]at hm
 have hsz':(ie vs (l.base+off*z) cells.toList).size=vs.size:=fe (by simp;omega)
 have hlt:l.bu<w.heap.size:=(Dh.1 g1).1
 have hst:=ck (P:=C.P) l.bu (l.base+off*z) ty' fz cells.toList 0 vs w g1 g2 (by simp;omega) (fun x hx=>pr (hrow ρ (.inl rfl)) hsz x hx)
 have hlen:(L.take off++X++L.drop (off+X.length)).length=L.length:=by simp;omega
 have hk:b9 F w (cX w l.bu (ie vs (l.base+off*z) cells.toList) ty' fz):=fo hr hb rfl hl hvi
 obtain⟨r1,r2⟩:=gr (vs':=ie vs (l.base+off*z) cells.toList) (ty:=ty') (fz:=fz) hr hH hb rfl hl hvi (fun _ ρ1 hρ1 hbr1=>by
  obtain⟨_,_,_,_,_,_,_,q8⟩:=hbr1
  obtain⟨vs2,ty2,fz2,m1,m2,m3,m4⟩:=q8 hvi
  rw[g1]at m1;cases m1
  have hcut:oe ρ ρ1 (SV.refs.aK X.flatten):=by
   rcases hρ1 with h|⟨N,hN,h⟩
   ·exact .inl h
   ·exact .inr ⟨N,by omega,h⟩
  have:=mN (xs:=cells) h4 m4 (hrow ρ1 hcut) hsz (by omega) (show off+X.length≤l.cap by omega) h5 g3
  exact⟨h1,h2,h3,this.1,by rw[hlen];exact h5,by rw[hlen];exact h6,h7,fun _=>⟨_,ty',fz,fb hlt,by rw[hsz'];exact g2,by rw[hsz'];exact g3,fun j cs hj=>(this.2 j cs hj).mono hk (fun _ h=>h) (Map.le_refl _)⟩⟩)
 exact⟨_,hst,r1,r2⟩
theorem nv(hr:HR C ρ F H w){b v z:Nat}{L:List (List SV)}{ex:Bool}{l:Loc}{refs:Nat}(hb:aQ H b=some (.arr v z L ex))(hl:ρ b=some l)(hbr:BR C w F ρ l (.arr v z L ex))
 (hH:bF H b (.arr v z L ex) refs=some H'):HR C ρ F H' w∧Ext C ρ F H w ρ F H' w:=by
 obtain⟨p1,p2⟩:=hr.set (w':=w) (l':=l) hH hb rfl hl (De _) (fun _ _ _=>rfl) (fun h=>.inl ⟨h,rfl⟩) (.inl rfl) (fun _=>by rw[bk hl];exact hbr) (fun _ N _ _ h=>by rw[bk hl];exact h)
 rw[bk hl]at p1 p2
 exact⟨p1,p2⟩
theorem nU(X:List (List SV))(m:Nat):SV.refs.aK (X.take m).flatten≤SV.refs.aK X.flatten:=by
 have app:∀(a b:List SV),SV.refs.aK a≤SV.refs.aK (a++b)∧SV.refs.aK b≤SV.refs.aK (a++b):=by
  intro a b
  induction a with
  |nil=>simp[SV.refs.aK]
  |cons x r ih=>simp only[Eu,SV.refs.aK];omega
 have:=(app (X.take m).flatten (X.drop m).flatten).1
 rwa [←List.flatten_append,FA]at this
theorem ug{ats:Array TypeId}{t el ty:TypeId}{z:Nat}(h0:ats[0]?=some t)(hu:C.P.underlying t=some (.slice el))(hsz:dC C.P el=some z)(hz:0<z)(hr:HR C ρ F H w){X:List (List SV)}{dv xv:Value}
 (hdv:VR w F ρ d dv) (hxv:VR w F ρ c xv) (hX:ig z H c=some X) (h:kU z H X d=some (s,H')):∃val w',(Builtin.copy_ ats ty #[dv,xv]).run C.P w=.ok val w'∧bX C ρ F H w s H' val w':=by
 unfold kU at h
 split at h
 ·rename_i b v off n
  split at h
  ·rename_i v' z' L ex hg
   replace h:=aa h
   obtain⟨hc,h⟩:=h
   simp only[Db,D0,Dc]at hc
   obtain⟨⟨rfl,rfl⟩,hle⟩:=hc
   simp only[C5,Df]at h
   obtain⟨H1,hH,rfl,rfl⟩:=h
   obtain⟨l,z2,L2,ex2,hl,hb2,hbr,g1,g2⟩:=ct hr (by unfold cur;simp[hg]) hdv
   rw[hg]at hb2;cases hb2
   obtain⟨base,sc,hse⟩:∃base sc,dv=.slice base n sc:=by
    cases hvi:l.aU with
    |true=>obtain⟨q,p1,p2,p3⟩:=g1 hvi;exact⟨q,0,by rw[p1,p3]⟩
    |false=>obtain⟨p1,q,p2,p3⟩:=g2 hvi;exact⟨q,_,p2⟩
   obtain⟨q,cap,cells,rfl,k1,k2,k3⟩:=qz (m:=min X.length n) hr hz hxv hX (Nat.min_le_left _ _)
   have hXt:X.take n=X.take (min X.length n):=by
    rcases Nat.le_total X.length n with h|h
    ·rw[FF h,Eh h,Fi]
    ·rw[Nat.min_eq_right h]
   have hlen:(X.take n).length=min X.length n:=by rw[Fj,Nat.min_comm]
   have hrun:∀w',(match base with|some a=>storeCells a cells.toList|none=>pure ()).run C.P w=.ok () w'→(Builtin.copy_ ats ty #[dv,.slice q X.length cap]).run C.P w=.ok (.int .i64 (min X.length n:Nat)) w':=by
    intro w' hw
    subst hse
    unfold Builtin.copy_
    simp only[h0,Ey,List.getElem?_cons_zero,Fq,Sem.run_bind,run_underlying hu,Result.andThen,a0 hsz,Builtin.lenOf]
    simp only[pure,Sem.run,Result.andThen,Sem.run_bind,a0 hsz]
    rw[show Nat.min X.length n=min X.length n from rfl,k1]
    cases base with
    |none=>simp only[pure,Sem.run,Result.ok.injEq,true_and]at hw;subst hw;rfl
    |some ad=>simp only[Sem.run_bind,hw,Result.andThen];rfl
   by_cases hm:min X.length n=0
   ·have hc0:cells.toList=[]:=by
     have:cells.size=0:=by rw[k2,hm];simp
     simpa using this
    have hH':L.take off++X.take n++L.drop (off+min X.length n)=L:=by
     rw[hXt,hm];simp
    rw[hH']at hH
    obtain⟨p1,p2⟩:=nv hr hg hl hbr hH
    exact⟨_,w,hrun w (by cases base<;>simp[hc0,storeCells,pure,Sem.run]),ρ,F,.int _ _,p1,p2⟩
   ·have hvi:l.aU=false:=by
     cases hvi:l.aU with
     |true=>obtain⟨q,p1,p2,p3⟩:=g1 hvi;omega
     |false=>rfl
    obtain⟨p1,q',p2,p3⟩:=g2 hvi
    rw[hse]at p2
    cases p2
    have hcap:=hbr.2.2.2.2.1
    have:=p3 (by omega)
    subst this
    have hz3:=hbr.2.2.1
    obtain⟨w',e1,e2,e3⟩:=ki (X:=X.take n) (cells:=cells) (off:=off) hr hg hl hbr hvi (by rw[hlen];omega) (by rw[hlen];exact k2)
     (fun ρ1 hρ1=>ja (by rw[hXt];exact k3 ρ (cH hr)) hρ1) (refs:=SV.refs.aK X.flatten) (nU X n) (by rw[hlen];exact hH)
    exact⟨_,w',hrun w' (by rw[hz3];exact e1),ρ,F,.int _ _,e2,e3⟩
  ·cases h
 ·cases h
theorem lJ{z:List SV}(hz:SV.refs.aK z=0):∀n,SV.refs.aK (List.replicate n z).flatten=0
 |0=>by simp[SV.refs.aK]
 |n+1=>by
  have app:∀(a b:List SV),SV.refs.aK a=0→SV.refs.aK b=0→SV.refs.aK (a++b)=0:=by
   intro a b h1 h2
   induction a with
   |nil=>exact h2
   |cons x r ih=>simp only[Eu,SV.refs.aK]at h1 ⊢;have:=ih (by omega);omega
  rw[E1,Fu]
  exact app _ _ hz (lJ hz n)
theorem qY{ats:Array TypeId}{t el ty:TypeId}{z:List SV}(h0:ats[0]?=some t)(hu:C.P.underlying t=some (.slice el))(hcz:eh C.P el=some z)(hz:0<z.length)(hr:HR C ρ F H w){xv:Value}
 (hxv:VR w F ρ c xv) (h:oc z.length z H c=some (s,H')):∃val w',(Builtin.clear_ ats ty #[xv]).run C.P w=.ok val w'∧bX C ρ F H w s H' val w':=by
 unfold oc at h
 split at h
 ·rename_i z0 f
  simp only[Dd,Df]at h
  obtain⟨rfl,rfl⟩:=h
  cases hxv with
  |aP V hcap hfull hz' hat h1 hv=>
   rename_i q cap
   refine⟨.tuple #[],w,?_,bX.same hr (.undef _)⟩
   unfold Builtin.clear_
   simp only[h0,Ey,List.getElem?_cons_zero,Sem.run_bind,run_underlying hu,Result.andThen]
   cases q<;>rfl
 ·rename_i b v off n
  split at h
  ·rename_i v' z' L ex hg
   replace h:=aa h
   obtain⟨hc,h⟩:=h
   simp only[Db,D0,Dc]at hc
   obtain⟨⟨rfl,rfl⟩,hle⟩:=hc
   simp only[C5,Df]at h
   obtain⟨H1,hH,rfl,rfl⟩:=h
   obtain⟨l,z2,L2,ex2,hl,hb2,hbr,g1,g2⟩:=ct hr (by unfold cur;simp[hg]) hxv
   rw[hg]at hb2;cases hb2
   by_cases hn:n=0
   ·subst hn
    obtain⟨base,sc,hse⟩:∃base sc,xv=.slice base 0 sc:=by
     cases hvi:l.aU with
     |true=>obtain⟨q,p1,p2,p3⟩:=g1 hvi;exact⟨q,0,p1⟩
     |false=>obtain⟨p1,q,p2,p3⟩:=g2 hvi;exact⟨q,_,p2⟩
    have hH':L.take off++List.replicate 0 z++L.drop (off+0)=L:=by simp
    rw[hH']at hH
    obtain⟨p1,p2⟩:=nv hr hg hl hbr hH
    refine⟨.tuple #[],w,?_,ρ,F,.undef _,p1,p2⟩
    subst hse
    unfold Builtin.clear_
    simp only[h0,Ey,List.getElem?_cons_zero,Sem.run_bind,run_underlying hu,Result.andThen]
    cases base<;>rfl
   ·have hvi:l.aU=false:=by
     cases hvi:l.aU with
     |true=>obtain⟨q,p1,p2,p3⟩:=g1 hvi;omega
     |false=>rfl
    obtain⟨p1,q',p2,p3⟩:=g2 hvi
    subst p2
    have hcap:=hbr.2.2.2.2.1
    have:=p3 (by omega)
    subst this
    have hz3:=hbr.2.2.1
    obtain⟨i,zv,hi,hzv,k1,k2⟩:=dO (w:=w) (F:=F) (ρ:=ρ) hcz
    have hzsz:(bC zv.cells (n*z.length)).size=n*z.length:=by simp[bC]
    have hrow:∀ρ1:Map,cx w F ρ1 (bC zv.cells (n*z.length)) 0 z.length (List.replicate n z):=fun ρ1=>by
     obtain⟨i',zv',hi',hzv',k1',k2'⟩:=dO (w:=w) (F:=F) (ρ:=ρ1) hcz
     rw[hi]at hi';cases hi'
     rw[hzv]at hzv';cases hzv'
     exact fH rfl k1' k2' hz
    have hrefs:SV.refs.aK z=0:=by
     have key:∀(l:List SV),(∀x∈l,x.refs=0)→SV.refs.aK l=0:=by
      intro l
      induction l with
      |nil=>intro _;simp[SV.refs.aK]
      |cons x r ih=>intro h;simp only[SV.refs.aK,h x (by simp),ih (fun y hy=>h y (by simp[hy]))];rfl
     refine key z (fun x hx=>?_)
     obtain⟨j,hj⟩:=List.mem_iff_getElem?.1 hx
     obtain⟨i',zv',hi',hzv',k1',k2'⟩:=dO (w:=w) (F:=F) (ρ:=cd) hcz
     obtain⟨v',q1,q2,q3⟩:=k2' j x hj
     cases x with
     |ptr=>cases q2 with|ptr h _ _ _=>cases h
     |bt=>cases q2 with|bt h _ _ _=>cases h
     |jf=>cases q2 with|jf h ha=>cases h
     |mp=>cases q2 with|mp h ha=>cases h
     |fn f cs=>
      exfalso
      unfold eh at hcz
      rw[hi]at hcz
      simp only[hzv,C6]at hcz
      obtain⟨z',hz1,hz2⟩:=hcz
      replace hz2:=aa hz2
      obtain⟨_,hz2⟩:=hz2
      cases hz2
      have:∀(l:List Value) (r:List SV),a7 (l.map (gS 1))=some r→∀x∈r,∃v∈l,gS 1 v=some x:=by
       intro l
       induction l with
       |nil=>intro r h;simp[a7]at h;subst h;simp
       |cons a l ih=>
        intro r h
        simp only[DQ]at h
        cases ha:gS 1 a with
        |none=>rw[ha]at h;simp[a7]at h
        |some y=>
         rw[ha]at h
         simp only[a7,C5]at h
         obtain⟨r',h1,rfl⟩:=h
         intro x hx
         rcases Ei.1 hx with rfl|hx
         ·exact⟨a,by simp,ha⟩
         ·obtain⟨v,h2,h3⟩:=ih r' h1 x hx
          exact⟨v,by simp[h2],h3⟩
      obtain⟨v,_,hv⟩:=this _ _ hz1 _ hx
      unfold gS at hv
      split at hv<;>first|(cases hv;done)|(simp[C6,a7,cond_eq_ite]at hv;done)|skip
      all_goals (simp only[C6]at hv;obtain⟨cs',_,hv⟩:=hv;replace hv:=aa hv;cases hv.2)
     |mf f cs=>
      exfalso
      unfold eh at hcz
      rw[hi]at hcz
      simp only[hzv,C6]at hcz
      obtain⟨z',hz1,hz2⟩:=hcz
      replace hz2:=aa hz2
      obtain⟨_,hz2⟩:=hz2
      cases hz2
      have:∀(l:List Value) (r:List SV),a7 (l.map (gS 1))=some r→∀x∈r,∃v∈l,gS 1 v=some x:=by
       intro l
       induction l with
       |nil=>intro r h;simp[a7]at h;subst h;simp
       |cons a l ih=>
        intro r h
        simp only[DQ]at h
        cases ha:gS 1 a with
        |none=>rw[ha]at h;simp[a7]at h
        |some y=>
         rw[ha]at h
         simp only[a7,C5]at h
         obtain⟨r',h1,rfl⟩:=h
         intro x hx
         rcases Ei.1 hx with rfl|hx
         ·exact⟨a,by simp,ha⟩
         ·obtain⟨v,h2,h3⟩:=ih r' h1 x hx
          exact⟨v,by simp[h2],h3⟩
      obtain⟨v,_,hv⟩:=this _ _ hz1 _ hx
      unfold gS at hv
      split at hv<;>first|(cases hv;done)|(simp[C6,a7,cond_eq_ite]at hv;done)|skip
      all_goals (simp only[C6]at hv;obtain⟨cs',_,hv⟩:=hv;replace hv:=aa hv;cases hv.2)
     |agg=>simp[SV.gD]at q3
     |cG=>simp[SV.gD]at q3
     |_=>simp[SV.refs]
    have hrefs0:=lJ hrefs n
    obtain⟨w',e1,e2,e3⟩:=ki (X:=List.replicate n z) (cells:=bC zv.cells (n*z.length)) (off:=off) hr hg hl hbr hvi (by simpa using hle) (by simpa using hzsz)
     (fun ρ1 _=>hrow ρ1) (refs:=0) (ED hrefs0) (by simpa using hH)
    refine⟨.tuple #[],w',?_,ρ,F,.undef _,e2,e3⟩
    unfold Builtin.clear_
    simp only[h0,Ey,List.getElem?_cons_zero,Sem.run_bind,run_underlying hu,Result.andThen]
    obtain⟨m,rfl⟩:∃m,n=m+1:=⟨n-1,by omega⟩
    simp only[Sem.run_bind,cf hi hzv,Result.andThen]
    have hzc:Builtin.zeroCells zv.cells (m+1)=bC zv.cells ((m+1)*z.length):=by
     unfold Builtin.zeroCells bC;rw[k1]
    rw[hzc]
    rw[hz3]
    rw[e1]
    rfl
  ·cases h
 ·cases h
end
end
section
section
variable{C:Ctx}{ρ:Map}{F:Nat→Prop}{H H':ab}{w:World}{e:Env}{a:Act}{s c d:SV}
theorem jB:∀(X:List (List SV)) (l:List UInt8) (cells:List Value),toBytes X=some l→cells.length=X.length→(∀(i:Nat) cs,X[i]?=some cs→∃v,cells[i]?=some v∧∀c,cs=[c]→VR w F ρ c v)→
 ∃ns:List Int,cells=ns.map (fun n=>Value.int .u8 n)∧l=ns.map (fun n=>UInt8.ofNat n.toNat)
 |[],l,cells,h,hn,_=>by
  simp[toBytes]at h;subst h
  have:cells=[]:=Ee (by simpa using hn)
  subst this
  exact⟨[],rfl,rfl⟩
 |x::X,l,[],h,hn,_=>by simp at hn
 |x::X,l,v::cells,h,hn,hv=>by
  unfold toBytes at h
  split at h
  ·cases ‹x::X=[]›
  ·rename_i n r heq
   cases heq
   simp only[C5]at h
   obtain⟨l',h,rfl⟩:=h
   obtain⟨v',h1,h2⟩:=hv 0 _ rfl
   simp at h1;subst h1
   have h3:=dz (h2 _ rfl)
   subst h3
   obtain⟨ns,rfl,rfl⟩:=jB X l' cells h (by simpa using hn) (fun i cs hi=>hv (i+1) cs (by simpa using hi))
   exact⟨n::ns,rfl,rfl⟩
  ·cases h
theorem jy{P:Program}(f:Value→ByteArray→Sem (ForInStep ByteArray))(hf:∀n s,f (.int .u8 n) s=pure (.yield (s.push (UInt8.ofNat n.toNat))))(w:World):∀(ns:List Int) (s:ByteArray),
 (forIn (ns.map (fun n=>Value.int .u8 n)) s f:Sem ByteArray).run P w=.ok ⟨s.data++(ns.map (fun n=>UInt8.ofNat n.toNat)).toArray⟩ w
 |[],s=>by
  simp only[ES,List.forIn_nil]
  show Result.ok s w=_
  simp
 |b::l,s=>by
  simp only[DQ,List.forIn_cons,Sem.run_bind,hf,Sem.run_pure,Result.andThen]
  rw[jy f hf w l]
  congr 1
  cases s
  simp[ByteArray.push]
theorem pQ{sr ds el:TypeId}{x:Operand}{y:bj}(hx:aR x=some y)(hs:C.P.underlying sr=some (.slice el))(h8:C.P.underlying el=some (.int .u8))(hd:C.P.underlying ds=some .string)(hr:HR C ρ F H w)(he:ER w F ρ e a.tmps)
 {L:List (List SV)} {l:List UInt8} (h:ig 1 H (ev e y)=some L) (hl:toBytes L=some l):aW C (do pure (.value (←convert sr ds (a.eval x)))) ρ F H w (.str ⟨l.toArray⟩) H:=by
 have h1:=aC hx he
 obtain⟨q,cap,cells,hv,k1,k2,k3⟩:=fW hr (by omega) h1 h
 refine aW.val hr (val:=.string ⟨l.toArray⟩) ?_ (.str _)
 rw[hv]at k1⊢
 obtain⟨ns,e1,e2⟩:=jB (w:=w) (F:=F) (ρ:=ρ) L l cells.toList hl (by simpa using k2) (fun i cs hi=>by
  have hrow:=k3 ρ (cH hr)
  have hlen:=hrow.1 i cs hi
  match cs,hlen with
  |[c],_=>
   obtain⟨v,p1,p2,_⟩:=hrow.2 i _ hi 0 c rfl
   refine⟨v,by simpa using p1,fun c' hc=>by cases hc;exact p2⟩)
 unfold convert
 simp only[Sem.run_bind,run_underlying hs,run_underlying hd,Result.andThen,run_underlying h8]
 have h2:=k1 w rfl
 cases q with
 |none=>
  simp only[Builtin.firstCells,Sem.run_pure,Result.ok.injEq]at h2
  obtain⟨rfl,_⟩:=h2
  cases ns with
  |nil=>subst e2;rfl
  |cons n ns=>simp at e1
 |some q=>
  simp only[Builtin.firstCells,Nat.mul_one]at h2
  subst e2
  have e3:cells=(ns.map (fun n=>Value.int .u8 n)).toArray:=by rw[←e1]
  subst e3
  simp only[Conv.bytesToString,Sem.run_bind,h2,Result.andThen,List.forIn_toArray]
  rw[jy _ (fun _ _=>rfl)]
  simp[Sem.run_pure]
theorem mD{A:Type}(h:Array A)(o:A)(f:A→A):(h.push o).modify h.size f=h.push (f o):=by
 apply E6
 intro i
 rw[Fz,Ew,Ew]
 by_cases hi:h.size=i
 ·subst hi;simp
 ·rw[if_neg hi,if_neg (fun e=>hi e.symm),if_neg (fun e=>hi e.symm)]
theorem qi(hr:HR C ρ F H w){L:List (List SV)}{z cap:Nat}{ex:Bool}{vs:Array Value}{ty:TypeId}{fz:Nat×Nat}{w':World}(hw:w'.heap=w.heap.push (.cells vs ty fz))(hfz:fZ fz vs.size)(hcap:L.length≤cap)(hex:ex=true→cap=L.length)
 (hsz:cap*z≤vs.size) (hc:cx w F ρ vs 0 z L) (n:Nat) (hn:n≤L.length) (hout:w'.os=w.os∧w'.output=w.output:=by exact⟨rfl,rfl⟩) :
 bX C ρ F H w (.bt H.bl.length 0 0 n) (aZ H (.arr 0 z L ex)) (.slice (some ⟨w.heap.size,0,none⟩) n cap) w':=by
 let l:Loc:={bu:=w.heap.size,base:=0,cap:=cap,a8:=z,bB:=0,aU:=false,arr:=true}
 have hh:∀B,B<w.heap.size→w'.heap[B]?=w.heap[B]?:=fun B hB=>by
  rw[hw];simp[Ew,Ex hB]
 have hk:b9 F w w':=fun B hB=>hh B (hr.eB B hB)
 have hle:ρ.le (ρ.put H.bl.length l):=fun b l' h=>⟨l',by rw[Map.aM _ _ (Ex (hr.fC b l' h))];exact h,.inl rfl⟩
 have hp:=hr.push (w':=w') (by rw[hw];simp) hh (.arr 0 z L ex) l (fun _=>⟨De _,by rw[hw];simp[l]⟩)
  ⟨rfl,rfl,rfl,hc.1,hcap,hex,(fun h=>by cases h),fun _=>⟨vs,ty,fz,by rw[hw];simp[l],hfz,by simpa[l]using hsz,fun i cs hi=>by
   have:=hc.2 i cs hi
   exact this.mono hk (fun _ h=>h) hle⟩⟩ hout
 exact⟨_,F,.bt (l:=l) (Map.aS _ _ _) (De _) rfl (fun _=>⟨(fun h=>by cases h),fun _=>⟨by simp[l];omega,_,rfl,fun _=>by simp[l]⟩⟩),hp.1,hp.2⟩
theorem pL{sr ds el:TypeId}{x:Operand}{y:bj}(hx:aR x=some y)(hs:C.P.underlying sr=some .string)(h8:C.P.underlying el=some (.int .u8))(hd:C.P.underlying ds=some (.slice el))(hr:HR C ρ F H w)(he:ER w F ρ e a.tmps)
 {t:ByteArray} (h:ev e y=.str t):∃val w',(convert sr ds (a.eval x)).run C.P w=.ok val w'∧bX C ρ F H w (.bt H.bl.length 0 0 t.size) (aZ H (.arr 0 1 (hJ t) false)) val w':=by
 have h1:=aC hx he
 rw[h]at h1
 rw[fy h1]
 have hl:(hJ t).length=t.size:=by unfold hJ;rw[FP,EM];rfl
 obtain⟨cap,hcp⟩:∃cap,(Question.appendCap t.size 0 el).cut (w.tape w.drawn (Question.appendCap t.size 0 el))=cap:=⟨_,rfl⟩
 have hcap:t.size≤cap:=by rw[←hcp];exact Nat.le_add_right _ _
 obtain⟨elems,hel⟩:∃elems:Array Value,t.data.map (fun b=>Value.int .u8 b.toNat)=elems:=⟨_,rfl⟩
 have hes:elems.size=t.size:=by rw[←hel,Array.size_map];rfl
 obtain⟨cells,hce⟩:∃cells,elems++Array.replicate (cap-t.size) (Value.int .u8 0)=cells:=⟨_,rfl⟩
 have hcs:cells.size=cap:=by rw[←hce,Array.size_append,hes,Array.size_replicate];omega
 refine⟨.slice (some ⟨w.heap.size,0,none⟩) t.size cap,{w with heap:=w.heap.push (.cells cells el (cap,cap+1)),drawn:=w.drawn+1},?_,qi hr (vs:=cells) (ty:=el) (fz:=(cap,cap+1)) rfl ?_ (by rw[hl];exact hcap) (fun h=>by cases h) (by rw[hcs,Nat.mul_one];exact De _) ⟨?_,?_⟩ t.size (by rw[hl];exact De _)⟩
 ·unfold convert
  simp only[Sem.run_bind,run_underlying hs,run_underlying hd,Result.andThen,run_underlying h8]
  unfold Conv.stringToBytes
  have r1:(choose (.appendCap t.size 0 el)).run C.P w=.ok cap {w with drawn:=w.drawn+1}:=by rw[←hcp];rfl
  have r2:∀(w:World) (cs:Array Value),(newRow el cs).run C.P w=.ok ⟨w.heap.size,0,none⟩ {w with heap:=w.heap.push (.cells cs el)}:=fun _ _=>rfl
  have r3:(markStringish ⟨w.heap.size,0,none⟩).run C.P {w with heap:=w.heap.push (.cells cells el),drawn:=w.drawn+1}=.ok () {w with heap:=w.heap.push (.cells cells el (cap,cap+1)),drawn:=w.drawn+1}:=by
   have e1:World.shape? {w with heap:=w.heap.push (.cells cells el),drawn:=w.drawn+1} w.heap.size=some (el,cap):=by
    unfold World.shape?
    simp only[Array.getElem?_push_size,hcs]
   have e2:World.freeze {w with heap:=w.heap.push (.cells cells el),drawn:=w.drawn+1} ⟨w.heap.size,cap,none⟩ 1={w with heap:=w.heap.push (.cells cells el (cap,cap+1)),drawn:=w.drawn+1}:=by
    unfold World.freeze
    rw[if_neg (by decide)]
    simp only[mD]
    rfl
   show(match World.shape? {w with heap:=w.heap.push (.cells cells el),drawn:=w.drawn+1} w.heap.size with
    |some (_,n)=>freeze ⟨w.heap.size,n,none⟩ 1
    |_=>pure ():Sem Unit).run C.P _=_
   rw[e1]
   show Result.ok () (World.freeze _ _ _)=_
   rw[e2]
  simp only[Sem.run_bind,r1,r2,Result.andThen,hel,hce,r3]
  rfl
 ·intro o ho
  rw[hcs]at ho
  simp only[Bool.and_eq_false_iff,Di]
  left;omega
 ·intro i cs hi
  simp only[hJ,Fe,C5]at hi
  obtain⟨b,_,rfl⟩:=hi
  rfl
 ·intro i cs hi j c hj
  simp only[hJ,Fe,C5]at hi
  obtain⟨b,hb,rfl⟩:=hi
  have hj0:j=0:=by
   cases j with
   |zero=>rfl
   |succ j=>simp at hj
  subst hj0
  simp only[List.getElem?_cons_zero,Dd]at hj
  subst hj
  have hbi:t.data[i]?=some b:=by simpa using hb
  refine⟨.int .u8 b.toNat,?_,.int _ _,rfl⟩
  have hi:i<t.data.size:=(Dh.1 hbi).1
  rw[show 0+i*1+0=i by omega,←hce,Ff (by rw[hes];exact hi)]
  rw[←hel,Array.getElem?_map,hbi];rfl
end
end
section
section
variable{C:Ctx}{ρ:Map}{F:Nat→Prop}{H H':ab}{w:World}{e:Env}{a:Act}{s c d:SV}
def yp:LK→TypeDesc→Prop
 | .i,d=>∃k,d=.int k
 | .s,d=>d=.string
 | .b,d=>d=.bool
theorem rk{c:SV}{v y:Value}(h:VR w F ρ c v)(hs:jw c=some y):v=y:=by
 unfold jw at hs
 split at hs<;>first|(cases hs;cases h;rfl)|cases hs
theorem wQ{c:SV}{y:Value}(hs:jw c=some y):VR w F ρ c y:=by
 unfold jw at hs
 split at hs<;>first|(cases hs;constructor)|cases hs
theorem u4{a b:ByteArray}(h:(a==b)=true):a=b:=by
 cases a with
 |mk x=>cases b with
  |mk y=>
   have h':(x==y)=true:=h
   rw[eq_of_beq h']
theorem nq(a:ByteArray):(a==a)=true:=by
 cases a with
 |mk x=>
  show(x==x)=true
  exact Ep x
theorem qX{t:LK}{d:TypeDesc}{k q:SV}{kv qv:Value}{b:Bool}(hd:yp t d)(h:rH t k q=some b)(hk:jw k=some kv)(hq:jw q=some qv):Instr.sameNow d kv qv=some b∧(b=true→kv=qv):=by
 unfold rH at h
 split at h
 ·rename_i k1 a k2 b'
  replace h:=aa h
  obtain⟨h1,h2⟩:=h
  obtain⟨kk,rfl⟩:=hd
  cases hk;cases hq;cases h2
  have h1:k1=k2:=by simpa using h1
  subst h1
  exact⟨by simp[Instr.sameNow],fun h=>by rw[eq_of_beq h]⟩
 ·cases hd
  cases hk;cases hq;cases h
  exact⟨by simp[Instr.sameNow],fun h=>by rw[u4 h]⟩
 ·cases hd
  cases hk;cases hq;cases h
  exact⟨by simp[Instr.sameNow],fun h=>by rw[eq_of_beq h]⟩
 ·cases h
theorem kd{t:LK}{d:TypeDesc}{k:SV}{kv:Value}(hd:yp t d)(hk:jw k=some kv):∀(es:List (SV×SV)) (en:List MapEntry) (i:Nat) (r:Option (Nat×SV)),hO w F ρ en es→mT t k es i=some r→
 (r=none∧Instr.findNow d kv en i=some none)∨∃j v en1,r=some (i+j,v)∧Instr.findNow d kv en i=some (some (i+j,en1.val))∧en[j]?=some en1∧en1.key=kv∧v.gD=true∧VR w F ρ v en1.val
 |[],[],i,r,_,h=>by cases h;exact .inl ⟨rfl,rfl⟩
 |[],_::_,_,_,hm,_=>hm.elim
 |(_,_)::_,[],_,_,hm,_=>hm.elim
 |(q,v)::es,e::en,i,r,⟨h1,h2,h3,h4⟩,h=>by
  unfold mT at h
  simp only[C6]at h
  obtain⟨b,hb,h⟩:=h
  obtain⟨g1,g2⟩:=qX hd hb hk h1
  cases b with
  |true=>
   cases h
   exact .inr ⟨0,v,e,rfl,by simp[Instr.findNow,g1],rfl,(g2 rfl).symm,h2,h3⟩
  |false=>
   simp only[Dw]at h
   rcases kd hd hk es en (i+1) r h4 h with⟨p1,p2⟩|⟨j,v',e',p1,p2,p3,p4,p5,p6⟩
   ·exact .inl ⟨p1,by simp[Instr.findNow,g1,p2]⟩
   ·exact .inr ⟨j+1,v',e',by rw[p1];congr 2;omega,by simp only[Instr.findNow,g1,p2];congr 3;omega,by simpa using p3,p4,p5,p6⟩
theorem nF{k v:SV}{e:MapEntry}(hk:jw k=some e.key)(h1:v.gD=true)(hv:VR w F ρ v e.val):∀(en:List MapEntry) (es:List (SV×SV)),hO w F ρ en es→hO w F ρ (en++[e]) (es++[(k,v)])
 |[],[],_=>⟨hk,h1,hv,trivial⟩
 |_::en,(_,_)::es,⟨a,b,c,h⟩=>⟨a,b,c,nF hk h1 hv en es h⟩
 |[],_::_,h=>h.elim
 |_::_,[],h=>h.elim
theorem nI{k v:SV}{kv vv:Value}(hk:jw k=some kv)(h1:v.gD=true)(hv:VR w F ρ v vv):∀(j:Nat) (en:List MapEntry) (es:List (SV×SV)),hO w F ρ en es→hO w F ρ (en.modify j fun e=>{e with key:=kv,val:=vv}) (es.set j (k,v))
 |_,[],[],_=>by simp[hO]
 |0,e::en,(q,x)::es,⟨a,b,c,h⟩=>by
  rw[List.modify_zero_cons,FH]
  exact⟨hk,h1,hv,h⟩
 |j+1,e::en,(q,x)::es,⟨a,b,c,h⟩=>by
  rw[List.modify_succ_cons,List.set_cons_succ]
  exact⟨a,b,c,nI hk h1 hv j en es h⟩
 |_,[],_::_,h=>h.elim
 |_,_::_,[],h=>h.elim
theorem lu{t el:TypeId}{q:LK}(h:mJ C.P t=some (q,el)):∃kt d,C.P.underlying t=some (.map kt el)∧C.P.underlying kt=some d∧yp q d∧dC C.P el=some 1∧fh C.P el=some false:=by
 unfold mJ at h
 split at h
 ·rename_i k e hu
  replace h:=aa h
  obtain⟨hc,h⟩:=h
  simp only[Db,D0]at hc
  split at h
  ·rename_i hk;cases h;exact⟨k,_,hu,hk,⟨_,rfl⟩,hc.1,hc.2⟩
  ·rename_i hk;cases h;exact⟨k,_,hu,hk,rfl,hc.1,hc.2⟩
  ·rename_i hk;cases h;exact⟨k,_,hu,hk,rfl,hc.1,hc.2⟩
  ·cases h
 ·cases h
theorem m8{k:SV}(h:isKey k=true):∃y,jw k=some y:=by
 unfold isKey at h
 split at h<;>first|exact⟨_,rfl⟩|cases h
theorem jt{q:LK}{kt:TypeId}{d:TypeDesc}{k:SV}{kv:Value}(hd:yp q d)(hu:C.P.underlying kt=some d)(hk:jw k=some kv)(b:Bool)(n:Nat)(w:World):(Instr.checkKey b (n+1) kt kv).run C.P w=.ok () w:=by
 unfold Instr.checkKey
 simp only[Sem.run_bind,run_underlying hu,Result.andThen]
 unfold jw at hk
 cases q with
 |i=>obtain⟨kk,rfl⟩:=hd;split at hk<;>first|(cases hk;rfl)|cases hk
 |s=>cases hd;split at hk<;>first|(cases hk;rfl)|cases hk
 |b=>cases hd;split at hk<;>first|(cases hk;rfl)|cases hk
theorem qu(hr:HR C ρ F H w){b:Nat}{v:Value}{es:List (SV×SV)}(hv:VR w F ρ (.mp b) v)(hg:aQ H b=some (.map es)):∃l en cl,ρ b=some l∧v=.map (some l.bu)∧l.aU=false∧l.arr=false∧w.heap[l.bu]?=some (.map en cl)∧hO w F ρ en.toList es:=by
 cases hv with
 |mp h ha=>
  obtain⟨l',h1,h2,h3,en,cl,h4,h5⟩:=hr.live _ _ hg rfl
  rw[h]at h1;cases h1
  exact⟨_,en,cl,h,rfl,h2,h3,h4,h5⟩
theorem r0(hr:HR C ρ F H w)(t:TypeId):aW C (do pure (.value (←Instr.makeMap t none))) ρ F H w (.mp H.bl.length) (aZ H (.map [])):=by
 let l:Loc:={bu:=w.heap.size,base:=0,cap:=0,a8:=0,bB:=0,aU:=false,arr:=false}
 have hh:∀B,B<w.heap.size→({w with heap:=w.heap.push (.map #[] 0)}:World).heap[B]?=w.heap[B]?:=fun B hB=>by simp[Ew,Ex hB]
 have hp:=hr.push (w':={w with heap:=w.heap.push (.map #[] 0)}) (by simp) hh (.map []) l (fun _=>⟨De _,by simp[l]⟩) ⟨rfl,rfl,#[],0,by simp[l],trivial⟩
 refine aW.mh (val:=.map (some w.heap.size)) (w':={w with heap:=w.heap.push (.map #[] 0)}) ?_ ⟨_,F,.mp (l:=l) (Map.aS _ _ _) rfl,hp.1,hp.2⟩
 simp[Instr.makeMap,newObj,Sem.run]
theorem pN{t:TypeId}{z:SV}(h:lZ C.P t=some z):∃i v,C.P.info? t=some i∧i.zero=some v∧VR w F ρ z v:=by
 unfold lZ at h
 split at h
 ·rename_i i hi
  split at h
  ·rename_i v hv
   simp only[C6]at h
   obtain⟨z',h1,h2⟩:=h
   replace h2:=aa h2
   cases h2.2
   exact⟨i,v,hi,hv,ma 1 h1⟩
  ·cases h
 ·cases h
theorem rK{t el:TypeId}{q:LK}{ok:Bool}{z:SV}{x k:Operand}{x' k':bj}(hm:mJ C.P t=some (q,el))(hz:lZ C.P el=some z)(hx:aR x=some x')(hk:aR k=some k')(hr:HR C ρ F H w)(he:ER w F ρ e a.tmps)
 (h:oF q ok z H (ev e k') (ev e x')=some (s,H')):aW C (do pure (.value (←Instr.lookup t (a.eval x) (a.eval k) ok))) ρ F H w s H':=by
 obtain⟨kt,d,hu,huk,hd,hsz,hag⟩:=lu hm
 unfold oF at h
 split at h
 ·rename_i b hb
  split at h
  ·rename_i es hg
   replace h:=aa h
   obtain⟨hkey,h⟩:=h
   simp only[C5,Df]at h
   obtain⟨r,h1,h2,rfl⟩:=h
   have hxv:=aC hx he
   rw[hb]at hxv
   obtain⟨l,en,cl,hl,hv,hvi,har,hw,hM⟩:=qu hr hxv hg
   have hkv:=aC hk he
   obtain⟨kv,hks⟩:=m8 hkey
   have hke:=rk hkv hks
   obtain⟨i',zv,hi',hzv,hzr⟩:=pN (w:=w) (F:=F) (ρ:=ρ) hz
   have hck:=jt (C:=C) hd huk hks en.isEmpty 9999 w
   rcases kd hd hks es en.toList 0 r hM h1 with⟨rfl,p2⟩|⟨j,v,e1,rfl,p2,p3,p4,p5,p6⟩
   ·have hrun:(Instr.lookup t (a.eval x) (a.eval k) ok).run C.P w=.ok (if ok then .tuple #[zv,.bool false]else zv) w:=by
     unfold Instr.lookup
     rw[hv,hke]
     simp only[Sem.run_bind,run_underlying hu,Result.andThen,MapKept.run_getObj_map hw,Sem.run_pure,hck,MapKept.run_findKey huk p2,cf hi' hzv]
    cases ok with
    |true=>
     cases h2
     refine aW.val hr hrun (.cG rfl (fun j c v hj hv=>?_))
     match j with
     |0=>simp at hj hv;subst hj;subst hv;exact hzr
     |1=>simp at hj hv;subst hj;subst hv;exact .bool _
     |j+2=>simp at hj
    |false=>
     cases h2
     exact aW.val hr hrun hzr
   ·have hrun:(Instr.lookup t (a.eval x) (a.eval k) ok).run C.P w=.ok (if ok then .tuple #[e1.val,.bool true]else e1.val) w:=by
     unfold Instr.lookup
     rw[hv,hke]
     simp only[Sem.run_bind,run_underlying hu,Result.andThen,MapKept.run_getObj_map hw,Sem.run_pure,hck,MapKept.run_findKey huk p2]
    have hvr:VR w F ρ v e1.val:=p6
    cases ok with
    |true=>
     cases h2
     refine aW.val hr hrun (.cG rfl (fun j c v hj hv=>?_))
     match j with
     |0=>simp at hj hv;subst hj;subst hv;exact hvr
     |1=>simp at hj hv;subst hj;subst hv;exact .bool _
     |j+2=>simp at hj
    |false=>
     cases h2
     exact aW.val hr hrun hvr
  ·cases h
 ·cases h
theorem mL{k:SV}{kv:Value}(h:jw k=some kv)(n:Nat):Instr.sameBits n kv kv=true:=by
 unfold jw at h
 split at h
 ·cases h;unfold Instr.sameBits;simp
 ·cases h;unfold Instr.sameBits;simp
 ·rename_i s
  cases h
  unfold Instr.sameBits
  exact nq s
 ·cases h
theorem tl{t el:TypeId}{q:LK}{x k v:Operand}{x' k' v':bj}(hm:mJ C.P t=some (q,el))(hx:aR x=some x')(hk:aR k=some k')(hvo:aR v=some v')(hr:HR C ρ F H w)(he:ER w F ρ e a.tmps)
 (h:oN q H (ev e k') (ev e v') (ev e x')=some (s,H')):∃w',(Instr.mapUpdate t (a.eval x) (a.eval k) (a.eval v)).run C.P w=.ok () w'∧s=.undef∧HR C ρ F H' w'∧Ext C ρ F H w ρ F H' w':=by
 obtain⟨kt,d,hu,huk,hd,hsz,hag⟩:=lu hm
 unfold oN at h
 split at h
 ·rename_i b hb
  split at h
  ·rename_i es hg
   replace h:=aa h
   obtain⟨hc,h⟩:=h
   simp only[Db,D0]at hc
   obtain⟨hkey,hv1⟩:=hc
   simp only[C6,C5,Df]at h
   obtain⟨r,h1,H1,hH,rfl,rfl⟩:=h
   have hxv:=aC hx he
   rw[hb]at hxv
   obtain⟨l,en,cl,hl,hv,hvi,har,hw,hM⟩:=qu hr hxv hg
   obtain⟨kv,hks⟩:=m8 hkey
   have hke:=rk (aC hk he) hks
   have hvr:=aC hvo he
   generalize a.eval v=vv at *
   have hck:=jt (C:=C) hd huk hks false 9999 w
   have hlt:l.bu<w.heap.size:=(Dh.1 hw).1
   have hown:Own ρ H b l:=⟨⟨_,hg,rfl⟩,hl,hvi⟩
   have fin:∀(en':Array MapEntry) (cl':Nat),(∀(w':World) (σ:Map),b9 F w w'→VR w F σ (ev e v') vv→hO w F σ en.toList es→hO w' F σ en'.toList (xc (ev e k') (ev e v') es r))→
    HR C ρ F H1 (w.putObj l.bu (.map en' cl'))∧Ext C ρ F H w ρ F H1 (w.putObj l.bu (.map en' cl')):=by
    intro en' cl' hM'
    have hkeep:∀Bk,Bk≠l.bu→(w.putObj l.bu (.map en' cl')).heap[Bk]?=w.heap[Bk]?:=fun Bk hne=>World.putObj_heap_other hne
    have hkk:b9 F w (w.putObj l.bu (.map en' cl')):=fun Bk hB=>hkeep Bk (fun e=>(hr.own _ _ hown).1 (e▸hB))
    obtain⟨z1,z2⟩:=hr.set (w':=w.putObj l.bu (.map en' cl')) (l':=l) hH hg rfl hl (by simp) (fun Bk _ h=>hkeep Bk (h hvi)) (fun h=>.inl ⟨h,rfl⟩) (.inl rfl)
     (fun _=>⟨hvi,har,en',cl',World.putObj_heap_same hlt,by rw[bk hl];exact hM' _ _ hkk hvr hM⟩)
     (fun _ N hN _ hx=>by
      obtain⟨_,_,en2,cl2,g1,g2⟩:=hx
      rw[hw]at g1
      cases g1
      exact⟨hvi,har,en',cl',World.putObj_heap_same hlt,by rw[bk hl];exact hM' _ _ hkk (hvr.cut N hN) g2⟩)
    rw[bk hl]at z1 z2
    exact⟨z1,z2⟩
   rcases kd hd hks es en.toList 0 r hM h1 with⟨rfl,p2⟩|⟨j,v1,e1,rfl,p2,p3,p4,p5,p6⟩
   ·obtain⟨z1,z2⟩:=fin (en.push {key:=kv,val:=vv,born:=cl}) (cl+1) (fun w' σ hkk hv2 hM2=>by
     rw[Array.toList_push]
     exact nF (e:={key:=kv,val:=vv,born:=cl}) hks hv1 (hv2.mono hkk (fun _ h=>h) (Map.le_refl _)) _ _ (hM2.mono hkk (fun _ h=>h) (Map.le_refl _)))
    refine⟨_,?_,rfl,z1,z2⟩
    unfold Instr.mapUpdate
    rw[hv,hke]
    simp only[Sem.run_bind,run_underlying hu,Result.andThen,MapKept.run_getObj_map hw,hck,MapKept.run_findKey huk p2,MapKept.run_setObj_map _ hw]
    rfl
   ·rw[Ea]at p2 h1 hH
    have hj:en[j]?=some e1:=by simpa using p3
    obtain⟨z1,z2⟩:=fin (en.modify j fun e=>{e with key:=kv,val:=vv}) cl (fun w' σ hkk hv2 hM2=>by
     rw[Array.toList_modify,Ea]
     exact nI hks hv1 (hv2.mono hkk (fun _ h=>h) (Map.le_refl _)) j _ _ (hM2.mono hkk (fun _ h=>h) (Map.le_refl _)))
    refine⟨_,?_,rfl,z1,z2⟩
    have hks2:(Instr.keyThatStays kv kv).run C.P w=.ok kv w:=by unfold Instr.keyThatStays;rw[mL hks];rfl
    unfold Instr.mapUpdate
    rw[hv,hke]
    simp only[Sem.run_bind,run_underlying hu,Result.andThen,MapKept.run_getObj_map hw,hck,MapKept.run_findKey huk p2,hj,D1,EE,p4,hks2,MapKept.run_setObj_map _ hw]
    rfl
  ·cases h
 ·cases h
theorem mE{t el:TypeId}{q:LK}{x k v:Operand}{x' k' v':bj}(hm:mJ C.P t=some (q,el))(hx:aR x=some x')(hk:aR k=some k')(hvo:aR v=some v')(hr:HR C ρ F H w)(he:ER w F ρ e a.tmps)
 (h:oN q H (ev e k') (ev e v') (ev e x')=some (s,H')):aW C (do Instr.mapUpdate t (a.eval x) (a.eval k) (a.eval v);pure .skip) ρ F H w s H':=by
 obtain⟨w',h1,rfl,h2,h3⟩:=tl hm hx hk hvo hr he h
 exact⟨undef,w',.inr ⟨by simp[h1,pure,Sem.run],rfl⟩,ρ,F,.undef _,h2,h3⟩
end
end
section
section
variable{C:Ctx}{ρ:Map}{F:Nat→Prop}{H H':ab}{w:World}{e:Env}{a:Act}{s c d:SV}
theorem cP{A:Type}{c:Bool}{x:Option A}{y:A}(h:(bif c then none else x)=some y):c=false∧x=some y:=by
 cases c with
 |true=>cases h
 |false=>exact⟨rfl,h⟩
theorem map_fst{v:Option SV}(h:v.map (·,H)=some (s,H')):v=some s∧H=H':=by
 cases v with
 |none=>cases h
 |some v=>cases h;exact⟨rfl,rfl⟩
theorem lg{xs:Array Operand}{y:bj}(h:eX xs=some [y]):∃x,xs= #[x]∧aR x=some y:=by
 have h1:=iU h
 cases xs with
 |mk l=>
  match l,h1 with
  |[x],h1=>simp at h1;exact⟨x,rfl,h1⟩
  |[],h1=>simp at h1
  |_::_::_,h1=>simp at h1
theorem lC{xs:Array Operand}{y z:bj}(h:eX xs=some [y,z]):∃x x',xs= #[x,x']∧aR x=some y∧aR x'=some z:=by
 have h1:=iU h
 cases xs with
 |mk l=>
  match l,h1 with
  |[x,x'],h1=>simp at h1;exact⟨x,x',rfl,h1.1,h1.2⟩
  |[],h1=>simp at h1
  |[_],h1=>simp at h1
  |_::_::_::_,h1=>simp at h1
theorem kJ{t el:TypeId}(h:gL C.P t=some el):C.P.underlying t=some (.slice el):=by
 unfold gL at h
 split at h
 ·cases h;assumption
 ·cases h
def qf:NK→Value→Option Bool
 | .p,.pointer p=>some p.isNone
 | .s,.slice b _ _=>some b.isNone
 | .f,.nilFunc=>some true
 | .f,.func _ _ _=>some false
 |_,_=>none
theorem ir{op:BinOp}{u:TypeDesc}{y:Operand}{x:bj}{op':gC}(h:mw op u y x=some op'):∃k neg,op'=.isNil k neg x:=by
 unfold mw at h
 split at h<;>first|(cases h;done)|(cases h;exact⟨_,_,rfl⟩)
theorem sQ{P:Program}{d:Nat}{t el:TypeId}{p:Option Addr}(hu:P.underlying t=some (.pointer el)):(Op.equalIn (d+1) t (.pointer p) (.pointer none)).run P w=.ok p.isNone w:=by
 cases p<;>simp[Op.equalIn,run_underlying hu,Sem.run_bind,Result.andThen,pure,Sem.run]
theorem tH{P:Program}{d n c:Nat}{t el:TypeId}{p:Option Addr}(hu:P.underlying t=some (.slice el)):(Op.equalIn (d+1) t (.slice p n c) (.slice none 0 0)).run P w=.ok p.isNone w:=by
 cases p<;>simp[Op.equalIn,run_underlying hu,Sem.run_bind,Result.andThen,pure,Sem.run]
theorem oO{P:Program}{d:Nat}{t:TypeId}{ps rs vr}(hu:P.underlying t=some (.func ps rs vr)):(Op.equalIn (d+1) t .nilFunc .nilFunc).run P w=.ok true w∧∀f x y,(Op.equalIn (d+1) t (.func f x y) .nilFunc).run P w=.ok false w:=by
 constructor
 ·simp[Op.equalIn,run_underlying hu,Sem.run_bind,Result.andThen,pure,Sem.run]
 ·intro f x y
  simp[Op.equalIn,run_underlying hu,Sem.run_bind,Result.andThen,pure,Sem.run]
theorem nm{op:BinOp}{u:TypeDesc}{t:TypeId}{x y:Operand}{x':bj}{k:NK}{neg b:Bool}{v:Value}(h:mw op u y x'=some (.isNil k neg x'))(hu:C.P.underlying t=some u)(hb:qf k v=some b) :
 (do eqGuard op t x y v (a.eval y);binOp op t v (a.eval y):Sem Value).run C.P w=.ok (.bool (neg ^^ b)) w:=by
 have hm:Op.maxDepth=9999+1:=rfl
 unfold mw at h
 split at h<;>first|(cases h;done)|skip
 all_goals
  cases h
  cases v<;>simp only[qf,Dd,reduceCtorEq]at hb
 all_goals
  subst hb
  simp only[Act.eval,eqGuard,binOp,Op.equal,hm,Sem.run_bind]
  first
  |(simp[sQ hu,Sem.run_bind,Result.andThen,pure,Sem.run];done)
  |(simp[tH hu,Sem.run_bind,Result.andThen,pure,Sem.run];done)
  |(simp[(oO hu).1,(oO hu).2,Sem.run_bind,Result.andThen,pure,Sem.run];done)
theorem qt(hr:HR C ρ F H w){k:NK}{b:Bool}{v:Value}(hs:eA H k c=some b)(hv:VR w F ρ c v):qf k v=some b:=by
 unfold eA at hs
 split at hs
 ·cases hs;cases hv;rfl
 ·replace hs:=aa hs
  obtain⟨hc,hs⟩:=hs
  cases hs
  obtain⟨l,hl,_,_,hv2⟩:=lQ hr hc hv
  subst hv2
  rfl
 ·cases hs;cases hv;rfl
 ·cases hs;cases hv;rfl
 ·cases hs;cases hv;rfl
 ·cases hs;cases hv;rfl
 ·rename_i z L f
  cases hL:L.isEmpty with
  |true=>rw[hL]at hs;cases hs
  |false=>
   rw[hL]at hs
   cases hs
   cases hv with
   |aP V hcap hfull hz hat h1 hv=>
    rcases hat with h0|⟨B,o,ha,_⟩
    ·subst h0;cases hL
    ·subst ha;rfl
 ·rename_i b' v' off n
  replace hs:=aa hs
  obtain⟨hc,hs⟩:=hs
  simp only[Db,Dc]at hc
  cases hs
  obtain⟨l,z2,L2,ex2,hl,hb2,hbr,g1,g2⟩:=ct hr hc.1 hv
  cases hvi:l.aU with
  |true=>obtain⟨q,p1,p2,p3⟩:=g1 hvi;omega
  |false=>
   obtain⟨p1,q,p2,p3⟩:=g2 hvi
   have:=p3 (by omega)
   subst this
   subst p2
   rfl
 ·cases hs
theorem rB{op:BinOp}{u:TypeDesc}{t:TypeId}{x y:Operand}{x':bj}{k:NK}{neg b:Bool}(h:mw op u y x'=some (.isNil k neg x'))(hu:C.P.underlying t=some u)(hx:aR x=some x')
 (hr:HR C ρ F H w) (he:ER w F ρ e a.tmps) (hs:eA H k (ev e x')=some b):aW C (do let v←(do eqGuard op t x y (a.eval x) (a.eval y);binOp op t (a.eval x) (a.eval y));pure (.value v)) ρ F H w (.bool (neg ^^ b)) H:=
 aW.val hr (nm h hu (qt hr hs (aC hx he))) (.bool _)
theorem pk{o:Oper}{op':gC}(h:jd C.P o.op=some op')(hr:HR C ρ F H w)(he:ER w F ρ e a.tmps)(hs:bn e H op'=some (s,H')):aW C (execOp a.eval o) ρ F H w s H':=by
 unfold jd at h
 split at h
 case h_1 x ho=>
  simp only[C5]at h
  obtain⟨y,hy,rfl⟩:=h
  simp only[bn,Dd,Df]at hs
  obtain⟨rfl,rfl⟩:=hs
  simp only[execOp,ho]
  exact qN hy hr he
 case h_2 x ho=>
  simp only[C5]at h
  obtain⟨y,hy,rfl⟩:=h
  simp only[bn,Dd,Df]at hs
  obtain⟨rfl,rfl⟩:=hs
  simp only[execOp,ho]
  exact qN hy hr he
 case h_3 c x y ho=>
  split at h
  ·rename_i c' x' y' h1 h2 h3
   cases h
   obtain⟨h4,rfl⟩:=map_fst hs
   simp only[execOp,ho]
   exact tv h1 h2 h3 hr he h4
  ·cases h
 case h_4 t ho=>
  simp only[C5]at h
  obtain⟨z,hz,rfl⟩:=h
  simp only[bn,Dd,Df]at hs
  obtain⟨rfl,rfl⟩:=hs
  simp only[execOp,ho]
  exact rq hz hr
 case h_5 t x ho=>
  simp only[C5]at h
  obtain⟨y,hy,rfl⟩:=h
  simp only[bn,C5,Df]at hs
  obtain⟨cs,h1,rfl,rfl⟩:=hs
  simp only[execOp,ho]
  exact uZ hy hr he h1
 case h_6 t ps ho=>
  split at h
  ·rename_i z ps' h1 h2
   cases h
   simp only[bn,C5,Df]at hs
   obtain⟨r,h3,rfl,rfl⟩:=hs
   simp only[execOp,ho]
   exact sq h1 h2 hr he h3
  ·cases h
 case h_7 t n ps ho=>
  split at h
  ·rename_i el hel
   split at h
   ·rename_i z zs ps' h1 h2 h3
    replace h:=aa h
    obtain⟨hc,h⟩:=h
    cases h
    simp only[Db,Dc,D0]at hc
    simp only[bn,C5,Df]at hs
    obtain⟨r,h4,rfl,rfl⟩:=hs
    simp only[execOp,ho]
    exact pR hel h1 h2 h3 hc.1 hc.2 hr he h4
   ·cases h
  ·cases h
 case h_8 t x ho=>
  split at h
  ·rename_i ag n y h1 h2 h3
   cases h
   obtain⟨h4,rfl⟩:=map_fst hs
   simp only[execOp,ho]
   exact tt h1 h2 h3 hr he h4
  ·cases h
 case h_9 t x y ho=>
  split at h
  ·rename_i n x' y' h1 h2 h3
   cases h
   simp only[bn,C5,Df]at hs
   obtain⟨H1,h4,rfl,rfl⟩:=hs
   simp only[execOp,ho]
   exact q9 h1 h2 h3 hr he h4
  ·cases h
 case h_10 x ho=>
  simp only[C5]at h
  obtain⟨y,hy,rfl⟩:=h
  exact pX hy hr he o ho hs
 case h_11 bo t x y yt ho=>
  simp only[execOp,ho]
  split at h
  ·rename_i x' y' h1 h2
   have aggs:∀(op:BinOp) (neg:Bool),((op=.eql∧neg=false)∨(op=.neq∧neg=true))→fh C.P t=some true→(bif C.P.eqGuardType C.P.depth t then none else(cK C.P 6 t).map (.gH neg · x' y'))=some op'→bn e H op'=some (s,H')→
    aW C (do let v←(do eqGuard op t x y (a.eval x) (a.eval y);binOp op t (a.eval x) (a.eval y));pure (.value v)) ρ F H w s H':=by
    intro op neg cm hag h hs
    replace h:=cP h
    obtain⟨hm,h⟩:=h
    simp only[C5]at h
    obtain⟨sh,hsh,rfl⟩:=h
    simp only[bn]at hs
    split at hs
    ·rename_i cs ds k1 k2
     simp only[C5,Df]at hs
     obtain⟨r,k3,rfl,rfl⟩:=hs
     exact rG cm h1 h2 hm hsh hag hr he k1 k2 k3
    ·cases hs
   split at h
   ·rename_i hu
    exact aggs .eql false (.inl ⟨rfl,rfl⟩) (by simp[fh,hu]) h hs
   ·rename_i hu
    exact aggs .neq true (.inr ⟨rfl,rfl⟩) (by simp[fh,hu]) h hs
   ·rename_i hu
    exact aggs .eql false (.inl ⟨rfl,rfl⟩) (by simp[fh,hu]) h hs
   ·rename_i hu
    exact aggs .neq true (.inr ⟨rfl,rfl⟩) (by simp[fh,hu]) h hs
   ·cases h
    obtain⟨h4,rfl⟩:=map_fst hs
    exact sA h1 h2 hr he h4
   ·rename_i hu
    cases h
    obtain⟨h4,rfl⟩:=map_fst hs
    exact tk h1 h2 hr he hu h4
   ·cases h
    obtain⟨h4,rfl⟩:=map_fst hs
    exact sA h1 h2 hr he h4
   ·rename_i u hu
    obtain⟨k,neg,rfl⟩:=ir h
    simp only[bn,C5,Df]at hs
    obtain⟨b,k1,rfl,rfl⟩:=hs
    exact rB h hu h1 hr he k1
   ·cases h
  ·cases h
 case h_12 t x ho=>
  simp only[C5]at h
  obtain⟨y,hy,rfl⟩:=h
  simp only[bn]at hs
  split at hs
  ·rename_i b hb
   cases hs
   simp only[execOp,ho]
   exact tg (t:=t) hy hr he hb
  ·cases hs
 case h_13 t x ho=>
  split at h
  ·simp only[C5]at h
   obtain⟨y,hy,rfl⟩:=h
   simp only[bn]at hs
   split at hs
   ·rename_i k n hb
    cases hs
    simp only[execOp,ho]
    exact tO hy hr he hb
   ·cases hs
  ·cases h
 case h_14 sr ds x ho=>
  simp only[execOp,ho]
  split at h
  ·cases h
  ·rename_i y hy
   split at h
   ·rename_i j k h1 h2
    cases h
    simp only[bn]at hs
    split at hs
    ·rename_i k' n hb
     cases hs
     exact qP hy h1 h2 hr he hb
    ·cases hs
   ·rename_i h1 h2
    cases h
    simp only[bn]at hs
    split at hs
    ·rename_i b hb
     cases hs
     exact rC hy h1 h2 hr he hb
    ·cases hs
   ·rename_i el h1 h2
    split at h
    ·rename_i h3 h4
     cases h
     simp only[bn,C6,C5,Df]at hs
     obtain⟨L,k1,l,k2,rfl,rfl⟩:=hs
     exact pQ hy h1 h3 h2 hr he k1 k2
    ·cases h
   ·rename_i el h1 h2
    split at h
    ·rename_i h3 h4
     cases h
     simp only[bn]at hs
     split at hs
     ·rename_i b hb
      cases hs
      obtain⟨val,w',k1,k2⟩:=pL hy h1 h3 h2 hr he hb
      exact aW.mh k1 k2
     ·cases hs
    ·cases h
   ·cases h
 case h_15 f fs cs ho=>
  rw[cond_eq_ite]at h
  split at h
  ·rename_i hc
   simp only[C5]at h
   obtain⟨ys,hy,rfl⟩:=h
   simp only[bn,Dd,Df]at hs
   obtain⟨rfl,rfl⟩:=hs
   simp only[execOp,ho]
   exact tx hc hy hr he
  ·replace h:=aa h
   obtain⟨hc,h⟩:=h
   simp only[C5]at h
   obtain⟨ys,hy,rfl⟩:=h
   simp only[bn,Dd,Df]at hs
   obtain⟨rfl,rfl⟩:=hs
   simp only[execOp,ho]
   exact re hc hy hr he
 case h_16 t l c ho=>
  split at h
  ·rename_i el hel
   split at h
   ·rename_i i z l' c' h1 h2 h3 h4
    replace h:=cP h
    obtain⟨hb,h⟩:=h
    replace h:=aa h
    obtain⟨hz,h⟩:=h
    cases h
    simp only[Bool.or_eq_false_iff,El,D0]at hb hz
    have hu:C.P.underlying t=some (.slice el):=by
     unfold gL at hel
     split at hel
     ·cases hel;assumption
     ·cases hel
    simp only[bn]at hs
    obtain⟨val,w',r1,r2⟩:=oy hu h1 h2 hz (by omega) (by omega) hr (aC h3 he) (aC h4 he) hs
    simp only[execOp,ho]
    exact aW.mh r1 r2
   ·cases h
  ·cases h
 case h_17 t x lo hi mx ho=>
  simp only[execOp,ho]
  split at h
  ·rename_i x' lo' hi' mx' h1 h2 h3 h4
   split at h
   ·rename_i el hu
    split at h
    ·rename_i n hn
     replace h:=cP h
     obtain⟨hb,h⟩:=h
     cases h
     simp only[bn]at hs
     replace hs:=aa hs
     obtain⟨hc,hs⟩:=hs
     obtain⟨h5,rfl⟩:=map_fst hs
     rcases orElse_some h5 with h5|h5
     rotate_left
     ·exact qg h1 h2 h3 h4 hu hn hr he hc h5
     refine p9 h1 h2 h3 h4 hu hn hr he hc (fun hm=>?_) h5
     cases hi' with
     |some v=>rfl
     |none=>rw[hm]at hb;cases hb
    ·cases h
   ·rename_i hu
    split at h
    ·rename_i hm
     cases h
     have:mx=none:=by
      cases mx with
      |none=>rfl
      |some v=>simp[dK]at h4
     subst this
     simp only[bn]at hs
     split at hs
     ·rename_i b hb
      obtain⟨h5,rfl⟩:=map_fst hs
      exact py h1 h2 h3 hu hr he hb h5
     ·cases hs
    ·cases h
   ·cases h
  ·cases h
 case h_18 t x f ho=>
  simp only[execOp,ho]
  split at h
  ·rename_i x' f' h1 h2
   split at h
   ·rename_i n h3
    cases h
    simp only[bn]at hs
    replace hs:=aa hs
    obtain⟨hc,hs⟩:=hs
    obtain⟨h5,rfl⟩:=map_fst hs
    simp only[C6]at h2
    obtain⟨fs,h6,h7⟩:=h2
    exact rm h1 h6 h7 h3 hr he hc h5
   ·cases h
  ·cases h
 case h_19 t x f ho=>
  simp only[execOp,ho]
  split at h
  ·rename_i x' f' h1 h2
   split at h
   ·rename_i ag n h3 h4
    cases h
    simp only[bn]at hs
    split at hs
    ·rename_i cs hc
     obtain⟨h5,rfl⟩:=map_fst hs
     simp only[C6]at h2
     obtain⟨fs,h6,h7⟩:=h2
     exact rO h1 h6 h7 h3 h4 hr he hc h5
    ·cases hs
   ·cases h
  ·cases h
 case h_20 t x ix ho=>
  simp only[execOp,ho]
  split at h
  ·rename_i x' i' h1 h2
   split at h
   ·rename_i el hu
    split at h
    ·rename_i n hn
     cases h
     simp only[bn]at hs
     replace hs:=aa hs
     obtain⟨hc,hs⟩:=hs
     obtain⟨h5,rfl⟩:=map_fst hs
     exact qb h1 h2 hu hn hr he hc h5
    ·cases h
   ·rename_i len el hu
    split at h
    ·rename_i n hn
     cases h
     simp only[bn]at hs
     replace hs:=aa hs
     obtain⟨hc,hs⟩:=hs
     simp only[C6]at hs
     obtain⟨i,h3,hs⟩:=hs
     obtain⟨h5,rfl⟩:=map_fst hs
     exact pP h1 h2 hu hn hr he hc h3 h5
    ·cases h
   ·cases h
  ·cases h
 case h_21 t x ix ho=>
  simp only[execOp,ho]
  split at h
  ·rename_i x' i' h1 h2
   split at h
   ·rename_i len el hu
    split at h
    ·rename_i ag n h3 h4
     cases h
     simp only[bn]at hs
     split at hs
     ·rename_i cs hc
      simp only[C6]at hs
      obtain⟨i,h6,hs⟩:=hs
      obtain⟨h5,rfl⟩:=map_fst hs
      exact pM h1 h2 hu h3 h4 hr he hc h6 h5
     ·cases hs
    ·cases h
   ·rename_i hu
    cases h
    simp only[bn]at hs
    split at hs
    ·rename_i b hc
     simp only[C6,C5,Df]at hs
     obtain⟨i,h6,y,h7,rfl,rfl⟩:=hs
     exact qk h1 h2 hu hr he hc h6 h7
    ·cases hs
   ·cases h
  ·cases h
 case h_22 x i ho=>
  simp only[C5]at h
  obtain⟨y,hy,rfl⟩:=h
  simp only[bn]at hs
  split at hs
  ·rename_i vs hb
   obtain⟨h4,rfl⟩:=map_fst hs
   simp only[execOp,ho]
   exact og hy hr he hb h4
  ·cases hs
 case h_23 c ho=>
  unfold jr at h
  split at h
  ·split at h
   ·cases h;cases hs
   ·cases h
  ·cases h
  ·rename_i b hb
   have hx:∃cs,execOp a.eval o=builtin b c.argTypes o.type cs (c.args.map a.eval):=⟨_,by simp only[execOp,ho,resolve,hb];rfl⟩
   obtain⟨cs,hx⟩:=hx
   rw[hx]
   split at h
   ·cases h
   ·rename_i xs hxs
    split at h
    ·rename_i y
     obtain⟨x,hx1,hy⟩:=lg hxs
     rw[hx1]
     simp only[Fk,DQ,ES]
     split at h
     ·rename_i hu
      cases h
      simp only[C6]at hu
      obtain⟨t0,h0,hu⟩:=hu
      simp only[bn]at hs
      split at hs
      ·rename_i b hbb
       cases hs
       exact tG (ty:=o.type) hy h0 hu hr he hbb
      ·cases hs
     ·rename_i el hu
      cases h
      simp only[C6]at hu
      obtain⟨t0,h0,hu⟩:=hu
      simp only[bn]at hs
      replace hs:=aa hs
      obtain⟨hc,hs⟩:=hs
      rw[C5]at hs
      obtain⟨n,h1,hs⟩:=hs
      cases hs
      exact tf (ty:=o.type) hy h0 hu hr he hc h1
     ·rename_i n el hu
      cases h
      simp only[C6]at hu
      obtain⟨t0,h0,hu⟩:=hu
      simp only[bn,Dd,Df]at hs
      obtain⟨rfl,rfl⟩:=hs
      exact tF (ty:=o.type) h0 hu hr
     ·cases h
    ·split at h
     ·cases h
      obtain⟨h1,rfl⟩:=map_fst hs
      exact vb hxs hr he h1
     ·cases h
    ·split at h
     ·cases h
      obtain⟨h1,rfl⟩:=map_fst hs
      exact vc hxs hr he h1
     ·cases h
    ·rename_i y z
     obtain⟨x,x',hx1,hy,hy'⟩:=lC hxs
     rw[hx1]
     simp only[Fk,DQ,ES]
     split at h
     ·rename_i el el' h1 h2
      split at h
      ·rename_i i hi
       replace h:=cP h
       obtain⟨hb,h⟩:=h
       simp only[Bool.or_eq_false_iff,El]at hb
       split at h
       ·rename_i zl hzl
        replace h:=aa h
        obtain⟨hz,h⟩:=h
        cases h
        simp only[D0]at hz
        simp only[C6]at h1 h2
        obtain⟨t0,h0,h1⟩:=h1
        obtain⟨t1,h3,h2⟩:=h2
        obtain⟨i',v,hi',hv,k1,k2⟩:=dO (w:=w) (F:=F) (ρ:=ρ) hzl
        rw[hi]at hi';cases hi'
        simp only[bn,C6]at hs
        obtain⟨X,hX,hs⟩:=hs
        have hT:tB C.P c.argTypes el i.size i v:=⟨⟨t0,h0,kJ h1⟩,⟨t1,el',h3,h2⟩,hi,rfl,hv,by omega,by omega,by omega⟩
        obtain⟨val,w',r1,r2⟩:=qh hT (ty:=o.type) hr (aC hy he) (aC hy' he) hX hs
        exact aW.mh r1 r2
       ·cases h
      ·cases h
     ·cases h
    ·rename_i y z
     obtain⟨x,x',hx1,hy,hy'⟩:=lC hxs
     rw[hx1]
     simp only[Fk,DQ,ES]
     split at h
     ·rename_i el el' h1 h2
      split at h
      ·rename_i n hn
       cases h
       simp only[C6]at h1 h2
       obtain⟨t0,h0,h1⟩:=h1
       simp only[bn,C6]at hs
       obtain⟨X,hX,hs⟩:=hs
       obtain⟨val,w',r1,r2⟩:=ug (ty:=o.type) h0 (kJ h1) hn (by omega) hr (aC hy he) (aC hy' he) hX hs
       exact aW.mh r1 r2
      ·cases h
     ·cases h
    ·rename_i y
     obtain⟨x,hx1,hy⟩:=lg hxs
     rw[hx1]
     simp only[Fk,DQ,ES]
     split at h
     ·rename_i el h1
      split at h
      ·rename_i zh zt hz
       cases h
       simp only[C6]at h1
       obtain⟨t0,h0,h1⟩:=h1
       simp only[bn]at hs
       obtain⟨val,w',r1,r2⟩:=qY (ty:=o.type) h0 (kJ h1) hz (by simp) hr (aC hy he) hs
       exact aW.mh r1 r2
      ·cases h
     ·cases h
    ·cases h
 case h_24 t ho=>
  cases h
  simp only[bn,Dd,Df]at hs
  obtain⟨rfl,rfl⟩:=hs
  simp only[execOp,ho]
  exact r0 hr t
 case h_25 t m k v ho=>
  simp only[execOp,ho]
  split at h
  ·rename_i q el m' k' v' h1 h2 h3 h4
   cases h
   simp only[bn]at hs
   exact mE h1 h2 h3 h4 hr he hs
  ·cases h
 case h_26 t m k v ho=>
  simp only[execOp,ho]
  split at h
  ·rename_i q el m' k' v' h1 h2 h3 h4
   cases h
   simp only[bn]at hs
   exact mE h1 h2 h3 h4 hr he hs
  ·cases h
 case h_27 t m k ok ho=>
  simp only[execOp,ho]
  split at h
  ·rename_i q el m' k' h1 h2 h3
   simp only[C5]at h
   obtain⟨z,hz,rfl⟩:=h
   simp only[bn]at hs
   exact rK h1 hz h2 h3 hr he hs
  ·cases h
 case h_28=>cases h
end
end
section
abbrev WF(ro:Option Nat):Fence:={fn:=fun _=>True,depth:=none,alive:=false,round:=ro}
def et(w:World)(F:Nat→Prop)(ρ:Map)(xs:List SV)(args:Array Value):Prop:=xs.length=args.size∧∀(j:Nat) c v,xs[j]?=some c→args[j]?=some v→VR w F ρ c v
def qZ(C:Ctx)(rec:Rec):Prop:=∀f xs H v H',rec (.fn f) xs H=some (v,H')→∀(ρ:Map) (F:Nat→Prop) (w:World) (args:Array Value),HR C ρ F H w→et w F ρ xs args→
 (callFunc f args).run C.P w=.ok (.enter f args) w∧∀n,CallsIn Fence.wide n C.P f args w (fun e w'=>∃val,e=.returned val∧bX C ρ F H w v H' val w')
def uu(C:Ctx)(rec:Rec):Prop:=∀b xs H v H',rec (.jf b) xs H=some (v,H')→∀(ρ:Map) (F:Nat→Prop) (w:World) (args:Array Value) (l:Loc),HR C ρ F H w→et w F ρ xs args→ρ b=some l→
 ∃f tmps as1 bd,(Instr.yield l.bu args).run C.P w=.ok (.round l.bu f tmps as1 bd) w∧∀n,RoundIn Fence.wide n C.P l.bu f tmps as1 bd w (fun e w'=>∃val,e=.returned val∧bX C ρ F H w v H' val w')
def qw(C:Ctx)(rec:Rec):Prop:=∀f xs H v H',rec (.qC f) xs H=some (v,H')→∀(ρ:Map) (F:Nat→Prop) (w:World) (args:Array Value),HR C ρ F H w→et w F ρ xs args→
 (callFunc f args).run C.P w=.ok (.enter f args) w∧∀n,CallsIn Fence.wide n C.P f args w (fun e w'=>∃val,e=.returned val∧bX C ρ F H w v H' val w')
structure di(C:Ctx)(rec:Rec):Prop where
 call:qZ C rec
 zD:qw C rec
 jf:uu C rec
section
variable{C:Ctx}{ρ:Map}{F:Nat→Prop}{H H':ab}{w:World}{e:Env}{a:Act}{s c d:SV}
theorem fY{xs ys:List SV}{vs ws:Array Value}(h:et w F ρ xs vs)(h':et w F ρ ys ws):et w F ρ (xs++ys) (vs++ws):=by
 refine⟨by simp[h.1,h'.1],fun j c v hc hv=>?_⟩
 rw[D5]at hc
 rw[Array.getElem?_append]at hv
 rw[h.1]at hc
 split at hc
 ·rename_i hlt
  rw[if_pos hlt]at hv
  exact h.2 j c v hc hv
 ·rename_i hlt
  rw[if_neg hlt]at hv
  exact h'.2 _ c v hc hv
theorem dB{o:Oper}{op:gC}(h:jd C.P o.op=some op):∀c,o.op≠.defer c:=by
 intro c hc
 rw[hc]at h
 simp[jd]at h
theorem kI{P:Program}{o:Op}{f:bj}{xs:List bj}(h:jd P o=some (.call f xs)):∃c,o=.call c∧jr P c=some (.call f xs):=by
 unfold jd at h
 split at h
 case h_23 c=>exact⟨c,rfl,h⟩
 all_goals (repeat' split at h)
 all_goals (first|(cases h;done)|(obtain⟨_,_,h2⟩:=ir h;cases h2;done)|(simp[C5,cond_eq_ite]at h;done)|(simp only[cond_eq_ite]at h;repeat' split at h;all_goals (first|(cases h;done)|(simp[C5]at h;done))))
theorem tE{P:Program}{o:Op}{f:FuncId}{m:Nat}{xs:List bj}(h:jd P o=some (.eK f m xs)):False:=by
 unfold jd at h
 split at h
 case h_23 c=>
  unfold jr at h
  repeat' split at h
  all_goals (first|(cases h;done)|(simp[C5,cond_eq_ite]at h;done)|(repeat' split at h) )
  all_goals (first|(cases h;done)|(simp[C5,cond_eq_ite]at h;done))
 all_goals (repeat' split at h)
 all_goals (first|(cases h;done)|(obtain⟨_,_,h2⟩:=ir h;cases h2;done)|(simp[C5,cond_eq_ite]at h;done)|(simp only[cond_eq_ite]at h;repeat' split at h;all_goals (first|(cases h;done)|(simp[C5]at h;done))))
theorem sU{P:Program}{o:Op}{f:FuncId}{xs:List bj}(h:jd P o=some (.jv f xs)):False:=by
 unfold jd at h
 split at h
 case h_23 c=>
  unfold jr at h
  repeat' split at h
  all_goals (first|(cases h;done)|(simp[C5,cond_eq_ite]at h;done)|(repeat' split at h) )
  all_goals (first|(cases h;done)|(simp[C5,cond_eq_ite]at h;done))
 all_goals (repeat' split at h)
 all_goals (first|(cases h;done)|(obtain⟨_,_,h2⟩:=ir h;cases h2;done)|(simp[C5,cond_eq_ite]at h;done)|(simp only[cond_eq_ite]at h;repeat' split at h;all_goals (first|(cases h;done)|(simp[C5]at h;done))))
theorem ic{P:Program}{c:Call}{f:bj}{xs:List bj}(h:jr P c=some (.call f xs)):∃g,c.callee=.value g∧aR g=some f∧eX c.args=some xs:=by
 unfold jr at h
 split at h
 ·rename_i g hg
  split at h
  ·rename_i f' xs' h1 h2
   cases h
   exact⟨g,hg,h1,h2⟩
  ·cases h
 ·cases h
 ·exfalso
  repeat' split at h
  all_goals (first|(cases h;done)|(simp[C5,cond_eq_ite]at h;done)|(repeat' split at h) )
  all_goals (first|(cases h;done)|(simp[C5,cond_eq_ite]at h;done))
theorem sk{rec:Rec}(hrec:di C rec){o:Oper}{f:FuncId}{m:Nat}{xs:List bj}(cm:jd C.P o.op=some (.call (.c (.fn f [])) xs))(hs:rec (.qC f) (xs.map (ev e)) H=some (s,H'))(hr:HR C ρ F H w)(he:ER w F ρ e a.tmps)
 {ro:Option Nat} {n:Nat} {K:Act→World→Prop} {Q:Exit→Act→World→Prop} (hK:∀val w',bX C ρ F H w s H' val w'→K (a.put o.dst val) w'):o.wpIn (WF ro) n C.P a w K Q:=by
 refine⟨fun _ _=>trivial,?_⟩
 rw[Oper.semAt_eq _ _ _ (dB cm)]
 obtain⟨c,ho,hcc⟩:=kI cm
 obtain⟨g,hg,hf,hxs⟩:=ic hcc
 obtain⟨hn,hv⟩:=eS hxs he
 have hargs:et w F ρ (xs.map (ev e)) (c.args.map a.eval):=⟨by simpa using hn,hv⟩
 have hgv:=aC hf he
 simp only[ev]at hgv
 have hx0:execOp a.eval o=(do let d←Deferred.ofValue (a.eval g) (c.args.map a.eval);invoke d.target d.args):=by
  simp only[execOp,ho,resolve,hg]
 generalize hgval:a.eval g=gv at *
 cases hgv with
 |fn hn2 hv2=>
  rename_i vs
  have hvs:vs= #[]:=EG (by simpa using hn2.symm)
  subst hvs
  obtain⟨h1,h2⟩:=hrec.zD _ _ _ _ _ hs ρ F w _ hr hargs
  rw[hx0]
  have hx:(do let d←Deferred.ofValue (Value.func (.func f) #[] #[]) (c.args.map a.eval);invoke d.target d.args:Sem Next)=callFunc f (c.args.map a.eval):=by
   simp[Deferred.ofValue,invoke]
  rw[hx,h1]
  refine⟨fun h=>by simp at h,CallsIn.mono (h2 _) (fun e' w' he'=>?_)⟩
  obtain⟨val,rfl,hd⟩:=he'
  exact hK val w' hd
theorem sy{rec:Rec}(hrec:di C rec){o:Oper}{op:gC}(cm:jd C.P o.op=some op)(hs:ae rec e H op=some (s,H'))(hr:HR C ρ F H w)(he:ER w F ρ e a.tmps)
 {ro:Option Nat} {n:Nat} {K:Act→World→Prop} {Q:Exit→Act→World→Prop} (hK:∀val w',bX C ρ F H w s H' val w'→K (a.put o.dst val) w'):o.wpIn (WF ro) n C.P a w K Q:=by
 refine⟨fun _ _=>trivial,?_⟩
 rw[Oper.semAt_eq _ _ _ (dB cm)]
 by_cases hc:∃f xs,op=.call f xs
 ·obtain⟨f,xs,rfl⟩:=hc
  obtain⟨c,ho,hcc⟩:=kI cm
  obtain⟨g,hg,hf,hxs⟩:=ic hcc
  obtain⟨hn,hv⟩:=eS hxs he
  have hargs:et w F ρ (xs.map (ev e)) (c.args.map a.eval):=⟨by simpa using hn,hv⟩
  have hgv:=aC hf he
  simp only[ae]at hs
  unfold gM at hs
  have key:∀(S:Sem Next),(execOp a.eval o)=(do let d←Deferred.ofValue (a.eval g) (c.args.map a.eval);invoke d.target d.args):=fun _=>by
   simp only[execOp,ho,resolve,hg]
  split at hs
  ·rename_i f' cs hfn
   rw[hfn]at hgv
   generalize hgval:a.eval g=gv at *
   cases hgv with
   |fn hn2 hv2=>
    rename_i vs
    have ha:=fY hargs ⟨hn2,hv2⟩
    obtain⟨h1,h2⟩:=hrec.call _ _ _ _ _ hs ρ F w _ hr ha
    rw[key (execOp a.eval o)]
    have hx:(do let d←Deferred.ofValue (Value.func (.func f') #[] vs) (c.args.map a.eval);invoke d.target d.args:Sem Next)=callFunc f' (c.args.map a.eval++vs):=by
     simp[Deferred.ofValue,invoke]
    rw[hx,h1]
    refine⟨fun h=>by simp at h,CallsIn.mono (h2 _) (fun e' w' he'=>?_)⟩
    obtain⟨val,rfl,hd⟩:=he'
    exact hK val w' hd
  ·rename_i f' cs hfn
   rw[hfn]at hgv
   generalize hgval:a.eval g=gv at *
   cases hgv with
   |mf hn2 hv2=>
    rename_i vs
    have ha:=fY ⟨hn2,hv2⟩ hargs
    obtain⟨h1,h2⟩:=hrec.call _ _ _ _ _ hs ρ F w _ hr ha
    rw[key (execOp a.eval o)]
    have hx:(do let d←Deferred.ofValue (Value.func (.func f') vs #[]) (c.args.map a.eval);invoke d.target d.args:Sem Next)=callFunc f' (vs++c.args.map a.eval):=by
     simp[Deferred.ofValue,invoke]
    rw[hx,h1]
    refine⟨fun h=>by simp at h,CallsIn.mono (h2 _) (fun e' w' he'=>?_)⟩
    obtain⟨val,rfl,hd⟩:=he'
    exact hK val w' hd
  ·rename_i b hfn
   rw[hfn]at hgv
   generalize hgval:a.eval g=gv at *
   cases hgv with
   |jf h ha=>
    rename_i l
    obtain⟨f',tmps,as1,bd,h1,h2⟩:=hrec.jf _ _ _ _ _ hs ρ F w _ l hr hargs h
    rw[key (execOp a.eval o)]
    have hx:(do let d←Deferred.ofValue (Value.func (.yield l.bu) #[] #[]) (c.args.map a.eval);invoke d.target d.args:Sem Next)=Instr.yield l.bu (c.args.map a.eval):=by
     simp[Deferred.ofValue,invoke]
    rw[hx,h1]
    refine⟨fun h=>by simp at h,RoundIn.mono (h2 _) (fun e' w' he'=>?_)⟩
    obtain⟨val,rfl,hd⟩:=he'
    exact hK val w' hd
  ·cases hs
 ·have hs':bn e H op=some (s,H'):=by
   unfold ae at hs
   split at hs
   ·exact absurd ⟨_,_,rfl⟩ hc
   ·rename_i f m xs
    exfalso
    exact tE cm
   ·rename_i f xs
    exfalso
    exact sU cm
   ·exact hs
  obtain⟨val,w',h1,h2⟩:=pk cm hr he hs'
  rcases h1 with h1|⟨h1,rfl⟩
  ·rw[h1];exact hK _ _ h2
  ·rw[h1];exact hK _ _ h2
end
end
end Go.Sh
