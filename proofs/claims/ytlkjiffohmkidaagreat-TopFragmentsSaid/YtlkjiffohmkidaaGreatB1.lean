/- A part of the proof: texts ShA, ShB, ShC, ShD, ShE, ShF, ShG. -/
import GoSem.Step
import Derived.Attr
import Derived.RangeFuncLeaves
import Derived.RangeFuncCalls
import Derived.Laws.Sem
import Derived.Laws.Cells
import Derived.Laws.Entries
import Derived.ChangeKeysEq
namespace Go.Sh
set_option linter.unusedSectionVars false
set_option linter.unnecessarySimpa false
set_option linter.unusedSimpArgs false
set_option linter.unusedVariables false
set_option maxRecDepth 100000
set_option maxHeartbeats 4000000
section
abbrev NN:=@decide_eq_true
abbrev NO:=@List.length_append
abbrev NP:=@Option.map_eq_some_iff
abbrev NQ:=@decide_eq_false
abbrev NR:=@List.append_assoc
abbrev NS:=@Option.bind_eq_some_iff
abbrev NT:=@List.getElem?_eq_some_iff
abbrev NU:=@List.filter_replicate
abbrev NV:=@Nat.le_refl
abbrev NW:=@List.all_replicate
abbrev NX:=@Bool.and_eq_true
abbrev NY:=@decide_eq_true_eq
abbrev NZ:=@List.length_set
abbrev N0:=@Int.toNat_natCast
abbrev N1:=@Option.some.injEq
abbrev N2:=@Int.toNat_of_nonneg
abbrev N3:=@Prod.mk.injEq
abbrev N4:=@List.getElem?_eq_getElem
abbrev N5:=@List.all_eq_true
abbrev N6:=@cond_true
abbrev N7:=@List.getElem?_set_ne
abbrev N8:=@Array.getElem?_eq_some_iff
abbrev N9:=@Nat.add_assoc
abbrev Oa:=@cond_false
abbrev Ob:=@List.getElem?_take
abbrev Oc:=@List.length_nil
abbrev Od:=@Array.getElem?_eq_getElem
abbrev Oe:=@List.length_map
abbrev Of:=@List.mem_range
abbrev Og:=@List.length_cons
abbrev Oh:=@Nat.lt_or_ge
abbrev Oi:=@List.mem_cons_self
abbrev Oj:=@List.filter_append
abbrev Ok:=@List.mem_of_getElem?
abbrev Ol:=@List.getElem?_append_right
abbrev Om:=@Nat.mul_le_mul_right
abbrev On:=@List.getElem?_append_left
abbrev Oo:=@Option.map_some
abbrev Oq:=@List.getElem?_eq_none
abbrev Ot:=@Bool.not_eq_true'
abbrev Ou:=@List.getElem?_drop
abbrev Ov:=@List.map_cons
abbrev Ow:=@decide_eq_false_iff_not
abbrev Ox:=@Nat.add_mul
abbrev Oy:=@List.cons_append
abbrev Oz:=@Array.getElem?_setIfInBounds_ne
abbrev OD:=@List.getElem?_of_mem
abbrev OP:=@Nat.lt_of_lt_of_le
abbrev OR:=@List.take_of_length_le
abbrev OS:=@List.append_nil
abbrev OV:=@Option.bind_some
abbrev OW:=@List.mem_cons_of_mem
abbrev OY:=@Nat.zero_add
abbrev O0:=@Nat.le_trans
abbrev O1:=@beq_iff_eq
abbrev O2:=@Option.getD_some
abbrev O3:=@Bool.or_eq_true
abbrev O4:=@Array.getD_eq_getD_getElem?
abbrev O5:=@Bool.and_self
abbrev O6:=@List.all_append
abbrev O7:=@Nat.mod_eq_of_lt
abbrev O8:=@beq_self_eq_true
abbrev O9:=@List.mem_cons
abbrev Pa:=@List.getElem?_append
abbrev Pb:=@Nat.min_eq_left
abbrev Pc:=@Bool.false_eq_true
abbrev Pd:=@List.getElem?_set_self
abbrev Pe:=@List.eq_nil_of_length_eq_zero
abbrev Pf:=@List.mem_filter
abbrev Pg:=@Nat.pow_le_pow_right
abbrev Ph:=@Nat.add_zero
abbrev Pj:=@List.mem_append_left
abbrev Pk:=@List.ext_getElem?
abbrev Pl:=@List.set_cons_zero
abbrev Pm:=@List.set_cons_succ
abbrev Pn:=@Array.eq_empty_of_size_eq_zero
abbrev Po:=@Nat.sub_self
abbrev Pp:=@Array.getElem?_push
abbrev Pq:=@Nat.one_mul
abbrev Pr:=@beq_eq_false_iff_ne
abbrev Ps:=@List.nodup_append
abbrev Pt:=@List.pairwise_append
abbrev Pu:=@List.getElem?_toArray
abbrev Pv:=@ByteArray.size_append
abbrev Pw:=@UInt8.toNat_lt
abbrev Px:=@Bool.not_true
abbrev Py:=@List.getElem?_map
abbrev Pz:=@Bool.false_or
abbrev PA:=@List.length_range
abbrev PB:=@Nat.ne_of_lt
abbrev PC:=@Classical.byContradiction
abbrev PD:=@decide_eq_decide
abbrev PE:=@List.replicate_zero
abbrev PF:=@Nat.le_of_eq
abbrev PG:=@List.map_nil
abbrev PH:=@Nat.lt_trichotomy
abbrev PI:=@List.pairwise_cons
abbrev PJ:=@List.mem_append
abbrev PK:=@Bool.eq_iff_iff
abbrev PL:=@List.take_length
abbrev PM:=@List.mem_map
abbrev PN:=@List.getD_eq_getElem?_getD
abbrev PO:=@Nat.zero_le
abbrev PQ:=@of_decide_eq_true
abbrev PR:=@List.nil_append
abbrev PS:=@List.nodup_cons
abbrev PV:=@Int.natCast_pow
abbrev PW:=@List.length_take
abbrev PX:=@List.filter_cons_of_pos
abbrev PY:=@List.getElem?_set
abbrev PZ:=@Option.some.inj
abbrev P0:=@Array.length_toList
abbrev P1:=@List.getElem?_range
abbrev P2:=@List.replicate_succ
abbrev P3:=@Array.getElem?_eq_none
abbrev P4:=@ByteArray.size_extract
abbrev P5:=@Bool.not_eq_true
abbrev P6:=@List.mem_append_right
abbrev P7:=@Nat.lt_irrefl
abbrev P8:=@List.drop_zero
abbrev P9:=@List.exists_mem_of_ne_nil
abbrev Qa:=@Nat.eq_of_testBit_eq
abbrev Qb:=@Option.map_none
abbrev Qc:=@List.getElem?_replicate
abbrev Qd:=@List.map_congr_left
abbrev Qe:=@Nat.zero_testBit
abbrev Qf:=@Array.getElem?_extract
abbrev Qg:=@List.drop_of_length_le
abbrev Qh:=@List.length_eq_one_iff
abbrev Qi:=@ByteArray.data_extract
abbrev Qj:=@Array.ext_getElem?
abbrev Qk:=@List.mem_singleton
abbrev Ql:=@Int.cast_ofNat_Int
abbrev Qm:=@Array.getElem?_modify
abbrev Qn:=@Nat.mul_comm
abbrev Qo:=@Nat.zero_mul
abbrev Qp:=@Array.getElem?_append_right
abbrev Qq:=@Nat.mul_one
abbrev Qr:=@Classical.choose_spec
abbrev Qs:=@Nat.pow_pos
abbrev Qt:=@Nat.two_pow_add_eq_or_of_lt
abbrev Qu:=@Int.natCast_mul
abbrev Qv:=@BitVec.xor_zero
abbrev Qw:=@ByteArray.data_append
abbrev Qx:=@List.flatten_cons
abbrev Qy:=@Array.getElem?_append_left
abbrev Qz:=@Int.tmod_eq_emod_of_nonneg
abbrev QA:=@BitVec.getLsbD_ushiftRight
abbrev QB:=@List.getElem?_mapIdx
abbrev QC:=@List.take_zero
abbrev QD:=@List.mem_flatten
abbrev QE:=@List.map_toArray
abbrev QF:=@List.any_eq_true
abbrev QG:=@BitVec.getLsbD_shiftLeft
abbrev QH:=@List.getElem?_cons_succ
abbrev QI:=@Nat.add_sub_cancel
abbrev QJ:=@BitVec.toNat_ofInt
abbrev QK:=@BitVec.toNat_ofNat
abbrev QL:=@List.map_append
abbrev QM:=@Nat.add_sub_cancel_left
abbrev QN:=@Nat.testBit_lt_two_pow
abbrev QO:=@List.reverse_cons
abbrev QP:=@List.nodup_nil
abbrev QQ:=@Array.getElem?_toList
abbrev QR:=@Nat.add_comm
abbrev QS:=@List.take_append_drop
abbrev QT:=@Bool.and_eq_false_iff
abbrev QU:=@Array.size_eq_one_iff
abbrev QV:=@BitVec.eq_of_toNat_eq
abbrev QW:=@List.set_append_right
abbrev QX:=@List.nodup_range
abbrev QY:=@BitVec.toNat_and
abbrev QZ:=@List.range_eq_range'
abbrev Q0:=@Nat.pow_lt_pow_right
abbrev Q1:=@Bool.true_and
abbrev Q5:=@Bool.or_false
abbrev Q6:=@List.length_pos_iff
abbrev Q7:=@List.foldl_cons
abbrev Q8:=@List.cons.injEq
abbrev Q9:=@BitVec.toNat_or
abbrev Ra:=@BitVec.xor_self
abbrev Rb:=@Int.natCast_one
abbrev Rc:=@List.range_succ
abbrev Rd:=@Nat.lt_or_gt_of_ne
abbrev Re:=@of_decide_eq_false
abbrev Rf:=@Nat.and_one_is_mod
abbrev Rg:=@Nat.mul_zero
abbrev Rh:=@Bool.false_and
abbrev Ri:=@List.foldlM_cons
abbrev Rj:=@Int.natCast_zero
abbrev Rk:=@List.not_mem_nil
abbrev Rl:=@Nat.max_zero
abbrev Rm:=@List.set_set
abbrev Rn:=@Nat.mod_lt
abbrev Ro:=@Bool.not_false
abbrev Rp:=@Bool.and_assoc
abbrev Rq:=@Bool.and_false
abbrev Rr:=@Int.ofNat_zero
abbrev Rs:=@Int.one_mul
abbrev Rt:=@Bool.and_true
inductive SV where
 |undef
 |gJ
 |bool (b:Bool)
 |int (k:IntKind) (n:Int)
 |str (s:ByteArray)
 |bF
 |ptr (b bU i o:Nat)
 |eS (cs:List SV)
 |aB (z:Nat) (L:List (List SV)) (full:Bool)
 |bG (b bU off len:Nat)
 |agg (cs:List SV)
 |ax (vs:List SV)
 |fn (f:FuncId) (caps:List SV)
 |oI (f:FuncId) (firsts:List SV)
 |fR
 |lT (b:Nat)
 |mp (b:Nat)
 |kZ
 |pU (b o n:Nat)
 deriving Inhabited
inductive bj where
 |t (n:Nat)
 |c (v:SV)
inductive LK where|b|i|s
inductive NK where|p|f|s
inductive jH where
 |cp (x:bj)
 |pick (c a b:bj)
 |box (x:bj)
 |alloc (z:List SV)
 |lg (z:Nat)
 |build (z:List SV) (ps:List (Nat×Nat×bj))
 |eR (bg:Nat) (z:List SV) (n:Nat) (ps:List (Nat×bj))
 |dO (bg:Nat) (z:List SV) (n:Nat) (ps:List (Nat×bj))
 |load (ag:Bool) (n:Nat) (a:bj)
 |store (n:Nat) (a x:bj)
 |cQ (x:bj)
 |bin (op:BinOp) (x y:bj)
 |mP (op:BinOp) (x y:bj)
 |fN (neg:Bool) (sh:List LK) (x y:bj)
 |jT (x:bj)
 |isNil (k:NK) (neg:Bool) (x:bj)
 |ue (x:bj)
 |cF (k:IntKind) (x:bj)
 |oB (x:bj)
 |iy (x:bj)
 |nu (x:bj)
 |jF (f:FuncId) (cs:List bj)
 |mb (f:FuncId) (cs:List bj)
 |fB (bg:Nat) (z:List SV) (bytes:Nat) (l c:bj)
 |iU (bg:Nat) (x:bj) (lo hi mx:Option bj)
 |ec (x:bj) (lo hi:Option bj)
 |aH (off:Nat) (x:bj)
 |field (ag:Bool) (n off:Nat) (x:bj)
 |dJ (bg:Nat) (x ix:bj)
 |dI (len bg:Nat) (x ix:bj)
 |lB (ag:Bool) (n len:Nat) (x ix:bj)
 |dY (x ix:bj)
 |extract (x:bj) (i:Nat)
 |len (x:bj)
 |ct (x:bj)
 |uk (n:Nat)
 |nU (xs:List bj)
 |qd (xs:List bj)
 |append (bg bytes:Nat) (s x:bj)
 |mN (s x:bj)
 |copy (bg:Nat) (d x:bj)
 |clear (bg:Nat) (z:List SV) (x:bj)
 |lY
 |m6 (t:LK) (x k v:bj)
 |l9 (t:LK) (ok:Bool) (z:SV) (x k:bj)
 |ub (x:bj)
 |kg (x:bj)
 |oU (x:bj)
 |lM (x:bj)
 |sliceB (len:Nat) (x:bj) (hi:bj)
 |call (f:bj) (xs:List bj)
 |dL (f:FuncId) (n:Nat) (xs:List bj)
 |l7 (f:FuncId) (xs:List bj)
 |bad
inductive DK where|pure|fC|kn|wr (rd:List (bj×Nat))
structure aU where
 kind:DK
 ep:List Nat
 sy:Nat
 jf:Nat
structure ak where
 dst:Option Nat
 op:jH
 g:Option (Nat×Bool)
structure dj where
 live:List Nat
 aL:List (Nat×Nat)
inductive mJ where|normal|exit (id:Nat)|ret
inductive bO where
 |skip
 |ops (l:List ak)
 |drawn (l:List (ak×aU))
 |perm (l:List ak) (os:List (List Nat))
 |seq (a b:bO)
 |cond (c:bj) (a b:bO)
 |block (id:Nat) (a:bO)
 |loop (p:dj) (a:bO)
 |freeze (t:Nat)
 |aL (vs:List (Nat×Nat))
 |Ao (d:Nat) (neg:Bool) (x:bj) (c:bO)
 |nB (f:bj) (ps:List Nat) (assign body:bO)
 |ext (k:Nat)
 |exit (id:Nat)
 |ret
abbrev Env:=List (Nat×SV)
structure pz where
 env:Env
 ps:List Nat
 assign:bO
 body:bO
inductive aj where
 |dead
 |box (cs:List SV)
 |arr (bU z:Nat) (L:List (List SV)) (exact:Bool)
 |loop (r:pz) (st:LoopState) (pend:mJ)
 |map (es:List (SV×SV))
 |iter (b n k:Nat)
structure ae where
 bl:List aj
 bC:List (Nat×Nat)
 ro:Nat
inductive MB where|fn (f:FuncId)|lT (b:Nat)|n8 (f:FuncId)
abbrev Rec:=MB→List SV→ae→Option (SV×ae)
inductive rn where|tmp (t:Nat)|cell (t:Nat)(ag:Bool)(n:Nat)
structure aC where
 res:List rn
 body:bO
 keep:Bool
def SV.gU:SV→Bool
 | .undef=>false
 | .gJ=>false
 | .agg _=>false
 | .ax _=>false
 |_=>true
def bV:SV→Option (List SV)
 | .agg cs=>some cs
 |v=>bif v.gU then some [v]else none
def SV.refs:SV→Nat
 | .ptr b _ _ _=>b+1
 | .bG b _ _ _=>b+1
 | .lT b=>b+1
 | .mp b=>b+1
 | .pU b _ _=>b+1
 | .agg cs=>au cs
 | .ax cs=>au cs
 | .fn _ cs=>au cs
 | .oI _ cs=>au cs
 |_=>0
where au:List SV→Nat
 |[]=>0
 |v::vs=>max v.refs (au vs)
def get:Env→Nat→SV
 |[],_=>.undef
 |(j,v)::e,i=>bif i==j then v else get e i
def ev(e:Env):bj→SV
 | .t n=>get e n
 | .c v=>v
def az(H:ae)(b:Nat):Option aj:=H.bl[b]?
def bT(H:ae)(b:Nat)(x:aj)(refs:Nat):Option ae:=
 bif decide (H.ro≤b)&&decide (b<H.bl.length)then some {H with bl:=H.bl.set b x,bC:=bif decide (refs≤b+1)then H.bC else(b,refs)::H.bC} else none
def aV(H:ae)(x:aj):ae:={H with bl:=H.bl++[x]}
def kq(z:Nat)(H:ae):SV→Option (List (List SV))
 | .aB z' L _=>bif z'==z||L.isEmpty then some L else none
 | .bG b v off n=>match az H b with
   |some (.arr v' z' L _)=>bif v==v'&&z'==z&&decide (off+n≤L.length)then some ((L.drop off).take n)else none
   |_=>none
 |_=>none
def mv:SV→Option Nat
 | .aB _ L _=>some L.length
 | .bG _ _ _ n=>some n
 |_=>none
def cG(ag:Bool)(n:Nat)(cs:List SV)(o:Nat):Option SV:=
 bif ag then(bif decide (o+n≤cs.length)then some (.agg ((cs.drop o).take n))else none)else cs[o]?
def eL(cs:List SV)(o n:Nat)(x:List SV):List SV:=cs.take o++x++cs.drop (o+n)
def iX:SV→SV→SV→Option SV
 | .bool t,.bool x,.bool y=>some (.bool (bif t then x else y))
 | .bool t,x,y=>bif t then some x else some y
 |_,_,_=>none
def fM(ev:bj→SV):List SV→List (Nat×Nat×bj)→Option (List SV)
 |z,[]=>some z
 |z,(off,n,x)::ps=>
  (bV (ev x)).bind fun cs=>bif cs.length==n&&decide (off+n≤z.length)then fM ev (eL z off n cs) ps else none
def dU(ev:bj→SV)(bg:Nat):List (List SV)→List (Nat×bj)→Option (List (List SV))
 |z,[]=>some z
 |z,(i,x)::ps=>(bV (ev x)).bind fun cs=>bif cs.length==bg&&decide (i<z.length)then dU ev bg (z.set i cs) ps else none
def cw(ag:Bool)(n:Nat)(H:ae):SV→Option SV
 | .ptr b v i o=>match az H b with
   |some (.box cs)=>bif i==0 then cG ag n cs o else none
   |some (.arr v' _ L _)=>bif v==v' then match L[i]? with
    |some cs=>cG ag n cs o
    |none=>none else none
   |_=>none
 | .eS cs=>cG ag n cs 0
 |_=>none
def df(n:Nat)(H:ae)(x:SV):SV→Option ae
 | .ptr b v i o=>(bV x).bind fun xs=>bif xs.length==n then match az H b with
   |some (.box cs)=>bif i==0&&decide (o+n≤cs.length)then bT H b (.box (eL cs o n xs)) x.refs else none
   |some (.arr v' z L e)=>bif v==v' then match L[i]? with
    |some cs=>bif decide (o+n≤cs.length)then bT H b (.arr v z (L.set i (eL cs o n xs)) e) x.refs else none
    |none=>none else none
   |_=>none else none
 |_=>none
def bY:BinOp→SV→SV→Option SV
 | .add,.int k a,.int k2 b=>bif k==k2 then some (.int k (k.wrap (a+b)))else none
 | .sub,.int k a,.int k2 b=>bif k==k2 then some (.int k (k.wrap (a-b)))else none
 | .mul,.int k a,.int k2 b=>bif k==k2 then some (.int k (k.wrap (a*b)))else none
 | .quo,.int k a,.int k2 b=>bif k==k2&&!decide (b=0)then some (.int k (k.wrap (a.tdiv b)))else none
 | .rem,.int k a,.int k2 b=>bif k==k2&&!decide (b=0)then some (.int k (a.tmod b))else none
 | .and,.int k a,.int k2 b=>bif k==k2 then some (.int k (k.wrap ((BitVec.ofInt k.bits a&&&BitVec.ofInt k.bits b).toNat)))else none
 | .or,.int k a,.int k2 b=>bif k==k2 then some (.int k (k.wrap ((BitVec.ofInt k.bits a|||BitVec.ofInt k.bits b).toNat)))else none
 | .xor,.int k a,.int k2 b=>bif k==k2 then some (.int k (k.wrap ((BitVec.ofInt k.bits a ^^^ BitVec.ofInt k.bits b).toNat)))else none
 | .shl,.int k a,.int _ b=>bif decide (0≤b)then some (.int k (k.wrap (a*2 ^ (min b.toNat k.bits))))else none
 | .shr,.int k a,.int _ b=>bif decide (0≤b)then some (.int k (a.fdiv (2 ^ (min b.toNat k.bits))))else none
 | .lss,.int k a,.int k2 b=>bif k==k2 then some (.bool (decide (a<b)))else none
 | .leq,.int k a,.int k2 b=>bif k==k2 then some (.bool (decide (a≤b)))else none
 | .gtr,.int k a,.int k2 b=>bif k==k2 then some (.bool (decide (b<a)))else none
 | .geq,.int k a,.int k2 b=>bif k==k2 then some (.bool (decide (b≤a)))else none
 | .eql,.int k a,.int k2 b=>bif k==k2 then some (.bool (decide (a=b)))else none
 | .neq,.int k a,.int k2 b=>bif k==k2 then some (.bool (!decide (a=b)))else none
 | .eql,.str a,.str b=>some (.bool (decide (a=b)))
 | .neq,.str a,.str b=>some (.bool (!decide (a=b)))
 | .add,.str a,.str b=>bif decide (a.size+b.size≤4611686018427387904)then some (.str (a++b))else none
 |_,_,_=>none
def jJ:BinOp→SV→SV→Option SV
 | .eql,.bool a,.bool b=>some (.bool (a==b))
 | .neq,.bool a,.bool b=>some (.bool (!(a==b)))
 |_,_,_=>none
def aK:List LK→List SV→List SV→Option Bool
 |[],[],[]=>some true
 | .i::sh,.int k a::x,.int k2 b::y=>bif k==k2 then(aK sh x y).map (fun r=>decide (a=b)&&r)else none
 | .b::sh,.bool a::x,.bool b::y=>(aK sh x y).map (fun r=>(a==b)&&r)
 | .s::sh,.str a::x,.str b::y=>(aK sh x y).map (fun r=>decide (a=b)&&r)
 |_,_,_=>none
def gW(n:Nat):SV→Option Nat
 | .int _ i=>bif decide (0≤i)&&decide (i<(n:Int))then some i.toNat else none
 |_=>none
def pG(y:Nat):SV→Option Nat
 | .int _ i=>bif decide (0≤i)&&decide (i≤(y:Int))then some i.toNat else none
 |_=>none
def eZ(y d:Nat):Option SV→Option Nat
 |none=>some d
 |some v=>pG y v
def gh(v:SV)(ix:SV):Option SV:=match v with
 | .aB _ L _=>(gW L.length ix).bind fun i=>(L[i]?).map .eS
 | .bG b v off n=>(gW n ix).map fun i=>.ptr b v (off+i) 0
 |_=>none
def nC(x:SV)(lo hi mx:Option SV):Option SV:=match x with
 | .aB z L f=>(eZ L.length L.length mx).bind fun m=>(eZ m L.length hi).bind fun h=>(eZ h 0 lo).map fun l=>
    .aB z ((L.take h).drop l) (match mx with|none=>f&&h==L.length|some _=>m==h)
 | .bG b v off n=>match mx with
   |none=>(eZ n n hi).bind fun h=>(eZ h 0 lo).map fun l=>.bG b v (off+l) (h-l)
   |some _=>(eZ n n mx).bind fun m=>(eZ m n hi).bind fun h=>(eZ h 0 lo).bind fun l=>some (bif m==l then .aB 0 [] true else .undef)
 |_=>none
def hU(H:ae)(x:SV)(lo hi mx:Option SV):Option SV:=match x,hi,mx with
 | .bG b v off _,some hv,none=>match az H b with
   |some (.arr _ _ L _)=>(pG (L.length-off) hv).bind fun h=>(eZ h 0 lo).map fun l=>.bG b v (off+l) (h-l)
   |_=>none
 |_,_,_=>none
def jo(s:ByteArray)(lo hi:Option SV):Option SV:=
 (eZ s.size s.size hi).bind fun h=>(eZ h 0 lo).map fun l=>.str (s.extract l h)
def foldI(f:Int→Int→Int):Int→IntKind→List SV→Option SV
 |a,k,[]=>some (.int k a)
 |a,k,.int k2 b::r=>bif k==k2 then foldI f (f a b) k r else none
 |_,_,_=>none
def iV(f:Int→Int→Int):List SV→Option SV
 | .int k a::r=>foldI f a k r
 |_=>none
def cf:Nat:=1099511627776
def fy(bg bytes:Nat)(H:ae)(s:SV)(X:List (List SV)):Option (SV×ae):=match s with
 | .aB z L f=>bif decide ((L.length+X.length)*bytes≤cf)then match L,X with
   |[],X=>bif f then some (.bG H.bl.length 0 0 X.length,aV H (.arr 0 bg X false))else none
   |L,[]=>some (.aB z L f,H)
   |L,X=>bif f&&z==bg then some (.bG H.bl.length 0 0 (L.length+X.length),aV H (.arr 0 bg (L++X) false))else none else none
 | .bG b v off n=>bif decide ((n+X.length)*bytes≤cf)then match az H b with
   |some (.arr v' z L e)=>bif v==v'&&z==bg&&decide (off+n≤L.length)then
     bif !e&&off==0&&n==L.length then
      (bT H b (.arr (v+1) z (L++X) false) (SV.refs.au X.flatten)).map fun H=>(.bG b (v+1) off (n+X.length),H)
     else bif decide (off+n+X.length≤L.length)then
      (bT H b (.arr v z (L.take (off+n)++X++L.drop (off+n+X.length)) e) (SV.refs.au X.flatten)).map fun H=>(.bG b v off (n+X.length),H)
     else bif e then some (.bG H.bl.length 0 0 (n+X.length),aV H (.arr 0 z ((L.drop off).take n++X) false))
     else none
    else none
   |_=>none else none
 |_=>none
def jQ(s:ByteArray):List (List SV):=s.data.toList.map fun b=>[.int .u8 b.toNat]
def toBytes:List (List SV)→Option (List UInt8)
 |[]=>some []
 |[.int .u8 n]::r=>(toBytes r).map fun l=>UInt8.ofNat n.toNat::l
 |_=>none
def xT(bg:Nat)(H:ae)(X:List (List SV)):SV→Option (SV×ae)
 | .bG b v off n=>match az H b with
   |some (.arr v' z L e)=>bif v==v'&&z==bg&&decide (off+n≤L.length)then
     (bT H b (.arr v z (L.take off++X.take n++L.drop (off+min X.length n)) e) (SV.refs.au X.flatten)).map fun H=>(.int .i64 (min X.length n:Nat),H)
    else none
   |_=>none
 |_=>none
def sP(bg:Nat)(z:List SV)(H:ae):SV→Option (SV×ae)
 | .aB _ [] _=>some (.undef,H)
 | .bG b v off n=>match az H b with
   |some (.arr v' z' L e)=>bif v==v'&&z'==bg&&decide (off+n≤L.length)then
     (bT H b (.arr v z' (L.take off++List.replicate n z++L.drop (off+n)) e) 0).map fun H=>(.undef,H)
    else none
   |_=>none
 |_=>none
def nm(bg:Nat)(z:List SV)(bytes:Nat)(H:ae):SV→SV→Option (SV×ae)
 | .int .i64 l,.int .i64 c=>bif decide (0≤l)&&decide (l≤c)&&decide (c*bytes≤cf)then
    some (.bG H.bl.length 0 0 l.toNat,aV H (.arr 0 bg (List.replicate c.toNat z) true))else none
 |_,_=>none
def eB(off:Nat):SV→Option SV
 | .ptr b v i o=>some (.ptr b v i (o+off))
 | .eS cs=>some (.eS (cs.drop off))
 |_=>none
def cur(H:ae):SV→Bool
 | .ptr b v _ _=>match az H b with
   |some (.box _)=>true
   |some (.arr v' _ _ _)=>v==v'
   |_=>false
 | .bG b v _ _=>match az H b with
   |some (.arr v' _ _ _)=>v==v'
   |_=>false
 |_=>true
def de(H:ae)(z:Nat):SV→Bool
 | .bG b v _ _=>match az H b with
   |some (.arr v' z' _ _)=>v==v'&&z'==z
   |_=>false
 | .aB z' L _=>z'==z||L.isEmpty
 |_=>false
def jw:SV→Option SV
 | .ptr b v i o=>some (.ptr b v i o)
 | .eS cs=>some (.eS cs)
 |_=>none
def eA(H:ae):NK→SV→Option Bool
 | .p,.bF=>some true
 | .p,.ptr b v i o=>bif cur H (.ptr b v i o)then some false else none
 | .p,.eS _=>some false
 | .f,.fR=>some true
 | .f,.fn _ _=>some false
 | .f,.lT _=>some false
 | .s,.aB _ L _=>bif L.isEmpty then none else some false
 | .s,.bG b v off n=>bif cur H (.bG b v off n)&&decide (0<n)then some false else none
 |_,_=>none
def uw(H:ae):SV→Option Bool
 | .aB _ L _=>some L.isEmpty
 | .bG b v off n=>bif cur H (.bG b v off n)then some (n==0)else none
 |_=>none
def ov:LK→SV→SV→Option Bool
 | .i,.int k a,.int k' b=>bif k==k' then some (a==b)else none
 | .s,.str a,.str b=>some (a==b)
 | .b,.bool a,.bool b=>some (a==b)
 |_,_,_=>none
def iH(t:LK)(k:SV):List (SV×SV)→Nat→Option (Option (Nat×SV))
 |[],_=>some none
 |(q,v)::es,i=>(ov t k q).bind fun b=>bif b then some (some (i,v))else iH t k es (i+1)
def isKey:SV→Bool
 | .int _ _| .str _| .bool _=>true
 |_=>false
def wI(k v:SV)(es:List (SV×SV)):Option (Nat×SV)→List (SV×SV)
 |some (i,_)=>es.set i (k,v)
 |none=>es++[(k,v)]
def nV(t:LK)(H:ae)(k v:SV):SV→Option (SV×ae)
 | .mp b=>match az H b with
   |some (.map es)=>bif isKey k&&v.gU then(iH t k es 0).bind fun r=>(bT H b (.map (wI k v es r)) v.refs).map (.undef,·)else none
   |_=>none
 |_=>none
def lS(t:LK)(ok:Bool)(z:SV)(H:ae)(k:SV):SV→Option (SV×ae)
 | .mp b=>match az H b with
   |some (.map es)=>bif isKey k then(iH t k es 0).map fun r=>(match r with
    |some (_,v)=>bif ok then .ax [v,.bool true]else v
    |none=>bif ok then .ax [z,.bool false]else z,H)else none
   |_=>none
 |_=>none
def oQ(H:ae):SV→Option SV
 | .mp b=>match az H b with
   |some (.map es)=>some (.int .i64 es.length)
   |_=>none
 |_=>none
def jt(H:ae):SV→Option (SV×ae)
 | .mp b=>match az H b with
   |some (.map es)=>bif decide (es.length≤1)then some (.ptr H.bl.length 0 0 0,aV H (.iter b es.length 0))else none
   |_=>none
 |_=>none
def iu(H:ae)(i b n k:Nat):Option aj→Option (SV×ae)
 |some (.map es)=>bif es.length==n&&(decide (n≤1)&&decide (k≤1))then(match k,es with
  |0,(q,v)::_=>(bT H i (.iter b n 1) (b+1)).map fun H=>(.ax [.bool true,q,v],H)
  |_,_=>some (.ax [.bool false],H))else none
 |_=>none
def lL(H:ae):SV→Option (SV×ae)
 | .ptr i 0 0 0=>match az H i with
   |some (.iter b n k)=>iu H i b n k (az H b)
   |_=>none
 |_=>none
def iR(n k:Nat):Option aj→Option SV
 |some (.map es)=>bif es.length==n&&(decide (n≤1)&&k==1)then(match es with
  |(q,v)::_=>some (.ax [q,v])
  |_=>none)else none
 |_=>none
def jk(H:ae):SV→Option SV
 | .ptr i 0 0 0=>match az H i with
   |some (.iter b n k)=>iR n k (az H b)
   |_=>none
 |_=>none
def jB(len:Nat)(H:ae)(hi:SV):SV→Option SV
 | .ptr b _ 0 o=>match az H b with
   |some (.box cs)=>bif decide (o+len≤cs.length)then(pG len hi).map (.pU b o ·)else none
   |_=>none
 |_=>none
def bu(e:Env)(H:ae):jH→Option (SV×ae)
 | .cp x=>some (ev e x,H)
 | .pick c a b=>(iX (ev e c) (ev e a) (ev e b)).map (·,H)
 | .box x=>(bV (ev e x)).map fun cs=>(.ptr H.bl.length 0 0 0,aV H (.box cs))
 | .alloc z=>some (.ptr H.bl.length 0 0 0,aV H (.box z))
 | .lg z=>(bT (aV (aV H (.arr 0 z [] false)) (.box [.aB 0 [] true])) (H.bl.length+1) (.box [.bG H.bl.length 0 0 0]) (H.bl.length+1)).map fun H'=>(.ptr (H.bl.length+1) 0 0 0,H')
 | .build z ps=>(fM (ev e) z ps).map (.agg ·,H)
 | .eR bg z n ps=>(dU (ev e) bg (List.replicate n z) ps).map fun L=>(.bG H.bl.length 0 0 n,aV H (.arr 0 bg L true))
 | .dO bg z n ps=>((dU (ev e) bg (List.replicate n z) ps).bind fun L=>bif SV.refs.au L.flatten==0 then some (.aB bg L true)else none).map (·,H)
 | .load ag n a=>(cw ag n H (ev e a)).map (·,H)
 | .store n a x=>(df n H (ev e x) (ev e a)).map (.undef,·)
 | .cQ x=>bif cur H (ev e x)then(jw (ev e x)).map (·,H)else none
 | .bin op x y=>(bY op (ev e x) (ev e y)).map (·,H)
 | .mP op x y=>(jJ op (ev e x) (ev e y)).map (·,H)
 | .fN neg sh x y=>match ev e x,ev e y with
   | .agg a,.agg b=>(aK sh a b).map fun r=>(.bool (neg ^^ r),H)
   |_,_=>none
 | .jT x=>match ev e x with| .bool b=>some (.bool (!b),H)|_=>none
 | .isNil k neg x=>(eA H k (ev e x)).map fun b=>(.bool (neg ^^ b),H)
 | .ue x=>match ev e x with| .int k n=>some (.int k (k.wrap (0-n)),H)|_=>none
 | .cF k x=>match ev e x with| .int _ n=>some (.int k (k.wrap n),H)|_=>none
 | .oB x=>match ev e x with| .str s=>some (.str s,H)|_=>none
 | .iy x=>(kq 1 H (ev e x)).bind fun L=>(toBytes L).map fun l=>(.str ⟨l.toArray⟩,H)
 | .nu x=>match ev e x with| .str s=>some (.bG H.bl.length 0 0 s.size,aV H (.arr 0 1 (jQ s) false))|_=>none
 | .jF f cs=>some (.fn f (cs.map (ev e)),H)
 | .mb f cs=>some (.oI f (cs.map (ev e)),H)
 | .fB bg z bytes l c=>nm bg z bytes H (ev e l) (ev e c)
 | .iU bg x lo hi mx=>bif de H bg (ev e x)then((nC (ev e x) (lo.map (ev e)) (hi.map (ev e)) (mx.map (ev e))).orElse fun _=>hU H (ev e x) (lo.map (ev e)) (hi.map (ev e)) (mx.map (ev e))).map (·,H)else none
 | .ec x lo hi=>match ev e x with| .str s=>(jo s (lo.map (ev e)) (hi.map (ev e))).map (·,H)|_=>none
 | .aH off x=>bif cur H (ev e x)then(eB off (ev e x)).map (·,H)else none
 | .field ag n off x=>match ev e x with| .agg cs=>(cG ag n cs off).map (·,H)|_=>none
 | .dJ bg x ix=>bif de H bg (ev e x)then(gh (ev e x) (ev e ix)).map (·,H)else none
 | .dI len bg x ix=>bif cur H (ev e x)then(gW len (ev e ix)).bind fun i=>(eB (i*bg) (ev e x)).map (·,H)else none
 | .lB ag n len x ix=>match ev e x with| .agg cs=>(gW len (ev e ix)).bind fun i=>(cG ag n cs (i*n)).map (·,H)|_=>none
 | .dY x ix=>match ev e x with| .str s=>(gW s.size (ev e ix)).bind fun i=>(s.data[i]?).map fun b=>(.int .u8 b.toNat,H)|_=>none
 | .extract x i=>match ev e x with| .ax vs=>(vs[i]?).map (·,H)|_=>none
 | .len x=>bif cur H (ev e x)then(mv (ev e x)).map fun(n:Nat)=>(.int .i64 n,H)else none
 | .ct x=>match ev e x with| .str s=>some (.int .i64 s.size,H)|_=>none
 | .uk n=>some (.int .i64 n,H)
 | .nU xs=>(iV (fun a b=>if b>a then b else a) (xs.map (ev e))).map (·,H)
 | .qd xs=>(iV (fun a b=>if b<a then b else a) (xs.map (ev e))).map (·,H)
 | .append bg bytes s x=>(kq bg H (ev e x)).bind (fy bg bytes H (ev e s))
 | .mN s x=>match ev e x with| .str b=>fy 1 1 H (ev e s) (jQ b)|_=>none
 | .copy bg d x=>(kq bg H (ev e x)).bind fun X=>xT bg H X (ev e d)
 | .clear bg z x=>sP bg z H (ev e x)
 | .lY=>some (.mp H.bl.length,aV H (.map []))
 | .m6 t x k v=>nV t H (ev e k) (ev e v) (ev e x)
 | .l9 t ok z x k=>lS t ok z H (ev e k) (ev e x)
 | .ub x=>(oQ H (ev e x)).map (·,H)
 | .kg x=>jt H (ev e x)
 | .oU x=>lL H (ev e x)
 | .lM x=>(jk H (ev e x)).map (·,H)
 | .sliceB len x hi=>(jB len H (ev e hi) (ev e x)).map (·,H)
 | .call _ _=>none
 | .dL _ _ _=>none
 | .l7 _ _=>none
 | .bad=>none
abbrev n6{A:Type}(_:A):Type:=Unit
section
variable{R:Type}
def fork(b:Bool)(x y:R)(_:n6 (x,y)):R:=bif b then x else y
def mU(v:SV)(f:Bool→Option R)(_:n6 f):Option R:=match v with| .bool b=>f b|_=>none
def eE(v:SV)(w:Bool)(f:Bool→Option R)(_:n6 f):Option R:=match v with| .bool b=>f (b==w)| .gJ=>f false|_=>none
def ay{A:Type}(v:Option A)(f:A→Option R)(_:n6 f):Option R:=match v with|some v=>f v|none=>none
open Classical in
noncomputable def n5 (v:Option Bool) (neg:Bool) (f:Bool→Option R) (_:n6 f):Option R:=match v with
 |none=>none
 |some false=>f neg
 |some true=>if f true=f false then f true else none
end
def bB(e:Env):Option Nat→SV→Env
 |none,_=>e
 |some d,v=>(d,v)::e
def jP(rec:Rec)(f:SV)(xs:List SV)(H:ae):Option (SV×ae):=match f with
 | .fn f cs=>rec (.fn f) (xs++cs) H
 | .oI f cs=>rec (.fn f) (cs++xs) H
 | .lT b=>rec (.lT b) xs H
 |_=>none
def pb(rec:Rec)(f:SV)(xs:List SV)(H:ae):Option (SV×ae):=match f with
 | .fn f cs=>rec (.fn f) (xs++cs) H
 |_=>none
def bc{A:Type}:List (Option A)→Option (List A)
 |[]=>some []
 |some a::r=>(bc r).map (a:: ·)
 |none::_=>none
def dc:Nat:=8
def eg(N:Nat)(H:ae):Nat→SV→Option SV
 |0,_=>none
 |d+1,v=>match v with
  | .agg cs=>(bc (cs.map (eg N H d))).map .agg
  | .ax cs=>(bc (cs.map (eg N H d))).map .ax
  | .bG b bU off n=>bif decide (b<N)then some v else match az H b with
    |some (.arr ver' z L ex)=>bif bU==ver'&&decide (off+n≤L.length)then
      (bc (((L.drop off).take n).map fun cs=>bc (cs.map (eg N H d)))).bind fun L'=>
       bif SV.refs.au L'.flatten==0 then some (.aB z L' (ex&&off+n==L.length))else none
     else none
    |_=>none
  | .int k n=>some (.int k n)
  | .bool b=>some (.bool b)
  | .aB z L f=>some (.aB z L f)
  |v=>bif decide (v.refs≤N)then some v else none
def nD:SV→Bool
 | .int _ _| .bool _| .str _=>true
 |_=>false
def yk:SV→Bool
 | .ax vs=>vs.all nD
 | .agg vs=>vs.all nD
 |v=>nD v
def ql(rec:Rec)(f:FuncId)(xs:List SV)(H:ae):Option (SV×ae):=
 (bc (xs.map (eg 0 H dc))).bind fun vs=>(rec (.fn f) vs {bl:=[],bC:=[],ro:=0}).bind fun r=>bif yk r.1 then some (r.1,H)else none
def ai(rec:Rec)(e:Env)(H:ae):jH→Option (SV×ae)
 | .call f xs=>jP rec (ev e f) (xs.map (ev e)) H
 | .dL f _ xs=>rec (.n8 f) (xs.map (ev e)) H
 | .l7 f xs=>ql rec f (xs.map (ev e)) H
 |o=>bu e H o
def bM{R:Type}(rec:Rec):(l:List ak)→Env→ae→(k:Env→ae→Option R)→n6 (l,k)→Option R
 |[],e,H,k,_=>k e H
 |o::os,e,H,k,_=>match o.g with
  |none=>ay (ai rec e H o.op) (fun r=>bM rec os (bB e o.dst r.1) r.2 k ()) ()
  |some (t,w)=>eE (get e t) w (fun b=>fork b (ay (ai rec e H o.op) (fun r=>bM rec os (bB e o.dst r.1) r.2 k ()) ())
    (bM rec os (bB e o.dst .gJ) H k ()) ()) ()
def cy(N:Nat)(ds:List Nat)(l:List aj):List aj:=ds.foldl (fun l d=>l.set (N+d) .dead) l
def qy:SV→Nat→SV→Nat→Bool
 | .ptr b _ i o,m,.ptr b' _ i' o',n=>!(b==b')||!(i==i')||decide (o+m≤o')||decide (o'+n≤o)
 | .eS _,_,_,_=>true
 |_,_,_,_=>false
def yD(N:Nat)(hs:List Nat):SV→Bool
 | .ptr b _ _ _=>hs.all fun m=>!(N+m==b)
 |_=>false
def sC(rec:Rec)(N:Nat)(rd:List (bj×Nat))(hs:List Nat)(e:Env)(H:ae):jH→Option (SV×ae)
 | .store n a x=>bif decide ((ev e x).refs≤N)&&yD N hs (ev e a)&&rd.all (fun q=>qy (ev e q.1) q.2 (ev e a) n)then(df n H (ev e x) (ev e a)).map (.undef,·)else none
 |_=>none
def bR(rec:Rec)(N:Nat)(d:aU)(e:Env)(H:ae)(o:jH):Option (SV×ae):=match d.kind with
 | .pure=>ai rec e H o
 | .fC=>(ai rec e H o).bind fun r=>bif decide (H.bl.length≤r.2.bl.length)then some r else none
 | .kn=>(ai rec e {bl:=cy N d.ep H.bl,bC:=[],ro:=H.bl.length} o).bind fun r=>
    bif r.2.bl.length==H.bl.length+d.sy&&r.2.bC.isEmpty then some (r.1,{H with bl:=H.bl++r.2.bl.drop H.bl.length})else none
 | .wr rd=>sC rec N rd d.ep e H o
def eQ(d:aU)(N:Nat)(H:ae):Nat:=match d.kind with
 | .fC=>H.bl.length
 |_=>N
def gP(d:aU):Bool:=match d.kind with
 | .kn=>d.sy==0
 | .wr _=>false
 |_=>true
def bw{R:Type}(rec:Rec):(l:List (ak×aU))→Nat→Env→ae→(k:Env→ae→Option R)→n6 (l,k)→Option R
 |[],_,e,H,k,_=>k e H
 |(o,d)::os,N,e,H,k,_=>match o.g with
  |none=>ay (bR rec N d e H o.op) (fun r=>bw rec os (eQ d N r.2) (bB e o.dst r.1) r.2 k ()) ()
  |some (t,w)=>eE (get e t) w (fun b=>fork b (ay (bR rec N d e H o.op) (fun r=>bw rec os (eQ d N r.2) (bB e o.dst r.1) r.2 k ()) ())
    (bif gP d then bw rec os (eQ d N H) (bB e o.dst .gJ) H k ()else none) ()) ()
def hO:List ak→Env→Env→Env
 |[],_,e0=>e0
 |⟨some d,_,_⟩::l,e,e0=>(d,get e d)::hO l e e0
 |⟨none,_,_⟩::l,e,e0=>hO l e e0
def zP:Option ak→List ak→List ak
 |some o,r=>o::r
 |none,r=>r
def cq(l:List ak):List Nat→List ak
 |[]=>[]
 |i::r=>zP l[i]? (cq l r)
def jZ(rec:Rec)(l:List ak)(e:Env)(H:ae)(o:List Nat):Option (Env×ae):=bM rec (cq l o) e H (fun e' H'=>some (hO l e' e,H')) ()
open Classical in
noncomputable def ma {A:Type}:List (Option A)→Option A
 |[]=>none
 |[a]=>a
 |a::b::r=>if a=b then ma (b::r)else none
def zy(H:ae):SV→Option (SV×ae)
 | .bG b bU off n=>match az H b with
   |some (.arr ver' z L _)=>bif bU==ver'&&decide (off+n≤L.length)&&SV.refs.au ((L.drop off).take n).flatten==0 then
     (bT H b .dead 0).map fun H=>(.aB z ((L.drop off).take n) false,H)
    else none
   |_=>none
 | .aB z L f=>some (.aB z L f,H)
 |_=>none
def du(N:Nat)(H0 H:ae):Option ae:=
 bif decide (N≤H.bl.length)&&H.bC.all (fun p=>!(decide (p.1<N)&&decide (N<p.2)))then
  some {bl:=H.bl.take N,bC:=H0.bC++H.bC.filter (fun p=>decide (p.1<N)),ro:=H0.ro} else none
def Ae(H0 H:ae):ae:={bl:=H.bl,bC:=H0.bC++H.bC,ro:=H0.ro}
def eo(l:List Nat)(e:Env):Env:=l.map fun i=>(i,get e i)
def s3(H:ae)(b z j:Nat)(cs:List SV):Option SV→Option ae
 |some (.aB _ [] true)=>bT (aV H (.arr 0 z [] false)) b (.box (cs.set j (.bG H.bl.length 0 0 0))) (H.bl.length+1)
 |_=>none
def nO(H:ae)(b z:Nat):Option aj→Option ae
 |some (.box [.aB _ [] true])=>bT (aV H (.arr 0 z [] false)) b (.box [.bG H.bl.length 0 0 0]) (H.bl.length+1)
 |some (.box cs)=>s3 H b (z%1000) (z/1000) cs (cs[z/1000]?)
 |_=>none
def eC:List (Nat×Nat)→Env→ae→Option (Env×ae)
 |[],e,H=>some (e,H)
 |(t,z)::r,e,H=>match get e t with
  | .aB _ [] true=>eC r ((t,.bG H.bl.length 0 0 0)::e) (aV H (.arr 0 z [] false))
  | .ptr b _ _ _=>(nO H b z (az H b)).bind fun H=>eC r e H
  | .aB _ (_::_) true=>eC r e (aV H (.arr 0 z [] false))
  |_=>none
def nh(H:ae)(t h z b v n:Nat)(e:Env):Option aj→Option aj→Option (Env×ae)
 |some (.arr 0 _ [] _),some (.arr v' z' L ex)=>bif z'==z&&v==v'&&n==L.length&&decide (H.ro≤h)&&!(h==b)&&SV.refs.au L.flatten==0 then
   some ((t,.bG h (v+1) 0 n)::e,{H with bl:=(H.bl.set h (.arr (v+1) z L ex)).set b .dead})else none
 |_,_=>none
def cV:List (Nat×Nat)→Nat→Nat→Env→ae→Option (Env×ae)
 |[],_,_,e,H=>some (e,H)
 |(t,z)::r,h,N,e,H=>match get e t with
  | .bG b v 0 n=>bif decide (N≤b)&&decide (h<N)then(nh H t h z b v n e (az H h) (az H b)).bind fun s=>cV r (h+1) N s.1 s.2 else cV r (h+1) N e H
  |_=>cV r (h+1) N e H
def qF:List Nat→Bool
 |i::_=>i==999999
 |[]=>false
def rb(p:dj)(N:Nat)(H0:ae)(s:Env×ae):Option (Env×ae):=
 bif qF p.live then some (eo p.live.tail s.1,s.2)else
 bif decide (SV.refs.au ((eo p.live s.1).map (·.2))≤N)then(du N H0 s.2).map fun H=>(eo p.live s.1,H)else none
def eF(p:dj)(N:Nat)(H0:ae)(s:Env×ae):Option (Env×ae):=
 (cV p.aL (N-p.aL.length) N s.1 s.2).bind (rb p N H0)
abbrev Out:=mJ×Env×ae
def FE(l:List UInt8):Nat→List UInt8
 |0=>[]
 |n+1=>l++FE l n
def fU:List SV→Option (List UInt8)
 |[]=>some []
 | .str s::r=>(fU r).map fun l=>s.data.toList++l
 |_=>none
def iJ:Nat→List aj→List SV→Option SV
 |1,bl,[.pU b o n,.str s]=>match bl[b]? with
  |some (.box cs)=>bif decide (s.size=0)&&(decide (n≤1048576)&&decide (o+n≤cs.length))then(fU ((cs.drop o).take n)).bind fun l=>bif decide (l.length≤1048576)then some (.str ⟨l.toArray⟩)else none else none
  |_=>none
 |0,_,[.str s,.int .i64 n]=>bif decide (0≤n)&&decide (n≤1048576)&&decide (s.size≤1048576)then some (.str ⟨(FE s.data.toList n.toNat).toArray⟩)else none
 |_,_,_=>none
def cJ(f:Env×ae→Option Out):Nat→Env×ae→Option Out
 |0,_=>none
 |n+1,s=>match f s with
  |some (.normal,s')=>cJ f n s'
  |r=>r
open Classical in
noncomputable def iG (f:Env×ae→Option Out) (s:Env×ae):Option Out:=
 if h:∃n,(cJ f n s).isSome then cJ f (Classical.choose h) s else none
noncomputable def run {R:Type} (rec:Rec):(c:bO)→Env→ae→(k:mJ→Env→ae→Option R)→n6 (c,k)→Option R
 | .skip,e,H,k,_=>k .normal e H
 | .ops l,e,H,k,_=>bM rec l e H (k .normal) ()
 | .drawn l,e,H,k,_=>bw rec l H.bl.length e H (k .normal) ()
 | .perm l os,e,H,k,_=>ay (ma (os.map (jZ rec l e H))) (fun s=>k .normal s.1 s.2) ()
 | .seq a b,e,H,k,_=>run rec a e H (fun x e H=>match x with| .normal=>run rec b e H k ()|x=>k x e H) ()
 | .cond c a b,e,H,k,_=>mU (ev e c) (fun t=>fork t (run rec a e H k ()) (run rec b e H k ()) ()) ()
 | .block id a,e,H,k,_=>run rec a e H (fun x e H=>match x with| .exit j=>bif j==id then k .normal e H else k (.exit j) e H|x=>k x e H) ()
 | .freeze t,e,H,k,_=>ay (zy H (get e t)) (fun r=>k .normal ((t,r.1)::e) r.2) ()
 | .aL vs,e,H,k,_=>ay (eC vs e H) (fun s=>k .normal s.1 s.2) ()
 | .Ao d neg x c,e,H,k,_=>n5 (uw H (ev e x)) neg (fun b=>run rec c ((d,.bool b)::e) H k ()) ()
 | .loop p a,e,H,k,_=>ay (eC p.aL e H) (fun s=>ay (iG (fun s'=>(eF p s.2.bl.length {s.2 with bC:=[]} s').bind fun s'=>
    run rec a s'.1 s'.2 (fun x e H=>some (x,e,H)) ()) (s.1,{s.2 with bC:=[]})) (fun o=>k o.1 o.2.1 {o.2.2 with bC:=s.2.bC++o.2.2.bC}) ()) ()
 | .nB f ps x y,e,H,k,_=>ay (pb rec (ev e f) [.lT H.bl.length] (aV H (.loop ⟨e,ps,x,y⟩ .ready .normal))) (fun r=>
    match az r.2 H.bl.length with
    |some (.loop q st pend)=>match st with
     | .busy=>none
     |_=>ay (bT r.2 H.bl.length (.loop q .exhausted pend) 0) (fun H=>k pend e H) ()
    |_=>none) ()
 | .ext n,e,H,k,_=>ay (iJ n H.bl (e.map (·.2))) (fun v=>k .ret ((0,v)::e) H) ()
 | .exit id,e,H,k,_=>k (.exit id) e H
 | .ret,e,H,k,_=>k .ret e H
def dS(e:Env)(H:ae):rn→Option SV
 | .tmp t=>some (get e t)
 | .cell t ag n=>cw ag n H (get e t)
def results1(e:Env)(H:ae)(rs:List rn):Option SV:=
 (bc (rs.map (dS e H))).map fun vs=>match vs with|[v]=>v|vs=>.ax vs
def ef(xs:List SV):Env:=go 0 xs
where go:Nat→List SV→Env
 |_,[]=>[]
 |i,x::r=>(i,x)::go (i+1) r
def cW(keep:Bool)(H0:ae)(v:SV)(H:ae):Option (SV×ae):=
 bif keep then some (v,Ae H0 H)else(eg H0.bl.length H dc v).bind fun v=>(du H0.bl.length H0 H).map fun H=>(v,H)
def mL(b:Nat)(st:LoopState)(pend:mJ)(H:ae):Option ae:=match az H b with
 |some (.loop q _ _)=>bT H b (.loop q st pend) 0
 |_=>none
def lI(b:Nat)(H:ae):Option ae:=match az H b with
 |some (.loop q .ready pend)=>bT H b (.loop q .busy pend) 0
 |_=>none
def av:ae:={bl:=[],bC:=[],ro:=0}
def gT(F:aC)(xs:List SV):Bool:=SV.refs.au xs==0&&!F.keep
noncomputable def ab (T:FuncId→Option aC):Nat→Rec
 |0,_,_,_=>none
 |n+1,.fn f,xs,H=>match T f with
  |none=>none
  |some F=>bif gT F xs then
    (run (ab T n) F.body (ef xs) av (fun x e H'=>match x with
     | .exit _=>none
     |_=>(results1 e H' F.res).bind fun v=>eg 0 H' dc v) ()).map fun v=>(v,H)
   else run (ab T n) F.body (ef xs) {bl:=H.bl,bC:=[],ro:=min H.ro H.bl.length} (fun x e H'=>match x with
    | .exit _=>none
    |_=>(results1 e H' F.res).bind fun v=>cW F.keep H v H') ()
 |n+1,.n8 f,xs,H=>match T f with
  |none=>none
  |some F=>run (ab T n) F.body (ef xs) {bl:=H.bl,bC:=[],ro:=min H.ro H.bl.length} (fun x e H'=>match x with
    | .exit _=>none
    |_=>(results1 e H' F.res).bind fun v=>cW true H v H') ()
 |n+1,.lT b,xs,H=>match az H b with
  |some (.loop q .ready _)=>
   bif q.ps.length==xs.length then
    run (ab T n) q.assign ((q.ps.zip xs).reverse++q.env) {bl:=H.bl,bC:=[],ro:=min H.ro H.bl.length} (fun x e H'=>match x with
     | .normal=>(lI b H').bind fun H'=>run (ab T n) q.body e H' (fun x _ H'=>
        (mL b (match x with| .normal=>.ready|_=>.done) x H').bind fun H'=>
         (du H.bl.length H H').map fun H'=>(.bool (match x with| .normal=>true|_=>false),H')) ()
     |_=>none) ()
   else none
  |_=>none
abbrev Ru(n:Int):SV:=.int .i64 n
abbrev Rv:SV:=.int .i64 0
abbrev Rw(a b:Nat):jH:=.pick (.t a) (.c (.bool true)) (.t b)
abbrev Rx(a b:Nat):jH:=.pick (.t a) (.t b) (.c (.bool false))
abbrev Ry(a:Nat):jH:=.load false 1 (.t a)
end
section
structure vg where
 keep:FuncId→Option Nat
 loop:FuncId→Nat→dj
 lit:FuncId→Nat→Bool
 eg:FuncId→Nat→List Nat
 LB:FuncId→Nat→List (Nat×Nat):=fun _ _=>[]
 sJ:FuncId→Nat→Option Nat:=fun _ _=>none
 viewAt:FuncId→Nat→Bool:=fun _ _=>false
 vQ:FuncId→Nat→Option Nat:=fun _ _=>none
 ext:FuncId→Option Nat:=fun _=>none
 Lr:FuncId→Nat→Bool:=fun _ _=>false
def iz:Nat→Value→Option SV
 |0,_=>none
 |d+1,v=>match v with
  | .bool b=>some (.bool b)
  | .int k n=>some (.int k n)
  | .string s=>some (.str s)
  | .pointer none=>some .bF
  | .slice none 0 0=>some (.aB 0 [] true)
  | .nilFunc=>some .fR
  | .map none=>some .kZ
  | .agg cs=>(bc (cs.toList.map (iz d))).bind fun cs=>bif cs.all SV.gU then some (.agg cs)else none
  |_=>none
def aG:Operand→Option bj
 | .tmp t=>some (.t t)
 | .const v=>(iz 2 v).map .c
 | .func f=>some (.c (.fn f []))
 | .global _=>none
def gn(xs:Array Operand):Option (List bj):=bc (xs.toList.map aG)
def dQ:Option Operand→Option (Option bj)
 |none=>some none
 |some x=>(aG x).map some
section
variable(P:Program)
def eO(t:TypeId):Option Nat:=(P.info? t).map (·.size)
def gZ(t:TypeId):Option Bool:=match P.underlying t with
 |some (.struct _)=>some true
 |some (.array _ _)=>some true
 |some _=>some false
 |none=>none
def fw(t:TypeId):Option (List SV):=match P.info? t with
 |some i=>match i.zero with
  |some v=>(bc (v.cells.toList.map (iz 1))).bind fun z=>bif z.all SV.gU then some z else none
  |none=>none
 |none=>none
def dK:Nat→TypeId→Option (List LK)
 |0,_=>none
 |d+1,t=>match P.underlying t with
  |some .bool=>some [.b]
  |some (.int _)=>some [.i]
  |some .string=>some [.s]
  |some (.struct fs)=>bif P.stoodInHeld t then none else fs.toList.foldlM (init:=[]) fun acc f=>
    bif f.name != "_" &&f.offset==acc.length then(dK d f.type).bind fun sh=>bif (eO P f.type)==some sh.length then some (acc++sh)else none else none
  |some (.array n e)=>(dK d e).bind fun sh=>bif (eO P e)==some sh.length then some (List.replicate n sh).flatten else none
  |_=>none
def js(t:TypeId):Option (List Field):=match P.underlying t with
 |some (.struct fs)=>some fs.toList
 |_=>none
def jO(t:TypeId):Option TypeId:=match P.underlying t with
 |some (.slice e)=>some e
 |_=>none
def sK(t:TypeId)(ps:List (Nat×Operand)):Option (List (Nat×Nat×bj)):=match P.underlying t with
 |some (.struct fs)=>bif !fs.toList.all (fun f=>(eO P f.type).isSome)then none else bc (ps.map fun p=>match fs[p.1]? with
  |some f=>match eO P f.type,aG p.2 with
   |some n,some x=>some (f.offset,n,x)
   |_,_=>none
  |none=>none)
 |some (.array _ e)=>match eO P e with
  |some n=>bc (ps.map fun p=>(aG p.2).map fun x=>(p.1*n,n,x))
  |none=>none
 |_=>none
def lZ(c:Call):Option jH:=match c.callee with
 | .value f=>match aG f,gn c.args with
   |some f,some xs=>some (.call f xs)
   |_,_=>none
 | .invoke _ _=>none
 | .builtin b=>match gn c.args with
   |none=>none
   |some xs=>match b,xs with
    | .len,[x]=>match(c.argTypes[0]?).bind P.underlying with
      |some .string=>some (.ct x)
      |some (.slice _)=>some (.len x)
      |some (.array n _)=>some (.uk n)
      |some (.map _ _)=>some (.ub x)
      |_=>none
    | .max,xs=>match(c.argTypes[0]?).bind P.underlying with|some (.int _)=>some (.nU xs)|_=>none
    | .min,xs=>match(c.argTypes[0]?).bind P.underlying with|some (.int _)=>some (.qd xs)|_=>none
    | .append,[s,x]=>match(c.argTypes[0]?).bind (jO P),(c.argTypes[1]?).bind P.underlying with
      |some e,some (.slice _)=>match P.info? e with|some i=>bif i.size==0||i.bytes==0 then none else(match fw P e with|some z=>bif z.length==i.size then some (.append i.size i.bytes s x)else none|none=>none)|none=>none
      |_,_=>none
    | .copy,[d,x]=>match(c.argTypes[0]?).bind (jO P),(c.argTypes[1]?).bind P.underlying with
      |some e,some (.slice _)=>match eO P e with|some (n+1)=>some (.copy (n+1) d x)|_=>none
      |_,_=>none
    | .clear,[x]=>match(c.argTypes[0]?).bind (jO P)with
      |some e=>match fw P e with|some (z::zs)=>some (.clear (z::zs).length (z::zs) x)|_=>none
      |none=>none
    |_,_=>none
def rq(op:BinOp)(u:TypeDesc)(y:Operand)(x:bj):Option jH:=match op,u,y with
 | .eql,.pointer _,.const (.pointer none)=>some (.isNil .p false x)
 | .neq,.pointer _,.const (.pointer none)=>some (.isNil .p true x)
 | .eql,.func _ _ _,.const .nilFunc=>some (.isNil .f false x)
 | .neq,.func _ _ _,.const .nilFunc=>some (.isNil .f true x)
 | .eql,.slice _,.const (.slice none 0 0)=>some (.isNil .s false x)
 | .neq,.slice _,.const (.slice none 0 0)=>some (.isNil .s true x)
 |_,_,_=>none
def qV(t:TypeId):Option (LK×TypeId):=match P.underlying t with
 |some (.map k e)=>bif eO P e==some 1&&gZ P e==some false then(match P.underlying k with
  |some (.int _)=>some (.i,e)
  |some .string=>some (.s,e)
  |some .bool=>some (.b,e)
  |_=>none)else none
 |_=>none
def pq(t:TypeId):Option SV:=match P.info? t with
 |some i=>match i.zero with
  |some v=>(iz 1 v).bind fun z=>bif z.gU then some z else none
  |none=>none
 |none=>none
def lQ(o:Op):Option jH:=match o with
 | .move x=>(aG x).map .cp
 | .assign x=>(aG x).map .cp
 | .pick c a b=>match aG c,aG a,aG b with
   |some c,some a,some b=>some (.pick c a b)
   |_,_,_=>none
 | .alloc t=>(fw P t).map .alloc
 | .box _ x=>(aG x).map .box
 | .build t ps=>match fw P t,sK P t ps.toList with
   |some z,some ps=>some (.build z ps)
   |_,_=>none
 | .buildSlice t n ps=>match jO P t with
   |some e=>match eO P e,fw P e,bc (ps.toList.map fun p=>(aG p.2).map fun x=>(p.1,x))with
    |some (z+1),some zs,some ps=>bif decide (n*(z+1)≤16777216)&&zs.length==z+1 then some (.eR (z+1) zs n ps)else none
    |_,_,_=>none
   |none=>none
 | .load t a=>match gZ P t,eO P t,aG a with
   |some ag,some n,some a=>some (.load ag n a)
   |_,_,_=>none
 | .store t a x=>match eO P t,aG a,aG x with
   |some n,some a,some x=>some (.store n a x)
   |_,_,_=>none
 | .nilCheck x=>(aG x).map .cQ
 | .binOp op t xo yo _=>match aG xo,aG yo with
   |some x,some y=>match op,P.underlying t with
    | .eql,some (.struct _)=>bif P.eqGuardType P.depth t then none else(dK P 6 t).map (.fN false · x y)
    | .neq,some (.struct _)=>bif P.eqGuardType P.depth t then none else(dK P 6 t).map (.fN true · x y)
    | .eql,some (.array _ _)=>bif P.eqGuardType P.depth t then none else(dK P 6 t).map (.fN false · x y)
    | .neq,some (.array _ _)=>bif P.eqGuardType P.depth t then none else(dK P 6 t).map (.fN true · x y)
    |op,some (.int _)=>some (.bin op x y)
    |op,some .bool=>some (.mP op x y)
    |op,some .string=>some (.bin op x y)
    |op,some u=>rq op u yo x
    |_,none=>none
   |_,_=>none
 | .unOp .not _ x=>(aG x).map .jT
 | .unOp .neg t x=>match P.underlying t with|some (.int _)=>(aG x).map .ue|_=>none
 | .convert s d x=>match aG x with
   |none=>none
   |some x=>match P.underlying s,P.underlying d with
    |some (.int _),some (.int k)=>some (.cF k x)
    |some .string,some .string=>some (.oB x)
    |some (.slice el),some .string=>match P.underlying el,eO P el with
     |some (.int .u8),some 1=>some (.iy x)
     |_,_=>none
    |some .string,some (.slice el)=>match P.underlying el,eO P el with
     |some (.int .u8),some 1=>some (.nu x)
     |_,_=>none
    |_,_=>none
 | .makeFunc (.func f) fs cs=>bif fs.isEmpty then(gn cs).map (.jF f ·)else bif cs.isEmpty then(gn fs).map (.mb f ·)else none
 | .makeSlice t l c=>match jO P t with
   |some e=>match P.info? e,fw P e,aG l,aG c with
    |some i,some z,some l,some c=>bif i.size==0||i.bytes==0 then none else bif z.length==i.size then some (.fB i.size z i.bytes l c)else none
    |_,_,_,_=>none
   |none=>none
 | .slice t x lo hi mx=>match aG x,dQ lo,dQ hi,dQ mx with
   |some x,some lo,some hi,some mx=>match P.underlying t with
    |some (.slice e)=>match eO P e with|some n=>bif mx.isSome&&hi.isNone then none else some (.iU n x lo hi mx)|none=>none
    |some .string=>match mx with|none=>some (.ec x lo hi)|some _=>none
    |some (.array n e)=>match lo,hi,mx with
     |none,some hi,none=>bif eO P e==some 1 then some (.sliceB n x hi)else none
     |_,_,_=>none
    |_=>none
   |_,_,_,_=>none
 | .fieldAddr s x f=>match aG x,(js P s).bind (·[f]?)with
   |some x,some f=>match eO P f.type with
    |some (_+1)=>some (.aH f.offset x)
    |_=>none
   |_,_=>none
 | .field s x f=>match aG x,(js P s).bind (·[f]?)with
   |some x,some f=>match gZ P f.type,eO P f.type with
    |some ag,some n=>some (.field ag n f.offset x)
    |_,_=>none
   |_,_=>none
 | .indexAddr t x ix=>match aG x,aG ix with
   |some x,some ix=>match P.underlying t with
    |some (.slice e)=>match eO P e with|some (n+1)=>some (.dJ (n+1) x ix)|_=>none
    |some (.array len e)=>match eO P e with|some (n+1)=>some (.dI len (n+1) x ix)|_=>none
    |_=>none
   |_,_=>none
 | .index t x ix=>match aG x,aG ix with
   |some x,some ix=>match P.underlying t with
    |some (.array len e)=>match gZ P e,eO P e with|some ag,some n=>some (.lB ag n len x ix)|_,_=>none
    |some .string=>some (.dY x ix)
    |_=>none
   |_,_=>none
 | .extract x i=>(aG x).map (.extract · i)
 | .call c=>lZ P c
 | .makeMap _ none=>some .lY
 | .insert t m k v=>match qV P t,aG m,aG k,aG v with
   |some (q,_),some m,some k,some v=>some (.m6 q m k v)
   |_,_,_,_=>none
 | .mapUpdate t m k v=>match qV P t,aG m,aG k,aG v with
   |some (q,_),some m,some k,some v=>some (.m6 q m k v)
   |_,_,_,_=>none
 | .lookup t m k ok=>match qV P t,aG m,aG k with
   |some (q,e),some m,some k=>(pq P e).map fun z=>.l9 q ok z m k
   |_,_,_=>none
 | .range t x=>match P.underlying t,aG x with
   |some (.map _ _),some x=>some (.kg x)
   |_,_=>none
 | .next x false=>(aG x).map .oU
 | .entry x=>(aG x).map .lM
 |_=>none
inductive zo where|no|list|keep (n:Nat)|view|wZ (z:Nat)
def lk(cU:vg)(f:FuncId):Option Nat→zo
 |none=>.no
 |some d=>match cU.sJ f d with
  |some n=>.keep n
  |none=>match cU.vQ f d with
   |some z=>.wZ z
   |none=>bif cU.viewAt f d then .view else bif cU.lit f d then .list else .no
def pY(b:zo)(o:jH):jH:=match b,o with
 | .list,.eR bg z n ps=>.dO bg z n ps
 | .keep n,.call (.c (.fn g [])) xs=>.dL g n xs
 | .view,.call (.c (.fn g [])) xs=>.l7 g xs
 | .wZ z,.alloc [.aB 0 [] true]=>.lg z
 | .wZ z,.build [.aB 0 [] true,.aB 0 [] true] []=>.build [.aB (z/100) [] true,.aB (z%100) [] true] []
 |_,o=>o
def fX(cU:vg)(f:FuncId)(nt:Nat)(ops:Array Oper)(o:Oper):Option ak:=
    let op:=pY (lk cU f o.dst) ((lQ P o.op).getD .bad)
    bif o.dst.any (fun d=>decide (nt≤d))then none else match o.guard with
    |none=>some ⟨o.dst,op,none⟩
    |some (j,w)=>match(ops[j]?).bind (·.dst)with
     |some t=>some ⟨o.dst,op,some (t,w)⟩
     |none=>none
end
def fh:jH→Bool
 | .cp _| .pick .. | .build .. | .dO .. | .bin .. | .mP .. | .fN .. | .jT _| .ue _| .cF .. | .oB _| .jF .. | .mb .. | .field .. | .lB .. | .dY .. | .extract .. | .ct _| .uk _| .nU _| .qd _| .ec .. =>true
 |_=>false
def aW(ops:List Oper):List Nat:=
 ops.foldl (init:=[]) fun acc o=>acc++[o.after.toList.foldl (fun s e=>bif Region.binds .any e then s|||2 ^ e.on|||acc.getD e.on 0 else s) 0]
def br(o:ak):List Nat:=(match o.op with
 | .cp x| .box x| .cQ x| .jT x| .isNil _ _ x| .ue x| .cF _ x| .oB x| .iy x| .nu x| .aH _ x| .field _ _ _ x| .extract x _| .len x| .ct x| .clear _ _ x| .load _ _ x=>f [x]
 | .pick c a b=>f [c,a,b]
 | .build _ ps=>f (ps.map (·.2.2))
 | .eR _ _ _ ps=>f (ps.map (·.2))
 | .dO _ _ _ ps=>f (ps.map (·.2))
 | .store _ a x| .bin _ a x| .mP _ a x| .fN _ _ a x| .dJ _ a x| .dI _ _ a x| .lB _ _ _ a x| .dY a x| .append _ _ a x| .mN a x| .copy _ a x| .fB _ _ _ a x=>f [a,x]
 | .jF _ cs=>f cs
 | .mb _ cs=>f cs
 | .iU _ x lo hi mx=>f ([x]++lo.toList++hi.toList++mx.toList)
 | .ec x lo hi=>f ([x]++lo.toList++hi.toList)
 | .nU xs| .qd xs=>f xs
 | .lY=>[]
 | .m6 _ x k v=>f [x,k,v]
 | .l9 _ _ _ x k=>f [x,k]
 | .ub x| .kg x| .oU x| .lM x=>f [x]
 | .sliceB _ x h=>f [x,h]
 | .call g xs=>f (g::xs)
 | .dL _ _ xs=>f xs
 | .l7 _ xs=>f xs
 | .alloc _| .lg _| .uk _| .bad=>[])++(match o.g with|some (t,_)=>[t]|none=>[])
where f (xs:List bj):List Nat:=xs.filterMap fun| .t n=>some n| .c _=>none
def vX(bs:List Nat)(i j:Nat):Bool:=i==j||(bs.getD j 0).testBit i||(bs.getD i 0).testBit j
def D2(cU:vg)(f:FuncId)(o:ak):Nat:=match o.op with
 | .call (.t _) _=>(o.dst.bind (cU.sJ f)).getD 0
 | .call (.c (.fn f _)) _=>(cU.keep f).getD 0
 | .dL _ n _=>n
 | .lg _=>2
 | .append .. | .mN .. | .box _| .alloc _| .eR .. | .fB .. | .nu _| .lY| .kg _=>1
 |_=>0
def nL(d:aU):Bool:=match d.kind with| .fC=>true|_=>false
def o0(d:aU):Bool:=match d.kind with| .kn=>true|_=>false
def nf(d:aU):Bool:=match d.kind with| .pure=>true|_=>false
def cH(d:aU):Bool:=match d.kind with| .wr _=>true|_=>false
def lD:jH→Bool
 | .aH .. | .dJ .. | .dI .. | .len .. | .iU .. | .cQ .. | .isNil .. | .alloc .. | .box .. | .eR .. | .fB .. =>true
 |_=>false
def vH:bj→bj→Bool
 | .t a,.t b=>a==b
 |_,_=>false
def lJ(pl:List (ak×aU))(i k:Nat)(o:jH)(d:aU):Bool:=match o,d.kind with
 | .load ag n a,.wr rd=>rd.any (fun q=>vH q.1 a&&q.2==(bif ag then n else 1))&&match a with
   | .t u=>(List.range k).all fun m=>decide (m<i)||match pl[m]? with|some p=>!(p.1.dst==some u)|none=>false
   | .c _=>false
 |_,_=>false
def jC(bs:List Nat)(ops:List Oper)(pl:List (ak×aU)):Bool:=
 let n:=pl.length
 let rg:=List.range n
 let dr:=fun i=>((pl[i]?).map (·.2)).getD ⟨.pure,[],0,0⟩
 let fC:=fun i=>nL (dr i)
 let kn:=fun i=>o0 (dr i)
 (ops.zipIdx.all fun p=>p.1.after.toList.all fun e=>!Region.binds .any e||decide (e.on<p.2)) &&
 (rg.all fun j=>(List.range j).all fun i=>match pl[i]?,pl[j]? with
  |some a,some b=>(bs.getD j 0).testBit i||!((match a.1.dst with|some d=>(br b.1).contains d||b.1.dst==some d|none=>false)||(match b.1.dst with|some d=>(br a.1).contains d|none=>false))
  |_,_=>false) &&
 (pl.all fun p=>!nf p.2||fh p.1.op&&p.2.sy==0) &&
 (rg.all fun i=>!fC i||rg.all fun j=>nf (dr j)||vX bs i j) &&
 (rg.all fun i=>(dr i).jf==match i with|0=>0|k+1=>bif fC k then 0 else(dr k).jf+(dr k).sy) &&
 (rg.all fun i=>!(kn i||cH (dr i))||(List.range i).all fun k=>!kn k||((List.range i).any fun m=>decide (k<m)&&fC m)||(bs.getD i 0).testBit k||(List.range (dr k).sy).all fun m=>(dr i).ep.contains ((dr k).jf+m)) &&
 (rg.all fun k=>!cH (dr k)||(dr k).sy==0&&rg.all fun m=>!decide (k<m)||nf (dr m)||(bs.getD m 0).testBit k) &&
 (rg.all fun k=>!cH (dr k)||(List.range k).all fun i=>!kn i||((List.range k).any fun m=>decide (i<m)&&fC m)||(bs.getD k 0).testBit i||match pl[i]? with|some a=>lD a.1.op||lJ pl i k a.1.op (dr k)|none=>false)
def lR(cU:vg)(f:FuncId)(bs:List Nat)(l:List ak)(useW:Bool):List (ak×aU):=
 let n:=l.length
 let pu:=l.map fun o=>fh o.op
 let nonpure:=(List.range n).filter fun i=>!pu.getD i true
 let bars:=(List.range n).map fun i=>!pu.getD i true&&nonpure.all fun j=>vX bs i j
 let isst:=l.map fun o=>match o.op with| .store .. =>true|_=>false
 let nals:=l.zipIdx.map fun p=>bif pu.getD p.2 true||bars.getD p.2 false then 0 else D2 cU f p.1
 let scan:=(List.range n).foldl (init:=(([]:List (Nat×Nat)),0,0)) fun(acc,off,st) i=>
  bif bars.getD i false then(acc++[(off,st)],0,i+1)else(acc++[(off,st)],off+nals.getD i 0,st)
 l.zipIdx.map fun p=>
   let i:=p.2
   let os:=scan.1.getD i (0,0)
   let ep:=(List.range i).flatMap fun k=>bif decide (os.2≤k)&&!pu.getD k true&&!vX bs i k then(List.range (nals.getD k 0)).map fun m=>(scan.1.getD k (0,0)).1+m else[]
   (p.1,bif pu.getD i true then⟨.pure,[],0,os.1⟩else bif bars.getD i false then⟨.fC,[],0,os.1⟩else
     bif useW&&isst.getD i false then⟨.wr ((List.range i).flatMap fun k=>bif decide (os.2≤k)&&!vX bs i k then(match l[k]? with|some o=>(match o.op with| .load ag n a=>[(a,bif ag then n else 1)]|_=>[])|none=>[])else[]),ep,0,os.1⟩else
     ⟨.kn,ep,nals.getD i 0,os.1⟩)
def sA(cU:vg)(f:FuncId)(ops:List Oper)(l:List ak):Option (List (ak×aU)):=
 let bs:=aW ops
 let a:=lR cU f bs l true
 bif jC bs ops a then some a else
  let b:=lR cU f bs l false
  bif jC bs ops b then some b else none
def jV(bs:List Nat):Nat→List Nat→List (List Nat)
 |0,_=>[[]]
 |n+1,rem=>rem.flatMap fun m=>bif rem.all (fun k=>k==m||!(bs.getD m 0).testBit k)then(jV bs n (rem.erase m)).map (m:: ·)else[]
def nK(bs:List Nat)(n:Nat):List Nat→List Nat→Bool
 |done,[]=>decide (done.length=n)
 |done,i::r=>decide (i<n)&&!done.contains i&&(List.range n).all (fun k=>!(bs.getD i 0).testBit k||done.contains k)&&nK bs n (i::done) r
def vW(bs:List Nat)(n:Nat)(pu:List Bool):List Nat→List Nat→List Nat
 |done,[]=>done++(List.range n).filter fun k=>!done.contains k
 |done,m::r=>
  let done:=done++(List.range n).filter fun k=>pu.getD k true&&(bs.getD m 0).testBit k&&!done.contains k
  vW bs n pu (done++[m]) r
def gi(l:List ak)(i:Nat):Bool:=match l[i]? with|some o=>!fh o.op|none=>false
def tA(bs:List Nat)(l:List ak):List (List Nat):=
 let np:=(List.range l.length).filter (gi l)
 (jV bs np.length np).map (vW bs l.length (l.map fun o=>fh o.op) [])
def ed(a b:ak):Bool:=!((match a.dst with|some d=>(br b).contains d||b.dst==some d|none=>false)||(match b.dst with|some d=>(br a).contains d|none=>false))
def pv(bs:List Nat)(ops:List Oper)(l:List ak)(os:List (List Nat)):Bool:=
 let n:=l.length
 let np:=(List.range n).filter (gi l)
 (ops.zipIdx.all fun p=>p.1.after.toList.all fun e=>!Region.binds .any e||decide (e.on<p.2)) &&
 ((List.range n).all fun j=>(List.range j).all fun i=>match l[i]?,l[j]? with
   |some a,some b=>(bs.getD j 0).testBit i||ed a b
   |_,_=>false) &&
 (os.all fun o=>nK bs n [] o) &&
 ((jV bs np.length np).all fun x=>os.any fun o=>o.filter (gi l)==x)
def yh:jH→Bool
 | .load .. | .cQ _| .aH .. | .len _| .dJ .. | .dI .. =>true
 |_=>false
def yX(l:List ak):List Nat:=(List.range l.length).filter fun i=>match l[i]? with|some o=>!fh o.op&&!yh o.op|none=>false
def pL(W σ:List Nat)(r:Nat):Nat:=((σ.takeWhile (fun x=>x != r)).filter W.contains).length
def nX(bs W:List Nat)(r j:Nat):Bool:=(W.take j).all (fun w=>!(bs.getD w 0).testBit r)&&(W.drop j).all (fun w=>!(bs.getD r 0).testBit w)
def py(bs:List Nat)(l:List ak):List (List Nat):=
 let W:=yX l
 let n:=l.length
 let isR:=fun r=>match l[r]? with|some o=>yh o.op|none=>false
 let at_:=fun(j r:Nat)=>max (W.filter fun w=>(bs.getD r 0).testBit w).length (min j (W.length-(W.filter fun w=>(bs.getD w 0).testBit r).length))
 ((List.range (W.length+1)).map fun j=>vW bs n (l.map fun o=>fh o.op) [] ((List.range (W.length+1)).flatMap fun t=>((List.range n).filter fun r=>isR r&&at_ j r==t)++(W[t]?).toList)).foldl (fun acc o=>bif acc.contains o then acc else acc++[o]) []
def qR(bs:List Nat)(ops:List Oper)(l:List ak)(os:List (List Nat)):Bool:=
 let n:=l.length
 let W:=yX l
 (ops.zipIdx.all fun p=>p.1.after.toList.all fun e=>!Region.binds .any e||decide (e.on<p.2)) &&
 ((List.range n).all fun j=>(List.range j).all fun i=>match l[i]?,l[j]? with
   |some a,some b=>(bs.getD j 0).testBit i||ed a b
   |_,_=>false) &&
 (os.all fun o=>nK bs n [] o) &&
 ((List.range n).all fun i=>(List.range (i+1)).all fun k=>match l[k]?,l[i]? with
   |some a,some b=>(match b.dst with|some d=>!(br a).contains d&&(k==i||!(a.dst==some d))|none=>true)
   |_,_=>false) &&
 (W.all fun w=>W.all fun w'=>!decide (w<w')||(bs.getD w' 0).testBit w) &&
 !os.isEmpty &&
 ((List.range n).all fun r=>match l[r]? with
   |some o=>!yh o.op||(List.range (W.length+1)).all fun j=>!nX bs W r j||os.any fun σ=>pL W σ r==j
   |none=>true)
def xS(P:Program)(cU:vg)(f:FuncId)(nt:Nat)(ops:Array Oper):Option bO:=match bc (ops.toList.map (fX P cU f nt ops))with
 |none=>none
 |some l=>bif qR (aW ops.toList) ops.toList l (py (aW ops.toList) l)then some (.perm l (py (aW ops.toList) l))else
   bif pv (aW ops.toList) ops.toList l (tA (aW ops.toList) l)then some (.perm l (tA (aW ops.toList) l))else none
def tE(P:Program)(cU:vg)(f:FuncId)(nt:Nat)(ops:Array Oper)(draw:Bool):Option bO:=match bc (ops.toList.map (fX P cU f nt ops))with
 |none=>none
 |some l=>bif draw then(sA cU f ops.toList l).map .drawn else some (.ops l)
def dP:Code→Option Nat
 | .region id _ _=>some id
 | .seq a b=>(dP a).orElse fun _=>dP b
 | .cond _ a b=>(dP a).orElse fun _=>dP b
 | .block _ a=>dP a
 | .loop a=>dP a
 | .rangeFunc _ _ a b=>(dP a).orElse fun _=>dP b
 | .scope a=>dP a
 |_=>none
def mH(c:bO):List Nat→bO
 |[]=>c
 |t::r=>.seq (.freeze t) (mH c r)
def vM(c:bO):List (Nat×Nat)→bO
 |[]=>c
 |vs=>.seq c (.aL vs)
def rW(P:Program)(nt:Nat):Code→Option (Array Oper×List Oper×Nat×Bool×bj)
 | .region _ ops false=>match ops.toList.getLast? with
   |some o=>match o.dst,o.guard,o.op with
    |some d,none,.binOp op t x y _=>match aG x,P.underlying t with
     |some x',some (.slice el)=>match rq op (.slice el) y x' with
      |some (.isNil _ neg x2)=>bif decide (d<nt)then some (ops,ops.toList.dropLast,d,neg,x2)else none
      |_=>none
     |_,_=>none
    |_,_,_=>none
   |none=>none
 |_=>none
def dw(P:Program)(cU:vg)(f:FuncId)(nt:Nat):Code→Option bO
 | .skip=>some .skip
 | .region id ops draw=>(bif draw&&cU.Lr f id then xS P cU f nt ops else tE P cU f nt ops draw).map fun c=>vM (mH c (cU.eg f id)) (cU.LB f id)
 | .seq a b=>match rW P nt a with
   |some (ops,l,d,neg,x)=>match bc (l.map (fX P cU f nt ops)),dw P cU f nt b with
    |some l,some b=>some (.seq (.ops l) (.Ao d neg x b))
    |_,_=>none
   |none=>match dw P cU f nt a,dw P cU f nt b with
    |some a,some b=>some (.seq a b)
    |_,_=>none
 | .cond c a b=>match aG c,dw P cU f nt a,dw P cU f nt b with
   |some c,some a,some b=>some (.cond c a b)
   |_,_,_=>none
 | .block id a=>(dw P cU f nt a).map (.block id)
 | .loop a=>(dw P cU f nt a).map (.loop (cU.loop f ((dP a).getD 0)))
 | .rangeFunc g ps a b=>match aG g,dw P cU f nt a,dw P cU f nt b with
   |some g,some a,some b=>bif ps.toList.any (fun d=>decide (nt≤d))then none else some (.nB g ps.toList a b)
   |_,_,_=>none
 | .exit id=>some (.exit id)
 | .ret=>some .ret
 | .label _=>some .skip
 | .scope a=>dw P cU f nt a
 |_=>none
def uF(P:Program):ResultVar→Option rn
 | .tmp t=>some (.tmp t)
 | .cell a t=>match gZ P t,eO P t with
   |some ag,some n=>some (.cell a ag n)
   |_,_=>none
def se(P:Program)(cU:vg)(f:FuncId):Option aC:=match cU.ext f with
 |some k=>some ⟨[.tmp 0],.ext k,false⟩
 |none=>match P.funcs[f]? with
 |none=>none
 |some fn=>match fn.body with
  |none=>none
  |some b=>bif fn.name== "runtime.NumGoroutine" then none else match dw P cU f fn.ntmps b,bc (fn.results.toList.map (uF P))with
   |some b,some rs=>some ⟨rs,b,(cU.keep f).isSome⟩
   |_,_=>none
end
structure Loc where
 bq:Nat
 base:Nat
 cap:Nat
 bg:Nat
 bU:Nat
 aL:Bool
 arr:Bool
abbrev Map:=Nat→Option Loc
abbrev cO:Map:=fun _=>none
def ig:Value→Bool
 | .agg _=>false
 | .tuple _=>false
 |_=>true
def pe:SV→Option Value
 | .bool b=>some (.bool b)
 | .int k n=>some (.int k n)
 | .str s=>some (.string s)
 |_=>none
inductive VR(w:World)(F:Nat→Prop):Map→SV→Value→Prop
 |undef {ρ:Map} (v:Value):VR w F ρ .undef v
 |gJ {ρ:Map}:VR w F ρ .gJ undef
 |bool {ρ:Map} (b:Bool):VR w F ρ (.bool b) (.bool b)
 |int {ρ:Map} (k:IntKind) (n:Int):VR w F ρ (.int k n) (.int k n)
 |str {ρ:Map} (s:ByteArray):VR w F ρ (.str s) (.string s)
 |bF {ρ:Map}:VR w F ρ .bF (.pointer none)
 |ptr {ρ:Map} {b bU i o:Nat} {l:Loc} {v:Value} (h:ρ b=some l) (hv:bU≤l.bU) (hc:ig v=true)
   (ha:bU=l.bU→l.aL=false∧v=.pointer (some ⟨l.bq,l.base+i*l.bg+o,none⟩)):VR w F ρ (.ptr b bU i o) v
 |eS {ρ:Map} {cs:List SV} {B o:Nat} (V:Nat→Value) (hF:F B) (hc:∀j c,cs[j]?=some c→w.cell? ⟨B,o+j,none⟩=some (V j))
   (h1:∀(j:Nat) (c:SV),cs[j]?=some c→c.gU=true) (hv:∀j c,cs[j]?=some c→VR w F cO c (V j)):VR w F ρ (.eS cs) (.pointer (some ⟨B,o,none⟩))
 |aB {ρ:Map} {z:Nat} {L:List (List SV)} {full:Bool} {a:Option Addr} {cap:Nat} (V:Nat→Nat→Value) (hcap:L.length≤cap) (hfull:full=true→cap=L.length)
   (hz:∀(i:Nat) cs,L[i]?=some cs→cs.length=z)
   (hat:L=[]∨∃B o,a=some ⟨B,o,none⟩∧F B∧∀(i j:Nat) cs c,L[i]?=some cs→cs[j]?=some c→w.cell? ⟨B,o+i*z+j,none⟩=some (V i j))
   (h1:∀(i j:Nat) cs (c:SV),L[i]?=some cs→cs[j]?=some c→c.gU=true)
   (hv:∀(i j:Nat) cs c,L[i]?=some cs→cs[j]?=some c→VR w F cO c (V i j)):VR w F ρ (.aB z L full) (.slice a L.length cap)
 |bG {ρ:Map} {b bU off n:Nat} {l:Loc} {v:Value} (h:ρ b=some l) (hv:bU≤l.bU) (hc:ig v=true)
   (ha:bU=l.bU→(l.aL=true→∃a,v=.slice a 0 0∧off=0∧n=0)∧
    (l.aL=false→off+n≤l.cap∧∃a,v=.slice a n (l.cap-off)∧(off<l.cap→a=some ⟨l.bq,l.base+off*l.bg,none⟩))):VR w F ρ (.bG b bU off n) v
 |agg {ρ:Map} {cs:List SV} {vs:Array Value} (hn:cs.length=vs.size) (h1:∀(j:Nat) (c:SV),cs[j]?=some c→c.gU=true)
   (hv:∀(j:Nat) c v,cs[j]?=some c→vs[j]?=some v→VR w F ρ c v):VR w F ρ (.agg cs) (.agg vs)
 |ax {ρ:Map} {cs:List SV} {vs:Array Value} (hn:cs.length=vs.size)
   (hv:∀(j:Nat) c v,cs[j]?=some c→vs[j]?=some v→VR w F ρ c v):VR w F ρ (.ax cs) (.tuple vs)
 |fn {ρ:Map} {f:FuncId} {cs:List SV} {vs:Array Value} (hn:cs.length=vs.size)
   (hv:∀(j:Nat) c v,cs[j]?=some c→vs[j]?=some v→VR w F ρ c v):VR w F ρ (.fn f cs) (.func (.func f) #[] vs)
 |oI {ρ:Map} {f:FuncId} {cs:List SV} {vs:Array Value} (hn:cs.length=vs.size)
   (hv:∀(j:Nat) c v,cs[j]?=some c→vs[j]?=some v→VR w F ρ c v):VR w F ρ (.oI f cs) (.func (.func f) vs #[])
 |fR {ρ:Map}:VR w F ρ .fR .nilFunc
 |lT {ρ:Map} {b:Nat} {l:Loc} (h:ρ b=some l) (ha:l.arr=false):VR w F ρ (.lT b) (.func (.yield l.bq) #[] #[])
 |mp {ρ:Map} {b:Nat} {l:Loc} (h:ρ b=some l) (ha:l.arr=false):VR w F ρ (.mp b) (.map (some l.bq))
 |kZ {ρ:Map}:VR w F ρ .kZ (.map none)
 |pU {ρ:Map} {b o n cap:Nat} {l:Loc} (h:ρ b=some l) (ha:l.arr=false) (hn:n≤cap):VR w F ρ (.pU b o n) (.slice (some ⟨l.bq,o,none⟩) n cap)
theorem VR.one{w:World}{F:Nat→Prop}{ρ:Map}{c:SV}{v:Value}(h:VR w F ρ c v)(h1:c.gU=true):ig v=true:=by
 cases h<;>first|rfl|assumption|(simp[SV.gU]at h1)
def Map.le(ρ ρ':Map):Prop:=∀b l,ρ b=some l→∃l',ρ' b=some l'∧(l'=l∨(l.arr=true∧l.bU<l'.bU))
theorem Map.le_refl(ρ:Map):ρ.le ρ:=fun _ l h=>⟨l,h,.inl rfl⟩
theorem Map.le_trans{a b c:Map}(h:a.le b)(h':b.le c):a.le c:=fun x l hl=>by
 obtain⟨l1,h1,e1⟩:=h x l hl
 obtain⟨l2,h2,e2⟩:=h' x l1 h1
 refine⟨l2,h2,?_⟩
 rcases e1 with rfl|⟨a1,v1⟩
 ·exact e2
 ·rcases e2 with rfl|⟨_,v2⟩
  ·exact .inr ⟨a1,v1⟩
  ·exact .inr ⟨a1,by omega⟩
theorem iY(ρ:Map):cO.le ρ:=fun _ _ h=>by cases h
def cK(F:Nat→Prop)(w w':World):Prop:=∀B,F B→w'.heap[B]?=w.heap[B]?
theorem cK.cell{F:Nat→Prop}{w w':World}(h:cK F w w'){B o:Nat}(hB:F B):w'.cell? ⟨B,o,none⟩=w.cell? ⟨B,o,none⟩:=by
 simp only[World.cell?,h B hB]
theorem VR.mono{w w':World}{F F':Nat→Prop}(hk:cK F w w')(hF:∀B,F B→F' B){ρ:Map}{c:SV}{v:Value}
 (h:VR w F ρ c v):∀{ρ':Map},ρ.le ρ'→VR w' F' ρ' c v:=by
 induction h with
 |undef v=>exact fun _=>.undef v
 |gJ=>exact fun _=>.gJ
 |bool b=>exact fun _=>.bool b
 |int k n=>exact fun _=>.int k n
 |str s=>exact fun _=>.str s
 |bF=>exact fun _=>.bF
 |fR=>exact fun _=>.fR
 |ptr h hv hc ha=>
  intro ρ' hle
  obtain⟨l',h',e⟩:=hle _ _ h
  rcases e with rfl|⟨_,hlt⟩
  ·exact .ptr h' hv hc ha
  ·exact .ptr h' (by omega) hc (fun e=>by omega)
 |bG h hv hc ha=>
  intro ρ' hle
  obtain⟨l',h',e⟩:=hle _ _ h
  rcases e with rfl|⟨_,hlt⟩
  ·exact .bG h' hv hc ha
  ·exact .bG h' (by omega) hc (fun e=>by omega)
 |lT h ha=>
  intro ρ' hle
  obtain⟨l',h',e⟩:=hle _ _ h
  rcases e with rfl|⟨ht,_⟩
  ·exact .lT h' ha
  ·rw[ha]at ht;cases ht
 |mp h ha=>
  intro ρ' hle
  obtain⟨l',h',e⟩:=hle _ _ h
  rcases e with rfl|⟨ht,_⟩
  ·exact .mp h' ha
  ·rw[ha]at ht;cases ht
 |kZ=>exact fun _=>.kZ
 |pU h ha hn=>
  intro ρ' hle
  obtain⟨l',h',e⟩:=hle _ _ h
  rcases e with rfl|⟨ht,_⟩
  ·exact .pU h' ha hn
  ·rw[ha]at ht;cases ht
 |eS V hB hc h1 hv ih=>
  intro ρ' _
  exact .eS V (hF _ hB) (fun j c hj=>by rw[hk.cell hB];exact hc j c hj) h1 (fun j c hj=>ih j c hj (iY _))
 |aB V hcap hfull hz hat h1 hv ih=>
  intro ρ' _
  refine .aB V hcap hfull hz ?_ h1 (fun i j cs c hi hj=>ih i j cs c hi hj (iY _))
  rcases hat with h0|⟨B,o,ha,hB,hc⟩
  ·exact .inl h0
  ·exact .inr ⟨B,o,ha,hF _ hB,fun i j cs c hi hj=>by rw[hk.cell hB];exact hc i j cs c hi hj⟩
 |agg hn h1 hv ih=>
  intro ρ' hle
  exact .agg hn h1 (fun j c v hj hv=>ih j c v hj hv hle)
 |ax hn hv ih=>
  intro ρ' hle
  exact .ax hn (fun j c v hj hv=>ih j c v hj hv hle)
 |fn hn hv ih=>
  intro ρ' hle
  exact .fn hn (fun j c v hj hv=>ih j c v hj hv hle)
 |oI hn hv ih=>
  intro ρ' hle
  exact .oI hn (fun j c v hj hv=>ih j c v hj hv hle)
def Map.cut(ρ:Map)(N:Nat):Map:=fun b=>if b<N then ρ b else none
theorem Map.pK(ρ:Map)(N:Nat):(ρ.cut N).le ρ:=fun b l h=>by
 unfold Map.cut at h
 split at h
 ·exact⟨l,h,.inl rfl⟩
 ·cases h
theorem dT{cs:List SV}{N:Nat}(h:SV.refs.au cs≤N):∀(j:Nat) c,cs[j]?=some c→c.refs≤N:=by
 induction cs with
 |nil=>intro j c hj;simp at hj
 |cons x r ih=>
  intro j c hj
  simp only[SV.refs.au]at h
  cases j with
  |zero=>simp at hj;subst hj;omega
  |succ j=>simp at hj;exact ih (by omega) j c hj
theorem VR.cut{w:World}{F:Nat→Prop}{ρ:Map}{c:SV}{v:Value}(h:VR w F ρ c v):∀N,c.refs≤N→VR w F (ρ.cut N) c v:=by
 have at':∀{ρ:Map} {b N:Nat} {l:Loc},ρ b=some l→b+1≤N→ρ.cut N b=some l:=fun h hb=>by
  unfold Map.cut;rw[if_pos (by omega)];exact h
 induction h with
 |undef v=>exact fun _ _=>.undef v
 |gJ=>exact fun _ _=>.gJ
 |bool b=>exact fun _ _=>.bool b
 |int k n=>exact fun _ _=>.int k n
 |str s=>exact fun _ _=>.str s
 |bF=>exact fun _ _=>.bF
 |fR=>exact fun _ _=>.fR
 |ptr h hv hc ha=>exact fun N hN=>.ptr (at' h hN) hv hc ha
 |bG h hv hc ha=>exact fun N hN=>.bG (at' h hN) hv hc ha
 |lT h ha=>exact fun N hN=>.lT (at' h hN) ha
 |mp h ha=>exact fun N hN=>.mp (at' h hN) ha
 |kZ=>exact fun _ _=>.kZ
 |pU h ha hn=>exact fun N hN=>.pU (at' h hN) ha hn
 |eS V hB hc h1 hv ih=>exact fun N _=>.eS V hB hc h1 hv
 |aB V hcap hfull hz hat h1 hv ih=>exact fun N _=>.aB V hcap hfull hz hat h1 hv
 |agg hn h1 hv ih=>exact fun N hN=>.agg hn h1 (fun j c v hj hv=>ih j c v hj hv N (dT hN j c hj))
 |ax hn hv ih=>exact fun N hN=>.ax hn (fun j c v hj hv=>ih j c v hj hv N (dT hN j c hj))
 |fn hn hv ih=>exact fun N hN=>.fn hn (fun j c v hj hv=>ih j c v hj hv N (dT hN j c hj))
 |oI hn hv ih=>exact fun N hN=>.oI hn (fun j c v hj hv=>ih j c v hj hv N (dT hN j c hj))
def kQ:mJ→Option Code
 | .normal=>none
 | .exit id=>some (.exit id)
 | .ret=>some .ret
def ER(w:World)(F:Nat→Prop)(ρ:Map)(e:Env)(tmps:Array Value):Prop:=∀t,VR w F ρ (get e t) (tmps.getD t undef)
structure Ctx where
 P:Program
 cU:vg
def iW(fz:Nat×Nat)(n:Nat):Prop:=∀o,o<n→(decide (fz.1≤o)&&decide (o<fz.2))=false
def aT(w:World)(F:Nat→Prop)(ρ:Map)(vs:Array Value)(at_:Nat)(cs:List SV):Prop:=
 ∀(j:Nat) c,cs[j]?=some c→∃v,vs[at_+j]?=some v∧VR w F ρ c v∧c.gU=true
def jG(w:World)(F:Nat→Prop)(ρ:Map):List MapEntry→List (SV×SV)→Prop
 |[],[]=>True
 |e::en,(k,v)::es=>pe k=some e.key∧v.gU=true∧VR w F ρ v e.val∧jG w F ρ en es
 |_,_=>False
def BR(C:Ctx)(w:World)(F:Nat→Prop)(ρ:Map)(l:Loc):aj→Prop
 | .dead=>True
 | .box cs=>l.aL=false∧l.arr=false∧l.base=0∧l.bU=0∧l.bg=cs.length∧∃vs ty fz,w.heap[l.bq]?=some (.cells vs ty fz)∧iW fz vs.size∧vs.size=cs.length∧aT w F ρ vs 0 cs
 | .arr bU z L exact=>l.arr=true∧l.bU=bU∧l.bg=z∧(∀(i:Nat) cs,L[i]?=some cs→cs.length=z)∧L.length≤l.cap∧(exact=true→l.cap=L.length)∧
    (l.aL=true→l.cap=0)∧
    (l.aL=false→∃vs ty fz,w.heap[l.bq]?=some (.cells vs ty fz)∧iW fz vs.size∧l.base+l.cap*z≤vs.size∧
      ∀(i:Nat) cs,L[i]?=some cs→aT w F ρ vs (l.base+i*z) cs)
 | .loop r st pend=>l.aL=false∧l.arr=false∧∃q:Loop,w.heap[l.bq]?=some (.loop q)∧q.state=st∧q.pending=kQ pend∧q.params.toList=r.ps∧
    (∃g nt,nt≤q.tmps.size∧(∀t∈r.ps,t<nt)∧dw C.P C.cU g nt q.assign=some r.assign∧dw C.P C.cU g nt q.body=some r.body)∧ER w F ρ r.env q.tmps
 | .map es=>l.aL=false∧l.arr=false∧∃(en:Array MapEntry) (cl:Nat),w.heap[l.bq]?=some (.map en cl)∧cl=en.size∧(∀(j:Nat) e,en[j]?=some e→e.born=j)∧jG w F ρ en.toList es
 | .iter b n k=>l.aL=false∧l.arr=false∧l.base=0∧l.bU=0∧∃m last,VR w F ρ (.mp b) (.map (some m))∧w.heap[l.bq]?=some (.mapIter (some m) n (Array.range k) last)∧(0<k→last=n)
section
def aj.live:aj→Bool
 | .dead=>false
 |_=>true
def Own(ρ:Map)(H:ae)(b:Nat)(l:Loc):Prop:=(∃x,H.bl[b]?=some x∧x.live=true)∧ρ b=some l∧l.aL=false
structure HR(C:Ctx)(ρ:Map)(F:Nat→Prop)(H:ae)(w:World):Prop where
 gY:∀b l,ρ b=some l→b<H.bl.length
 live:∀(b:Nat) x,H.bl[b]?=some x→x.live=true→∃l,ρ b=some l∧BR C w F ρ l x
 apart:∀b b' l l',Own ρ H b l→Own ρ H b' l'→l.bq=l'.bq→b=b'
 own:∀b l,Own ρ H b l→¬F l.bq∧l.bq<w.heap.size
 fO:∀B,F B→B<w.heap.size
def Clean(N:Nat)(es:List (Nat×Nat)):Prop:=∀p∈es,¬(p.1<N∧N<p.2)
def wh(C:Ctx)(N:Nat)(ρ:Map)(F:Nat→Prop)(H:ae)(w:World):Prop:=∀b x l,b<N→H.bl[b]?=some x→x.live=true→ρ b=some l→BR C w F (ρ.cut N) l x
structure Ext0(C:Ctx)(ρ:Map)(F:Nat→Prop)(H:ae)(w:World)(ρ':Map)(F':Nat→Prop)(H':ae)(w':World):Prop where
 map:∀b l,ρ b=some l→∃l',ρ' b=some l'∧(l'=l∨(H.ro≤b∧l.arr=true∧l.bU<l'.bU))
 fO:∀B,F B→F' B
 new:∀B,F' B→F B∨w.heap.size≤B∨∃b l,Own ρ H b l∧H.ro≤b∧l.bq=B
 frame:∀B,B<w.heap.size→(∀b l,Own ρ H b l→H.ro≤b→l.bq≠B)→w'.heap[B]?=w.heap[B]?
 size:w.heap.size≤w'.heap.size
 old:∀b l',Own ρ' H' b l'→w.heap.size≤l'.bq∨∃l,Own ρ H b l∧l.bq=l'.bq
 ro:H'.ro=H.ro
 bC:∀p∈H.bC,p∈H'.bC
 inv:∀N,N≤H'.bl.length→Clean N H'.bC→(N≤H.bl.length→wh C N ρ F H w)→wh C N ρ' F' H' w'
 lp:∀(B:Nat) (q:Loop),w.heap[B]?=some (.loop q)→∃q':Loop,w'.heap[B]?=some (.loop q')
 ln:H.bl.length≤H'.bl.length
 out:w'.os=w.os∧w'.output=w.output
structure Ext(C:Ctx)(ρ:Map)(F:Nat→Prop)(H:ae)(w:World)(ρ':Map)(F':Nat→Prop)(H':ae)(w':World):Prop extends Ext0 C ρ F H w ρ' F' H' w' where
 nd:∀b l',ρ' b=some l'→(∃l,ρ b=some l)∨H.bl.length≤b
section
variable{C:Ctx}{ρ ρ' ρ'':Map}{F F' F'':Nat→Prop}{H H' H'':ae}{w w' w'':World}
theorem Ext.refl(ρ:Map)(F:Nat→Prop)(H:ae)(w:World):Ext C ρ F H w ρ F H w:=
 ⟨⟨fun _ l h=>⟨l,h,.inl rfl⟩,fun _ h=>h,fun _ h=>.inl h,fun _ _ _=>rfl,NV _,fun _ l h=>.inr ⟨l,h,rfl⟩,rfl,fun _ h=>h,fun N hN _ h=>h hN,fun _ q h=>⟨q,h⟩,NV _,⟨rfl,rfl⟩⟩,fun _ l h=>.inl ⟨l,h⟩⟩
theorem Ext0.trans(h:Ext0 C ρ F H w ρ' F' H' w')(h':Ext0 C ρ' F' H' w' ρ'' F'' H'' w''):Ext0 C ρ F H w ρ'' F'' H'' w'' where
 map:=fun b l hl=>by
  obtain⟨l1,h1,e1⟩:=h.map b l hl
  obtain⟨l2,h2,e2⟩:=h'.map b l1 h1
  refine⟨l2,h2,?_⟩
  rcases e1 with rfl|⟨r1,a1,v1⟩
  ·rcases e2 with rfl|⟨r2,a2,v2⟩
   ·exact .inl rfl
   ·exact .inr ⟨h.ro▸r2,a2,v2⟩
  ·rcases e2 with rfl|⟨_,_,v2⟩
   ·exact .inr ⟨r1,a1,v1⟩
   ·exact .inr ⟨r1,a1,by omega⟩
 fO:=fun B hB=>h'.fO B (h.fO B hB)
 new:=fun B hB=>by
  rcases h'.new B hB with h1|h1|⟨b,l,ho,hr,rfl⟩
  ·exact h.new B h1
  ·exact .inr (.inl (O0 h.size h1))
  ·rcases h.old b l ho with h2|⟨l0,h2,e2⟩
   ·exact .inr (.inl h2)
   ·exact .inr (.inr ⟨b,l0,h2,h.ro▸hr,e2⟩)
 frame:=fun B hB hno=>by
  rw[h'.frame B (OP hB h.size) (fun b l ho hr e=>?_),h.frame B hB hno]
  rcases h.old b l ho with h2|⟨l0,h2,e2⟩
  ·omega
  ·exact hno b l0 h2 (h.ro▸hr) (e2.trans e)
 size:=O0 h.size h'.size
 old:=fun b l ho=>by
  rcases h'.old b l ho with h1|⟨l1,h1,e1⟩
  ·exact .inl (O0 h.size h1)
  ·rcases h.old b l1 h1 with h2|⟨l0,h2,e2⟩
   ·exact .inl (e1▸h2)
   ·exact .inr ⟨l0,h2,e2.trans e1⟩
 ro:=h'.ro.trans h.ro
 bC:=fun p hp=>h'.bC p (h.bC p hp)
 inv:=fun N hN hc h0=>h'.inv N hN hc (fun hN'=>h.inv N hN' (fun p hp=>hc p (h'.bC p hp)) h0)
 lp:=fun B q hq=>let⟨q1,h1⟩:=h.lp B q hq;h'.lp B q1 h1
 ln:=O0 h.ln h'.ln
 out:=⟨h'.out.1.trans h.out.1,h'.out.2.trans h.out.2⟩
theorem Ext.trans(h:Ext C ρ F H w ρ' F' H' w')(h':Ext C ρ' F' H' w' ρ'' F'' H'' w''):Ext C ρ F H w ρ'' F'' H'' w'':=
 ⟨h.toExt0.trans h'.toExt0,fun b l hl=>by
   rcases h'.nd b l hl with⟨l1,h1⟩|h1
   ·exact h.nd b l1 h1
   ·exact .inr (O0 h.ln h1)⟩
theorem Ext0.le(h:Ext0 C ρ F H w ρ' F' H' w'):ρ.le ρ':=fun b l hl=>by
 obtain⟨l',h1,e⟩:=h.map b l hl
 exact⟨l',h1,e.imp id (fun⟨_,a,v⟩=>⟨a,v⟩)⟩
theorem Ext0.keeps(h:Ext0 C ρ F H w ρ' F' H' w')(hr:HR C ρ F H w):cK F w w':=fun B hB=>
 h.frame B (hr.fO B hB) (fun b l ho _ e=>(hr.own b l ho).1 (e▸hB))
theorem Ext0.vr(h:Ext0 C ρ F H w ρ' F' H' w')(hr:HR C ρ F H w){c:SV}{v:Value}(hv:VR w F ρ c v):VR w' F' ρ' c v:=
 hv.mono (h.keeps hr) h.fO h.le
theorem Ext0.er(h:Ext0 C ρ F H w ρ' F' H' w')(hr:HR C ρ F H w){e:Env}{t:Array Value}(hv:ER w F ρ e t):ER w' F' ρ' e t:=
 fun i=>h.vr hr (hv i)
theorem aT.mono(hk:cK F w w')(hF:∀B,F B→F' B)(hle:ρ.le ρ'){vs:Array Value}{n:Nat}{cs:List SV}(h:aT w F ρ vs n cs):aT w' F' ρ' vs n cs:=
 fun j c hj=>let⟨v,hv,hr,h1⟩:=h j c hj;⟨v,hv,hr.mono hk hF hle,h1⟩
theorem jG.mono(hk:cK F w w')(hF:∀B,F B→F' B)(hle:ρ.le ρ'):∀{en:List MapEntry} {es:List (SV×SV)},jG w F ρ en es→jG w' F' ρ' en es
 |[],[],_=>trivial
 |_::_,(_,_)::_,⟨h1,h2,h3,h4⟩=>⟨h1,h2,h3.mono hk hF hle,jG.mono hk hF hle h4⟩
 |[],_::_,h=>h.elim
 |_::_,[],h=>h.elim
theorem BR.mono(hk:cK F w w')(hF:∀B,F B→F' B)(hle:ρ.le ρ'){l:Loc}{x:aj}(hb:l.aL=false→w'.heap[l.bq]?=w.heap[l.bq]?)
 (h:BR C w F ρ l x):BR C w' F' ρ' l x:=by
 cases x with
 |dead=>trivial
 |box cs=>
  obtain⟨h1,h2,h3,h4,h5,vs,ty,fz,h6,h7,h8,h9⟩:=h
  exact⟨h1,h2,h3,h4,h5,vs,ty,fz,(hb h1).trans h6,h7,h8,h9.mono hk hF hle⟩
 |arr bU z L exact'=>
  obtain⟨h1,h2,h3,h4,h5,h6,h7,h8⟩:=h
  refine⟨h1,h2,h3,h4,h5,h6,h7,fun hv=>?_⟩
  obtain⟨vs,ty,fz,a,b,c,d⟩:=h8 hv
  exact⟨vs,ty,fz,(hb hv).trans a,b,c,fun i cs hi=>(d i cs hi).mono hk hF hle⟩
 |loop r st pend=>
  obtain⟨h1,h2,q,h3,h4,h5,h6,h7,h8⟩:=h
  exact⟨h1,h2,q,(hb h1).trans h3,h4,h5,h6,h7,fun t=>(h8 t).mono hk hF hle⟩
 |map es=>
  obtain⟨h1,h2,en,cl,h3,h5,h6,h4⟩:=h
  exact⟨h1,h2,en,cl,(hb h1).trans h3,h5,h6,h4.mono hk hF hle⟩
 |iter b n k=>
  obtain⟨h1,h2,h3,h4,m,last,h5,h6,h7⟩:=h
  exact⟨h1,h2,h3,h4,m,last,h5.mono hk hF hle,(hb h1).trans h6,h7⟩
theorem HR.same(hr:HR C ρ F H w)(hs:w.heap.size≤w'.heap.size)(hh:∀B,B<w.heap.size→w'.heap[B]?=w.heap[B]?)(hout:w'.os=w.os∧w'.output=w.output:=by exact⟨rfl,rfl⟩):HR C ρ F H w'∧Ext C ρ F H w ρ F H w':=by
 have hk:cK F w w':=fun B hB=>hh B (hr.fO B hB)
 refine⟨⟨hr.gY,fun b x hb hx=>?_,hr.apart,fun b l ho=>⟨(hr.own b l ho).1,OP (hr.own b l ho).2 hs⟩,fun B hB=>OP (hr.fO B hB) hs⟩,?_⟩
 ·obtain⟨l,hl,hbr⟩:=hr.live b x hb hx
  exact⟨l,hl,hbr.mono hk (fun _ h=>h) (Map.le_refl _) (fun hv=>hh _ (hr.own b l ⟨⟨x,hb,hx⟩,hl,hv⟩).2)⟩
 ·refine⟨⟨fun _ l h=>⟨l,h,.inl rfl⟩,fun _ h=>h,fun _ h=>.inl h,fun B hB _=>hh B hB,hs,fun _ l h=>.inr ⟨l,h,rfl⟩,rfl,fun _ h=>h,fun N hN _ h0 b x l hb hx hxl hl=>?_,fun B q hq=>⟨q,(hh B (N8.1 hq).1).trans hq⟩,NV _,hout⟩,fun _ l h=>.inl ⟨l,h⟩⟩
  exact(h0 hN b x l hb hx hxl hl).mono hk (fun _ h=>h) (Map.le_refl _) (fun hv=>hh _ (hr.own b l ⟨⟨x,hx,hxl⟩,hl,hv⟩).2)
def Map.put(ρ:Map)(b:Nat)(l:Loc):Map:=fun b'=>if b'=b then some l else ρ b'
theorem Map.aQ(ρ:Map)(b:Nat)(l:Loc):ρ.put b l b=some l:=by simp[Map.put]
theorem Map.aA(ρ:Map){b b':Nat}(l:Loc)(h:b'≠b):ρ.put b l b'=ρ b':=by simp[Map.put,h]
theorem HR.push(hr:HR C ρ F H w)(hs:w.heap.size≤w'.heap.size)(hh:∀B,B<w.heap.size→w'.heap[B]?=w.heap[B]?)
 (x:aj) (l:Loc) (hl:l.aL=false→w.heap.size≤l.bq∧l.bq<w'.heap.size) (hx:BR C w' F (ρ.put H.bl.length l) l x) (hout:w'.os=w.os∧w'.output=w.output:=by exact⟨rfl,rfl⟩) :
 HR C (ρ.put H.bl.length l) F (aV H x) w'∧Ext C ρ F H w (ρ.put H.bl.length l) F (aV H x) w':=by
 have hne:∀b l',ρ b=some l'→b≠H.bl.length:=fun b l' h=>PB (hr.gY b l' h)
 have hle:ρ.le (ρ.put H.bl.length l):=fun b l' h=>⟨l',by rw[Map.aA _ _ (hne b l' h)];exact h,.inl rfl⟩
 have hk:cK F w w':=fun B hB=>hh B (hr.fO B hB)
 have hown:∀b l',Own (ρ.put H.bl.length l) (aV H x) b l'→(b=H.bl.length∧l'=l)∨Own ρ H b l':=by
  intro b l' ⟨⟨y,hy,hyl⟩,hm,hv⟩
  by_cases hb:b=H.bl.length
  ·subst hb
   rw[Map.aQ]at hm
   exact .inl ⟨rfl,by cases hm;rfl⟩
  ·rw[Map.aA _ _ hb]at hm
   refine .inr ⟨⟨y,?_,hyl⟩,hm,hv⟩
   have hlt:=hr.gY b l' hm
   simpa[aV,On hlt]using hy
 refine⟨⟨fun b l' h=>?_,fun b y hb hy=>?_,fun b b' l1 l2 h1 h2 he=>?_,fun b l' ho=>?_,fun B hB=>OP (hr.fO B hB) hs⟩,?_⟩
 ·by_cases hb:b=H.bl.length
  ·subst hb;simp[aV]
  ·rw[Map.aA _ _ hb]at h
   have:=hr.gY b l' h
   simp[aV];omega
 ·by_cases hb':b=H.bl.length
  ·subst hb'
   simp[aV]at hb
   subst hb
   exact⟨l,Map.aQ _ _ _,hx⟩
  ·have hlt:b<H.bl.length:=by
    have:=(NT.1 hb).1
    simp[aV]at this;omega
   rw[aV,On hlt]at hb
   obtain⟨l',hl',hbr⟩:=hr.live b y hb hy
   exact⟨l',by rw[Map.aA _ _ hb'];exact hl',hbr.mono hk (fun _ h=>h) hle (fun hv=>hh _ (hr.own b l' ⟨⟨y,hb,hy⟩,hl',hv⟩).2)⟩
 ·rcases hown b l1 h1 with⟨e1,f1⟩|o1<;>rcases hown b' l2 h2 with⟨e2,f2⟩|o2
  ·rw[e1,e2]
  ·subst f1
   have:=(hr.own b' l2 o2).2
   have:=(hl h1.2.2).1
   omega
  ·subst f2
   have:=(hr.own b l1 o1).2
   have:=(hl h2.2.2).1
   omega
  ·exact hr.apart b b' l1 l2 o1 o2 he
 ·rcases hown b l' ho with⟨_,f1⟩|o1
  ·subst f1
   have h1:=hl ho.2.2
   exact⟨fun hF=>by have:=hr.fO _ hF;omega,h1.2⟩
  ·have h1:=hr.own b l' o1
   exact⟨h1.1,OP h1.2 hs⟩
 ·refine⟨⟨fun b l' h=>⟨l',by rw[Map.aA _ _ (hne b l' h)];exact h,.inl rfl⟩,fun _ h=>h,fun _ h=>.inl h,fun B hB _=>hh B hB,hs,fun b l' ho=>?_,rfl,fun _ h=>h,fun N hN _ h0 b y l' hb hy hyl hm=>?_,fun B q hq=>⟨q,(hh B (N8.1 hq).1).trans hq⟩,by simp[aV],hout⟩,fun b l' h=>?_⟩
  ·rcases hown b l' ho with⟨_,f1⟩|o1
   ·subst f1;exact .inl (hl ho.2.2).1
   ·exact .inr ⟨l',o1,rfl⟩
  ·have hN':N≤H.bl.length+1:=by simpa[aV]using hN
   by_cases hb':b=H.bl.length
   ·subst hb'
    rw[Map.aQ]at hm;cases hm
    simp[aV]at hy
    subst hy
    refine hx.mono (fun _ _=>rfl) (fun _ h=>h) (fun b1 l1 h1=>⟨l1,?_,.inl rfl⟩) (fun _=>rfl)
    have:b1<N:=by
     by_cases e:b1=H.bl.length
     ·omega
     ·rw[Map.aA _ _ e]at h1
      have:=hr.gY b1 l1 h1
      omega
    simp[Map.cut,this,h1]
   ·have hlt:b<H.bl.length:=by omega
    rw[Map.aA _ _ hb']at hm
    rw[aV,On hlt]at hy
    have hsm:=fun hv=>hh l'.bq (hr.own b l' ⟨⟨y,hy,hyl⟩,hm,hv⟩).2
    by_cases hNl:N≤H.bl.length
    ·refine(h0 hNl b y l' hb hy hyl hm).mono hk (fun _ h=>h) (fun b1 l1 h1=>⟨l1,?_,.inl rfl⟩) hsm
     unfold Map.cut at h1⊢
     split at h1
     ·rename_i h2;rw[if_pos h2,Map.aA _ _ (by omega)];exact h1
     ·cases h1
    ·obtain⟨l2,h2,hbr⟩:=hr.live b y hy hyl
     rw[hm]at h2;cases h2
     refine hbr.mono hk (fun _ h=>h) (fun b1 l1 h1=>⟨l1,?_,.inl rfl⟩) hsm
     have:=hr.gY b1 l1 h1
     unfold Map.cut
     rw[if_pos (by omega),Map.aA _ _ (by omega)];exact h1
  ·by_cases hb':b=H.bl.length
   ·exact .inr (by omega)
   ·rw[Map.aA _ _ hb']at h;exact .inl ⟨l',h⟩
theorem HR.set(hr:HR C ρ F H w){b:Nat}{x y:aj}{l l':Loc}{refs:Nat}(hH:bT H b y refs=some H')(hb:H.bl[b]?=some x)(hx:x.live=true)(hl:ρ b=some l)
 (hs:w.heap.size≤w'.heap.size) (hh:∀B,B<w.heap.size→(l.aL=false→B≠l.bq)→w'.heap[B]?=w.heap[B]?)
 (hl':l'.aL=false→(l.aL=false∧l'.bq=l.bq)∨(w.heap.size≤l'.bq∧l'.bq<w'.heap.size))
 (hver:l'=l∨(l.arr=true∧l.bU<l'.bU))
 (hy:y.live=true→BR C w' F (ρ.put b l') l' y) (hcut:y.live=true→∀N,refs≤N→b<N→BR C w F (ρ.cut N) l x→BR C w' F ((ρ.put b l').cut N) l' y)
 (hlk:(∃r st p,x=.loop r st p)→∃r st p,y=.loop r st p:=by(rintro⟨_,_,_,h⟩;cases h)) (hout:w'.os=w.os∧w'.output=w.output:=by exact⟨rfl,rfl⟩) :
 HR C (ρ.put b l') F H' w'∧Ext C ρ F H w (ρ.put b l') F H' w':=by
 have hro:H.ro≤b∧b<H.bl.length∧H'.bl=H.bl.set b y∧H'.ro=H.ro∧H'.bC=(bif decide (refs≤b+1)then H.bC else(b,refs)::H.bC):=by
  unfold bT at hH
  by_cases h:(decide (H.ro≤b)&&decide (b<H.bl.length))=true
  ·rw[h]at hH
   simp at h
   simp only[N6,N1]at hH
   subst hH
   exact⟨h.1,h.2,rfl,rfl,rfl⟩
  ·rw[P5]at h;rw[h]at hH;simp at hH
 obtain⟨hro,hlt,hbl,hroe,hesc⟩:=hro
 have hle:ρ.le (ρ.put b l'):=fun b' l1 h=>by
  by_cases e:b'=b
  ·subst e;rw[hl]at h;cases h;exact⟨l',Map.aQ _ _ _,hver⟩
  ·exact⟨l1,by rw[Map.aA _ _ e];exact h,.inl rfl⟩
 have hbo:l.aL=false→Own ρ H b l:=fun hv=>⟨⟨x,hb,hx⟩,hl,hv⟩
 have hk:cK F w w':=fun B hB=>hh B (hr.fO B hB) (fun hv e=>(hr.own b l (hbo hv)).1 (e▸hB))
 have az:∀b',b'≠b→H'.bl[b']?=H.bl[b']?:=fun b' e=>by rw[hbl,N7 (Ne.symm e)]
 have hgetb:H'.bl[b]?=some y:=by rw[hbl];simp[hlt]
 have hown:∀b' l1,Own (ρ.put b l') H' b' l1→(b'=b∧l1=l'∧y.live=true)∨(b'≠b∧Own ρ H b' l1):=by
  intro b' l1 ⟨⟨z,hz,hzl⟩,hm,hv⟩
  by_cases e:b'=b
  ·subst e
   rw[Map.aQ]at hm;cases hm
   rw[hgetb]at hz;cases hz
   exact .inl ⟨rfl,rfl,hzl⟩
  ·rw[Map.aA _ _ e]at hm
   rw[az b' e]at hz
   exact .inr ⟨e,⟨z,hz,hzl⟩,hm,hv⟩
 have hsame:∀b' l1,b'≠b→Own ρ H b' l1→w'.heap[l1.bq]?=w.heap[l1.bq]?:=fun b' l1 e ho=>
  hh _ (hr.own b' l1 ho).2 (fun hv h=>e (hr.apart b' b l1 l ho (hbo hv) h))
 refine⟨⟨fun b' l1 h=>?_,fun b' z hz hzl=>?_,fun b1 b2 l1 l2 h1 h2 he=>?_,fun b' l1 ho=>?_,fun B hB=>OP (hr.fO B hB) hs⟩,?_⟩
 ·rw[hbl,NZ]
  by_cases e:b'=b
  ·subst e;exact hlt
  ·rw[Map.aA _ _ e]at h;exact hr.gY b' l1 h
 ·by_cases e:b'=b
  ·subst e
   rw[hgetb]at hz;cases hz
   exact⟨l',Map.aQ _ _ _,hy hzl⟩
  ·rw[az b' e]at hz
   obtain⟨l1,hl1,hbr⟩:=hr.live b' z hz hzl
   exact⟨l1,by rw[Map.aA _ _ e];exact hl1,hbr.mono hk (fun _ h=>h) hle (fun hv=>hsame b' l1 e ⟨⟨z,hz,hzl⟩,hl1,hv⟩)⟩
 ·rcases hown b1 l1 h1 with⟨e1,f1,_⟩|⟨e1,o1⟩<;>rcases hown b2 l2 h2 with⟨e2,f2,_⟩|⟨e2,o2⟩
  ·rw[e1,e2]
  ·subst f1
   rcases hl' h1.2.2 with⟨hv,hq⟩|hq
   ·exact absurd (hr.apart b2 b l2 l o2 (hbo hv) (by rw[←he,hq])) e2
   ·have:=(hr.own b2 l2 o2).2;omega
  ·subst f2
   rcases hl' h2.2.2 with⟨hv,hq⟩|hq
   ·exact absurd (hr.apart b1 b l1 l o1 (hbo hv) (by rw[he,hq])) e1
   ·have:=(hr.own b1 l1 o1).2;omega
  ·exact hr.apart b1 b2 l1 l2 o1 o2 he
 ·rcases hown b' l1 ho with⟨_,f1,_⟩|⟨_,o1⟩
  ·subst f1
   rcases hl' ho.2.2 with⟨hv,hq⟩|hq
   ·have:=hr.own b l (hbo hv)
    exact⟨hq▸this.1,hq▸OP this.2 hs⟩
   ·exact⟨fun hF=>by have:=hr.fO _ hF;omega,hq.2⟩
  ·have:=hr.own b' l1 o1
   exact⟨this.1,OP this.2 hs⟩
 ·refine⟨⟨fun b' l1 h=>?_,fun _ h=>h,fun _ h=>.inl h,fun B hB hno=>hh B hB (fun hv e=>hno b l (hbo hv) hro e.symm),hs,fun b' l1 ho=>?_,hroe,fun p hp=>?_,fun N hN hc h0 b' z l1 hb1 hz hzl hm=>?_,fun B q hq=>?_,by rw[hbl,NZ];exact NV _,hout⟩,fun b' l1 h=>?_⟩
  ·by_cases e:b'=b
   ·subst e;rw[hl]at h;cases h
    exact⟨l',Map.aQ _ _ _,hver.imp id (fun⟨a,v⟩=>⟨hro,a,v⟩)⟩
   ·exact⟨l1,by rw[Map.aA _ _ e];exact h,.inl rfl⟩
  ·rcases hown b' l1 ho with⟨e1,f1,_⟩|⟨e1,o1⟩
   ·subst f1;subst e1
    rcases hl' ho.2.2 with⟨hv,hq⟩|hq
    ·exact .inr ⟨l,hbo hv,hq.symm⟩
    ·exact .inl hq.1
   ·exact .inr ⟨l1,o1,rfl⟩
  ·rw[hesc]
   cases decide (refs≤b+1)with
   |true=>exact hp
   |false=>exact OW _ hp
  ·have hN':N≤H.bl.length:=by rw[hbl,NZ]at hN;exact hN
   by_cases e:b'=b
   ·subst e
    rw[hgetb]at hz;cases hz
    rw[Map.aQ]at hm;cases hm
    refine hcut hzl N ?_ hb1 (h0 hN' b' x l hb1 hb hx hl)
    by_cases hd:refs≤b'+1
    ·omega
    ·have:(b',refs)∈H'.bC:=by
      rw[hesc];simp[hd]
     have:=hc _ this
     simp only at this
     omega
   ·rw[az b' e]at hz
    rw[Map.aA _ _ e]at hm
    refine(h0 hN' b' z l1 hb1 hz hzl hm).mono hk (fun _ h=>h) (fun b1 l2 h1=>?_) (fun hv=>hsame b' l1 e ⟨⟨z,hz,hzl⟩,hm,hv⟩)
    unfold Map.cut at h1⊢
    split at h1
    ·rename_i h2
     rw[if_pos h2]
     by_cases e1:b1=b
     ·subst e1;rw[hl]at h1;cases h1;exact⟨l',Map.aQ _ _ _,hver⟩
     ·exact⟨l2,by rw[Map.aA _ _ e1];exact h1,.inl rfl⟩
    ·cases h1
  ·have hB:=(N8.1 hq).1
   by_cases hbl:l.aL=false∧B=l.bq
   ·obtain⟨hv,rfl⟩:=hbl
    obtain⟨l1,hl1,hbr⟩:=hr.live b x hb hx
    rw[hl]at hl1;cases hl1
    cases x with
    |dead=>cases hx
    |box cs=>obtain⟨_,_,_,_,_,vs,ty,fz,h6,_⟩:=hbr;rw[hq]at h6;cases h6
    |arr bU z L ex=>
     obtain⟨_,_,_,_,_,_,_,h8⟩:=hbr
     obtain⟨vs,ty,fz,h6,_⟩:=h8 hv
     rw[hq]at h6;cases h6
    |map es=>obtain⟨_,_,en,cl,h6,_⟩:=hbr;rw[hq]at h6;cases h6
    |iter b n k=>obtain⟨_,_,_,_,m,last,_,h6,_⟩:=hbr;rw[hq]at h6;cases h6
    |loop r st p=>
     obtain⟨r',st',p',rfl⟩:=hlk ⟨r,st,p,rfl⟩
     obtain⟨_,ha,_⟩:=hbr
     have:l'=l:=by
      rcases hver with e|⟨e,_⟩
      ·exact e
      ·rw[ha]at e;cases e
     subst this
     obtain⟨_,_,q',h3,_⟩:=hy rfl
     exact⟨q',h3⟩
   ·exact⟨q,(hh B hB (fun hv e=>hbl ⟨hv,e⟩)).trans hq⟩
  ·by_cases e:b'=b
   ·subst e;exact .inl ⟨l,hl⟩
   ·rw[Map.aA _ _ e]at h;exact .inl ⟨l1,h⟩
end
end
section
section
variable{C:Ctx}{ρ:Map}{F:Nat→Prop}{H H':ae}{w w':World}{e:Env}{a:Act}
theorem af{A:Type}{c:Bool}{x:Option A}{y:A}(h:(bif c then x else none)=some y):c=true∧x=some y:=by
 cases c with
 |true=>exact⟨rfl,h⟩
 |false=>cases h
theorem lA{A:Type}{l:List (Option A)}{r:List A}(h:bc l=some r):l=r.map some:=by
 induction l generalizing r with
 |nil=>simp[bc]at h;subst h;rfl
 |cons x l ih=>
  cases x with
  |none=>simp[bc]at h
  |some x=>
   simp only[bc,NP]at h
   obtain⟨r',h1,rfl⟩:=h
   rw[ih h1];rfl
theorem cY{A B:Type}{f:A→Option B}{l:List A}{r:List B}(h:bc (l.map f)=some r) :
 r.length=l.length∧∀(j:Nat) x y,l[j]?=some x→r[j]?=some y→f x=some y:=by
 have h1:=lA h
 have hl:r.length=l.length:=by have:=congrArg List.length h1;simpa using this.symm
 refine⟨hl,fun j x y hx hy=>?_⟩
 have h2:=congrArg (·[j]?) h1
 simp[hx,hy]at h2
 exact h2
theorem pA:∀(d:Nat) {v:Value} {s:SV},iz d v=some s→VR w F ρ s v:=by
 intro d
 induction d with
 |zero=>intro v s h;simp[iz]at h
 |succ d ih=>
  intro v s h
  unfold iz at h
  split at h
  ·cases h;exact .bool _
  ·cases h;exact .int _ _
  ·cases h;exact .str _
  ·cases h;exact .bF
  ·cases h
   exact VR.aB (L:=[]) (fun _ _=>undef) (NV _) (fun _=>rfl) (by simp) (.inl rfl) (by simp) (by simp)
  ·cases h;exact .fR
  ·cases h;exact .kZ
  ·rename_i cs
   simp only[NS]at h
   obtain⟨r,h1,h2⟩:=h
   by_cases hok:r.all SV.gU=true
   ·rw[hok]at h2
    simp only[N6,N1]at h2
    subst h2
    obtain⟨hl,hp⟩:=cY h1
    refine .agg (by simpa using hl) (fun j c hj=>?_) (fun j c v hj hv=>ih (hp j v c (by simpa using hv) hj))
    exact N5.1 hok c (Ok hj)
   ·rw[P5]at hok;rw[hok]at h2;simp at h2
  ·cases h
theorem ar{x:Operand}{y:bj}(h:aG x=some y)(he:ER w F ρ e a.tmps):VR w F ρ (ev e y) (a.eval x):=by
 unfold aG at h
 split at h
 ·cases h;exact he _
 ·simp only[NP]at h
  obtain⟨s,h1,rfl⟩:=h
  exact pA 2 h1
 ·cases h
  exact .fn rfl (by simp)
 ·cases h
theorem gm{xs:Array Operand}{ys:List bj}(h:gn xs=some ys)(he:ER w F ρ e a.tmps) :
 (ys.map (ev e)).length=xs.size∧∀(j:Nat) c v,(ys.map (ev e))[j]?=some c→(xs.map a.eval)[j]?=some v→VR w F ρ c v:=by
 obtain⟨hl,hp⟩:=cY h
 refine⟨by simpa using hl,fun j c v hc hv=>?_⟩
 simp at hc hv
 obtain⟨y,hy,rfl⟩:=hc
 obtain⟨x,hx,rfl⟩:=hv
 exact ar (hp j x y (by simpa using hx) hy) he
def cN(C:Ctx)(ρ:Map)(F:Nat→Prop)(H:ae)(w:World)(v:SV)(H':ae)(val:Value)(w':World):Prop:=
 ∃ρ' F',VR w' F' ρ' v val∧HR C ρ' F' H' w'∧Ext C ρ F H w ρ' F' H' w'
theorem cN.same(hr:HR C ρ F H w){v:SV}{val:Value}(hv:VR w F ρ v val):cN C ρ F H w v H val w:=⟨ρ,F,hv,hr,Ext.refl _ _ _ _⟩
def zN(P:Program)(w:World)(s:Sem Next)(val:Value)(w':World):Prop:=s.run P w=.ok (.value val) w'∨(s.run P w=.ok .skip w'∧val=undef)
def aJ(C:Ctx)(s:Sem Next)(ρ:Map)(F:Nat→Prop)(H:ae)(w:World)(v:SV)(H':ae):Prop:=
 ∃val w',zN C.P w s val w'∧cN C ρ F H w v H' val w'
theorem aJ.val{s:Sem Value}(hr:HR C ρ F H w){v:SV}{val:Value}(hs:s.run C.P w=.ok val w)(hv:VR w F ρ v val) :
 aJ C (do pure (.value (←s))) ρ F H w v H:=
 ⟨val,w,.inl (by simp[hs,pure,Sem.run]),cN.same hr hv⟩
theorem aJ.mZ{s:Sem Value}{v:SV}{val:Value}(hs:s.run C.P w=.ok val w')(hd:cN C ρ F H w v H' val w') :
 aJ C (do pure (.value (←s))) ρ F H w v H':=
 ⟨val,w',.inl (by simp[hs,pure,Sem.run]),hd⟩
theorem eG{cs:List SV}{v:Value}(h:VR w F ρ (.agg cs) v):∃vs,v=.agg vs∧cs.length=vs.size∧aT w F ρ vs 0 cs:=by
 cases h with
 |agg hn h1 hv=>
  rename_i vs
  refine⟨vs,rfl,hn,fun j c hj=>?_⟩
  have hlt:=(NT.1 hj).1
  have hv':vs[j]?=some vs[j]:=Od (by omega)
  exact⟨vs[j],by simpa using hv',hv j c _ hj hv',h1 j c hj⟩
theorem fD{c:SV}{cs:List SV}{v:Value}(h:bV c=some cs)(hv:VR w F ρ c v):cs.length=v.cells.size∧aT w F ρ v.cells 0 cs∧c.refs=SV.refs.au cs:=by
 unfold bV at h
 split at h
 ·cases h
  obtain⟨vs,rfl,h1,h2⟩:=eG hv
  exact⟨h1,h2,rfl⟩
 ·rename_i hna
  by_cases hok:c.gU=true
  ·rw[hok]at h
   simp only[N6,N1]at h
   subst h
   have h1:=hv.one hok
   have hc:v.cells= #[v]:=by cases v<;>simp_all [Value.cells,ig]
   rw[hc]
   refine⟨rfl,fun j d hj=>?_,by simp[SV.refs.au]⟩
   cases j with
   |zero=>simp at hj;subst hj;exact⟨v,rfl,hv,hok⟩
   |succ j=>simp at hj
  ·rw[P5]at hok;rw[hok]at h;simp at h
theorem nA{ag:Bool}{n o at_:Nat}{cs:List SV}{s:SV}{vs:Array Value}(h:cG ag n cs o=some s)(hc:aT w F ρ vs at_ cs)
 (hsz:at_+cs.length≤vs.size):(ag=true→VR w F ρ s (.agg (vs.extract (at_+o) (at_+o+n))))∧(ag=false→∃v,vs[at_+o]?=some v∧VR w F ρ s v):=by
 unfold cG at h
 cases ag with
 |false=>
  refine⟨by simp,fun _=>?_⟩
  simp only[Oa]at h
  obtain⟨v,h1,h2,_⟩:=hc o s h
  exact⟨v,h1,h2⟩
 |true=>
  refine⟨fun _=>?_,by simp⟩
  by_cases hle:o+n≤cs.length
  ·simp[hle]at h
   subst h
   have hj:∀j c,((cs.drop o).take n)[j]?=some c→j<n∧cs[o+j]?=some c:=by
    intro j c hj
    rw[Ob]at hj
    split at hj
    ·rw[Ou]at hj;exact⟨by assumption,hj⟩
    ·cases hj
   refine .agg (by simp;omega) (fun j c h=>?_) (fun j c v h hv=>?_)
   ·obtain⟨_,h2⟩:=hj j c h
    obtain⟨_,_,_,h3⟩:=hc _ c h2
    exact h3
   ·obtain⟨hlt,h2⟩:=hj j c h
    obtain⟨v',h3,h4,_⟩:=hc _ c h2
    rw[Qf]at hv
    have:v'=v:=by
     split at hv
     ·rw[←N9]at h3;rw[h3]at hv;exact PZ hv
     ·cases hv
    exact this▸h4
  ·simp[hle]at h
end
end
section
section
variable{P:Program}{w:World}
theorem dZ{t:TypeId}{ag:Bool}(h:gZ P t=some ag):(isAgg t).run P w=.ok ag w:=by
 unfold gZ at h
 cases hu:P.underlying t with
 |none=>rw[hu]at h;cases h
 |some d=>
  rw[hu]at h
  unfold isAgg
  simp only[Sem.run_bind,run_underlying hu,Result.andThen]
  cases d<;>simp at h<;>subst h<;>rfl
theorem aY{t:TypeId}{n:Nat}(h:eO P t=some n):(sizeOf t).run P w=.ok n w:=by
 unfold eO at h
 simp only[NP]at h
 obtain⟨i,hi,rfl⟩:=h
 unfold sizeOf
 simp only[Sem.run_bind,run_typeInfo w hi,Result.andThen]
 rfl
theorem cB(B o j:Nat):(⟨B,o,none⟩:Addr).add j=⟨B,o+j,none⟩:=by unfold Addr.add;split<;>simp_all
theorem ku{B o:Nat}{vs:Array Value}{ty:TypeId}{fz:Nat×Nat}(h:w.heap[B]?=some (.cells vs ty fz)):w.cell? ⟨B,o,none⟩=vs[o]?:=by
 simp[World.cell?,h]
theorem iQ{t:TypeId}{ag:Bool}{n:Nat}(hag:gZ P t=some ag)(hsz:eO P t=some n){B o:Nat}(f:Nat→Value)
 (hc:∀j,j<(if ag then n else 1)→w.cell? ⟨B,o+j,none⟩=some (f j)) :
 (loadVar t ⟨B,o,none⟩).run P w=.ok (if ag then .agg ((List.range n).map f).toArray else f 0) w:=by
 unfold loadVar
 simp only[Sem.run_bind,dZ hag,Result.andThen]
 cases ag with
 |true=>
  simp only[if_true]at hc⊢
  simp only[Sem.run_bind,aY hsz,Result.andThen,run_loadCells w ⟨B,o,none⟩ n f (fun j hj=>by rw[cB];exact hc j hj)]
  rfl
 |false=>
  have:=hc 0 (by simp)
  simp only[Ph]at this
  simp only[Pc,if_false,run_load,this]
theorem nN{t:TypeId}{ag:Bool}{n:Nat}(hag:gZ P t=some ag)(hsz:eO P t=some n){B o:Nat}{vs:Array Value}{ty:TypeId}{fz:Nat×Nat}
 (hb:w.heap[B]?=some (.cells vs ty fz)) (hle:o+(if ag then n else 1)≤vs.size) :
 (ag=true→(loadVar t ⟨B,o,none⟩).run P w=.ok (.agg (vs.extract o (o+n))) w)∧(ag=false→∀v,vs[o]?=some v→(loadVar t ⟨B,o,none⟩).run P w=.ok v w):=by
 have h:=iQ (w:=w) hag hsz (B:=B) (o:=o) (fun j=>vs.getD (o+j) undef) (fun j hj=>by
  rw[ku hb]
  have:o+j<vs.size:=by omega
  simp[this])
 constructor
 ·rintro rfl
  rw[h]
  simp only[if_true]at hle⊢
  congr 2
  apply Array.ext
  ·simp;omega
  ·intro i h1 h2
   simp at h1
   have:o+i<vs.size:=by omega
   simp[this]
 ·rintro rfl v hv
  rw[h]
  simp[hv]
def kp(vs:Array Value)(k:Nat)(xs:List Value):Array Value:=(vs.toList.take k++xs++vs.toList.drop (k+xs.length)).toArray
def et(w:World)(B:Nat)(vs:Array Value)(ty:TypeId)(fz:Nat×Nat):World:={w with heap:=w.heap.setIfInBounds B (.cells vs ty fz)}
theorem fE{B B':Nat}{vs:Array Value}{ty:TypeId}{fz:Nat×Nat}(h:B'≠B):(et w B vs ty fz).heap[B']?=w.heap[B']?:=by
 simp[et,Oz (Ne.symm h)]
theorem o8{B:Nat}{vs:Array Value}{ty:TypeId}{fz:Nat×Nat}:(et w B vs ty fz).heap.size=w.heap.size:=by simp[et]
theorem gr{B:Nat}{vs:Array Value}{ty:TypeId}{fz:Nat×Nat}(h:B<w.heap.size):(et w B vs ty fz).heap[B]?=some (.cells vs ty fz):=by
 simp[et,h]
theorem gQ{vs:Array Value}{k:Nat}{xs:List Value}(h:k+xs.length≤vs.size):(kp vs k xs).size=vs.size:=by
 simp[kp];omega
theorem ik{vs:Array Value}{k:Nat}{xs:List Value}(h:k+xs.length≤vs.size)(j:Nat) :
 (kp vs k xs)[j]?=if j<k then vs[j]? else if j<k+xs.length then xs[j-k]? else vs[j]?:=by
 unfold kp
 simp only[Pu]
 rw[NR,Pa]
 have hl:(vs.toList.take k).length=k:=by simp;omega
 rw[hl]
 split
 ·rw[Ob];simp[*]
 ·rw[Pa]
  split
  ·rw[if_pos (by omega)]
  ·rw[if_neg (by omega),Ou]
   simp only[QQ]
   congr 1;omega
theorem Ca(v:Value):ig v=v.oneCell':=by cases v<;>rfl
theorem cS(B o:Nat)(ty:TypeId)(fz:Nat×Nat):∀(xs:List Value) (i:Nat) (vs:Array Value) (w:World),w.heap[B]?=some (.cells vs ty fz)→iW fz vs.size→
 o+i+xs.length≤vs.size→(∀v∈xs,ig v=true)→(storeCells ⟨B,o,none⟩ xs i).run P w=.ok () (et w B (kp vs (o+i) xs) ty fz)
 |[],i,vs,w,hb,ht,hle,h1=>by
  have hB:B<w.heap.size:=(N8.1 hb).1
  have:kp vs (o+i) []=vs:=by simp[kp]
  rw[this]
  simp only[storeCells]
  have:et w B vs ty fz=w:=by
   unfold et
   have:w.heap.setIfInBounds B (.cells vs ty fz)=w.heap:=by
    apply Qj
    intro j
    by_cases e:B=j
    ·subst e;rw[hb];simp[hB]
    ·rw[Oz e]
   rw[this]
  rw[this];rfl
 |v::r,i,vs,w,hb,ht,hle,h1=>by
  have hB:B<w.heap.size:=(N8.1 hb).1
  simp only[Og]at hle
  have hlt:o+i<vs.size:=by omega
  have hcell:w.cell? ⟨B,o+i,none⟩=some vs[o+i]:=by rw[ku hb];simp[hlt]
  have hfz:w.frozen? ⟨B,o+i,none⟩=false:=by simp only[World.frozen?,hb];exact ht _ hlt
  have bT:w.setCell ⟨B,o+i,none⟩ v=et w B (vs.setIfInBounds (o+i) v) ty fz:=by
   unfold World.setCell et
   congr 1
   apply Qj
   intro j
   by_cases e:B=j
   ·subst e
    have hb':=(N8.1 hb).2
    rw[Qm]
    simp[hb,hB]
    rw[hb']
   ·rw[Oz e]
    simp[Qm,e]
  have hst:(store ((⟨B,o,none⟩:Addr).add i) v).run P w=.ok () (et w B (vs.setIfInBounds (o+i) v) ty fz):=by
   rw[cB,run_store P w _ v _ (by rw[←Ca];exact h1 v (by simp)),hcell]
   simp only[hfz,bT]
   rfl
  have ih:=cS B o ty fz r (i+1) (vs.setIfInBounds (o+i) v) (et w B (vs.setIfInBounds (o+i) v) ty fz) (gr hB) (by simpa using ht) (by simp;omega) (fun x hx=>h1 x (by simp[hx]))
  simp only[storeCells,Sem.run_bind,hst,Result.andThen_ok,ih]
  congr 1
  unfold et
  congr 1
  rw[Array.setIfInBounds_setIfInBounds]
  congr 2
  apply Qj
  intro j
  rw[ik (by simp;omega),ik (by simp;omega)]
  simp only[Og]
  by_cases e1:j<o+i
  ·rw[if_pos (by omega),if_pos e1,Oz (by omega)]
  ·by_cases e2:j=o+i
   ·subst e2
    rw[if_pos (by omega),if_neg (by omega),if_pos (by omega)]
    simp[hlt]
   ·have a1:¬j<o+(i+1):=by omega
    simp only[a1,e1,if_false]
    by_cases e3:j<o+(i+1)+r.length
    ·have e4:j<o+i+(r.length+1):=by omega
     simp only[e3,e4,if_true]
     rw[show j-(o+i)=(j-(o+(i+1)))+1 by omega]
     simp
    ·have e4:¬j<o+i+(r.length+1):=by omega
     simp only[e3,e4,if_false]
     rw[Oz (by omega)]
theorem iF{t:TypeId}{n:Nat}(hsz:eO P t=some n){B o:Nat}{vs:Array Value}{ty:TypeId}{fz:Nat×Nat}{v:Value}
 (hb:w.heap[B]?=some (.cells vs ty fz)) (ht:iW fz vs.size) (hn:v.cells.size=n) (hle:o+n≤vs.size) (h1:∀x∈v.cells.toList,ig x=true) :
 (storeVar t ⟨B,o,none⟩ v).run P w=.ok () (et w B (kp vs o v.cells.toList) ty fz):=by
 unfold storeVar
 simp only[Sem.run_bind,aY hsz,Result.andThen,hn,ne_eq,not_true,if_false]
 have:=cS (P:=P) B o ty fz v.cells.toList 0 vs w hb ht (by simp;omega) h1
 simp only[Ph]at this
 simpa[Sem.run_bind]using this
end
end
section
section
variable{C:Ctx}{ρ:Map}{F:Nat→Prop}{H H':ae}{w:World}{e:Env}{a:Act}{s:SV}
theorem ui{v:Value}{cs:List SV}(h:aT w F ρ v.cells 0 cs)(hn:cs.length=v.cells.size):∀x∈v.cells.toList,ig x=true:=by
 intro x hx
 obtain⟨j,hj,rfl⟩:=List.mem_iff_getElem.1 hx
 simp at hj
 obtain⟨v',h1,h2,h3⟩:=h j _ (N4 (by omega))
 have h4:v'=v.cells.toList[j]:=by
  rw[OY,Od hj]at h1
  simpa using(PZ h1).symm
 rw[←h4]
 exact h2.one h3
theorem pZ(hr:HR C ρ F H w){cs:List SV}{vs:Array Value}{ty:TypeId}(hn:cs.length=vs.size)(hc:aT w F ρ vs 0 cs) :
 cN C ρ F H w (.ptr H.bl.length 0 0 0) (aV H (.box cs)) (.pointer (some ⟨w.heap.size,0,none⟩)) {w with heap:=w.heap.push (.cells vs ty)}:=by
 let l:Loc:={bq:=w.heap.size,base:=0,cap:=0,bg:=cs.length,bU:=0,aL:=false,arr:=false}
 have hh:∀B,B<w.heap.size→({w with heap:=w.heap.push (.cells vs ty)}:World).heap[B]?=w.heap[B]?:=fun B hB=>by
  simp[Pp,PB hB]
 have hk:cK F w ({w with heap:=w.heap.push (.cells vs ty)}:World):=fun B hB=>hh B (hr.fO B hB)
 have hle:ρ.le (ρ.put H.bl.length l):=fun b l' h=>⟨l',by rw[Map.aA _ _ (PB (hr.gY b l' h))];exact h,.inl rfl⟩
 have hp:=hr.push (w':={w with heap:=w.heap.push (.cells vs ty)}) (by simp) hh (.box cs) l (fun _=>⟨NV _,by simp[l]⟩)
  ⟨rfl,rfl,rfl,rfl,rfl,vs,ty,(0,0),by simp[l],fun o ho=>by simp,hn.symm,hc.mono hk (fun _ h=>h) hle⟩
 exact⟨_,F,.ptr (l:=l) (Map.aQ _ _ _) (NV _) rfl (fun _=>⟨rfl,by simp[l]⟩),hp.1,hp.2⟩
theorem vo{x:Operand}{y:bj}(hx:aG x=some y)(hr:HR C ρ F H w)(he:ER w F ρ e a.tmps):aJ C (pure (.value (a.eval x))) ρ F H w (ev e y) H:=
 ⟨a.eval x,w,.inl rfl,cN.same hr (ar hx he)⟩
theorem dC{b:Bool}{v:Value}(h:VR w F ρ (.bool b) v):v=.bool b:=by cases h;rfl
theorem eX{k:IntKind}{n:Int}{v:Value}(h:VR w F ρ (.int k n) v):v=.int k n:=by cases h;rfl
theorem iC{t:ByteArray}{v:Value}(h:VR w F ρ (.str t) v):v=.string t:=by cases h;rfl
theorem yu{c x y:Operand}{c' x' y':bj}(hc:aG c=some c')(hx:aG x=some x')(hy:aG y=some y')(hr:HR C ρ F H w)(he:ER w F ρ e a.tmps)
 (h:iX (ev e c') (ev e x') (ev e y')=some s):aJ C (do pure (.value (if←asBool (a.eval c)then a.eval x else a.eval y))) ρ F H w s H:=by
 have h1:=ar hc he
 have h2:=ar hx he
 have h3:=ar hy he
 generalize ev e c'=c1,ev e x'=x1,ev e y'=y1 at *
 have key:∀t,c1=.bool t→VR w F ρ s (if t then a.eval x else a.eval y)→aJ C (do pure (.value (if←asBool (a.eval c)then a.eval x else a.eval y))) ρ F H w s H:=by
  intro t ht hv
  subst ht
  rw[dC h1]
  exact⟨_,w,.inl rfl,cN.same hr hv⟩
 have ht:∃t,c1=.bool t:=by
  unfold iX at h
  split at h
  ·exact⟨_,rfl⟩
  ·exact⟨_,rfl⟩
  ·cases h
 obtain⟨t,rfl⟩:=ht
 refine key t rfl ?_
 unfold iX at h
 split at h
 ·rename_i h0
  cases h
  cases h0
  rw[dC h2,dC h3]
  cases t<;>exact .bool _
 ·rename_i t' heq _
  cases heq
  cases t<;>simp at h<;>subst h<;>assumption
 ·cases h
theorem Cw{t:TypeId}{x:Operand}{y:bj}(hx:aG x=some y)(hr:HR C ρ F H w)(he:ER w F ρ e a.tmps){cs:List SV}(h:bV (ev e y)=some cs) :
 aJ C (do pure (.value (←Instr.box t (a.eval x)))) ρ F H w (.ptr H.bl.length 0 0 0) (aV H (.box cs)):=by
 obtain⟨h1,h2,_⟩:=fD h (ar hx he)
 refine aJ.mZ (w':={w with heap:=w.heap.push (.cells (a.eval x).cells t)}) ?_ (pZ hr h1 h2)
 simp[Instr.box,newVar,newRow,newObj,Sem.run]
theorem fe{t:TypeId}{z:List SV}(h:fw C.P t=some z):∃i v,C.P.info? t=some i∧i.zero=some v∧z.length=v.cells.size∧aT w F ρ v.cells 0 z:=by
 unfold fw at h
 split at h
 ·rename_i i hi
  split at h
  ·rename_i v hv
   simp only[NS]at h
   obtain⟨r,h1,h2⟩:=h
   by_cases hok:r.all SV.gU=true
   ·rw[hok]at h2
    simp only[N6,N1]at h2
    subst h2
    obtain⟨hl,hp⟩:=cY h1
    refine⟨i,v,hi,hv,by simpa using hl,fun j c hj=>?_⟩
    have hlt:=(NT.1 hj).1
    have hlt':j<v.cells.size:=by simp at hl;omega
    have hv':v.cells[j]?=some v.cells[j]:=Od hlt'
    exact⟨v.cells[j],by simpa using hv',pA 1 (hp j _ c (by simpa using hv') hj),N5.1 hok c (Ok hj)⟩
   ·rw[P5]at hok;rw[hok]at h2;simp at h2
  ·cases h
 ·cases h
theorem cP{t:TypeId}{i:TypeInfo}{v:Value}(hi:C.P.info? t=some i)(hz:i.zero=some v):(zeroValue t).run C.P w=.ok v w:=by
 unfold zeroValue
 simp only[Sem.run_bind,run_typeInfo w hi,Result.andThen,hz]
 rfl
theorem wk{t:TypeId}{z:List SV}(hz:fw C.P t=some z)(hr:HR C ρ F H w) :
 aJ C (do pure (.value (←Instr.alloc t true (.tuple #[])))) ρ F H w (.ptr H.bl.length 0 0 0) (aV H (.box z)):=by
 obtain⟨i,v,hi,hv,h1,h2⟩:=fe (w:=w) (F:=F) (ρ:=ρ) hz
 refine aJ.mZ (w':={w with heap:=w.heap.push (.cells v.cells t)}) ?_ (pZ hr h1 h2)
 simp[Instr.alloc,cP hi hv,newVar,newRow,newObj,Sem.run]
end
end
end Go.Sh
