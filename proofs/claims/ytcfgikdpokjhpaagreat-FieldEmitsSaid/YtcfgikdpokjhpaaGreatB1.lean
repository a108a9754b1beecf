/- A part of the proof: texts ShA, ShB, ShC, ShD, ShE, ShF, ShG, ShH, ShI, ShJ, ShK, ShL, ShM, ShN, ShO, ShP, ShQ, ShR, ShRa, ShRb, ShRc, ShRd, ShS, ShT. -/
import GoSem.Step
import Derived.Attr
import Derived.RangeFuncLeaves
import Derived.RangeFuncCalls
import Derived.Laws.Sem
import Derived.Laws.Cells
import Derived.Laws.Entries
import Derived.ChangeKeysEq
import Derived.Laws.StructEq
import Derived.Laws.Append
import Derived.MapKept
namespace Go.Sh
set_option linter.unusedSectionVars false
set_option linter.unnecessarySimpa false
set_option linter.unusedSimpArgs false
set_option linter.unusedVariables false
set_option maxRecDepth 100000
set_option maxHeartbeats 4000000
section
abbrev Y8:=@List.getElem?_eq_some_iff
abbrev Y9:=@List.length_append
abbrev Za:=@List.append_assoc
abbrev Zb:=@Option.map_eq_some_iff
abbrev Zc:=@decide_eq_true
abbrev Zd:=@Option.bind_eq_some_iff
abbrev Ze:=@decide_eq_true_eq
abbrev Zf:=@decide_eq_false
abbrev Zg:=@List.getElem?_set_ne
abbrev Zh:=@Bool.and_eq_true
abbrev Zi:=@decide_eq_false_iff_not
abbrev Zj:=@List.mem_of_getElem?
abbrev Zk:=@Nat.add_assoc
abbrev Zl:=@Nat.lt_or_ge
abbrev Zm:=@List.getElem?_append_left
abbrev Zn:=@List.filter_replicate
abbrev Zo:=@Int.toNat_of_nonneg
abbrev Zp:=@Nat.le_refl
abbrev Zq:=@List.getElem?_eq_getElem
abbrev Zr:=@cond_true
abbrev Zs:=@Option.some.injEq
abbrev Zt:=@List.all_replicate
abbrev Zu:=@cond_false
abbrev Zv:=@List.length_set
abbrev Zw:=@List.length_cons
abbrev Zx:=@List.length_nil
abbrev Zy:=@Prod.mk.injEq
abbrev Zz:=@List.getElem?_set_self
abbrev ZA:=@List.all_eq_true
abbrev ZB:=@List.filter_append
abbrev ZC:=@List.getElem?_take
abbrev ZD:=@Bool.and_self
abbrev ZE:=@of_decide_eq_true
abbrev ZF:=@List.mem_range
abbrev ZG:=@Array.getElem?_eq_some_iff
abbrev ZH:=@List.getElem?_of_mem
abbrev ZI:=@List.mem_cons_self
abbrev ZJ:=@Bool.false_and
abbrev ZK:=@Bool.not_eq_true'
abbrev ZL:=@List.all_append
abbrev ZM:=@List.take_of_length_le
abbrev ZN:=@Nat.le_trans
abbrev ZO:=@List.map_cons
abbrev ZP:=@Bool.true_and
abbrev ZQ:=@Option.map_some
abbrev ZR:=@List.getElem?_append_right
abbrev ZS:=@List.mem_cons_of_mem
abbrev ZT:=@List.getElem?_drop
abbrev ZU:=@List.mem_cons
abbrev ZV:=@Option.bind_some
abbrev ZW:=@List.append_nil
abbrev ZX:=@Int.toNat_natCast
abbrev ZY:=@Bool.false_eq_true
abbrev ZZ:=@List.nil_append
abbrev Z0:=@Array.getElem?_setIfInBounds_ne
abbrev Z1:=@List.mem_append
abbrev Z2:=@Bool.and_false
abbrev Z3:=@List.mem_map
abbrev Z4:=@Array.getElem?_eq_getElem
abbrev Z5:=@List.cons_append
abbrev Z6:=@Bool.or_eq_true
abbrev Z7:=@List.getD_eq_getElem?_getD
abbrev Z8:=@List.length_take
abbrev Z9:=@Nat.mul_le_mul_right
abbrev aaa:=@List.take_append_drop
abbrev aab:=@List.mem_singleton
abbrev aac:=@Nat.add_mul
abbrev aad:=@List.foldl_cons
abbrev aae:=@Nat.zero_add
abbrev aaf:=@Nat.lt_of_lt_of_le
abbrev aag:=@List.pairwise_cons
abbrev aah:=@beq_iff_eq
abbrev aai:=@Bool.not_true
abbrev aaj:=@List.take_length
abbrev aak:=@of_decide_eq_false
abbrev aal:=@Array.getD_eq_getD_getElem?
abbrev aam:=@Bool.eq_iff_iff
abbrev aan:=@List.eq_nil_of_length_eq_zero
abbrev aao:=@List.getElem?_eq_none
abbrev aap:=@Nat.min_eq_left
abbrev aaq:=@decide_true
abbrev aar:=@List.getElem?_append
abbrev aas:=@List.mem_append_left
abbrev aat:=@List.getElem?_map
abbrev aau:=@List.any_eq_false
abbrev aav:=@List.any_eq_true
abbrev aaw:=@Bool.or_eq_false_iff
abbrev aax:=@List.getElem?_cons_zero
abbrev aay:=@Bool.false_or
abbrev aaz:=@beq_self_eq_true
abbrev aaA:=@List.mem_filter
abbrev aaB:=@List.set_append_left
abbrev aaC:=@Option.getD_some
abbrev aaD:=@Int.mul_le_mul_of_nonneg_left
abbrev aaE:=@List.take_add_one
abbrev aaF:=@Bool.not_false
abbrev aaG:=@List.pairwise_append
abbrev aaH:=@List.nodup_append
abbrev aaI:=@Int.tdiv_eq_ediv_of_nonneg
abbrev aaJ:=@beq_eq_false_iff_ne
abbrev aaK:=@List.drop_eq_getElem_cons
abbrev aaL:=@Nat.lt_trichotomy
abbrev aaM:=@Int.tmod_eq_emod_of_nonneg
abbrev aaN:=@Nat.add_zero
abbrev aaO:=@List.drop_of_length_le
abbrev aaP:=@Classical.byContradiction
abbrev aaQ:=@Array.getElem?_push
abbrev aaR:=@List.replicate_succ
abbrev aaS:=@Nat.ne_of_lt
abbrev aaT:=@List.getElem?_toArray
abbrev aaU:=@Bool.and_eq_false_iff
abbrev aaV:=@Option.some.inj
abbrev aaW:=@Nat.one_mul
abbrev aaX:=@List.nodup_cons
abbrev aaY:=@Nat.le_of_eq
abbrev aaZ:=@List.length_eq_one_iff
abbrev aa0:=@List.getElem?_range
abbrev aa1:=@List.replicate_zero
abbrev aa2:=@List.ext_getElem?
abbrev aa3:=@Bool.or_false
abbrev aa4:=@Array.eq_empty_of_size_eq_zero
abbrev aa5:=@List.mem_append_right
abbrev aa6:=@Bool.not_eq_true
abbrev aa7:=@List.getElem?_replicate
abbrev aa8:=@List.filter_cons_of_pos
abbrev aa9:=@Bool.and_true
abbrev aba:=@Nat.max_zero
abbrev abb:=@Array.length_toList
abbrev abc:=@Nat.zero_le
abbrev abd:=@Int.fdiv_eq_ediv_of_nonneg
abbrev abe:=@decide_eq_decide
abbrev abf:=@List.map_nil
abbrev abg:=@List.singleton_append
abbrev abh:=@Bool.true_or
abbrev abi:=@List.drop_zero
abbrev abj:=@List.exists_mem_of_ne_nil
abbrev abk:=@Int.le_refl
abbrev abl:=@Nat.pow_le_pow_right
abbrev abm:=@decide_false
abbrev abn:=@Bool.or_true
abbrev abo:=@Bool.or_self
abbrev abp:=@Nat.lt_irrefl
abbrev abq:=@Int.eq_ofNat_of_zero_le
abbrev abr:=@List.take_zero
abbrev abt:=@Array.getElem?_eq_none
abbrev abu:=@Array.ext_getElem?
abbrev abv:=@Bool.not_eq_false'
abbrev abw:=@Option.isSome_some
abbrev abx:=@Option.map_none
abbrev aby:=@Classical.choose_spec
abbrev abz:=@BitVec.xor_zero
abbrev abA:=@List.getElem?_set
abbrev abB:=@Array.getElem?_append_left
abbrev abC:=@BitVec.getLsbD_ushiftRight
abbrev abD:=@List.getElem?_mapIdx
abbrev abE:=@List.mem_of_mem_take
abbrev abF:=@Bool.and_eq_true_iff
abbrev abG:=@List.pairwise_iff_getElem
abbrev abH:=@List.mem_flatten
abbrev abI:=@List.map_toArray
abbrev abJ:=@Nat.zero_mul
abbrev abK:=@BitVec.getLsbD_shiftLeft
abbrev abL:=@Nat.zero_max
abbrev abM:=@List.set_set
abbrev abN:=@List.getElem?_cons_succ
abbrev abO:=@Nat.add_sub_cancel
abbrev abP:=@Nat.add_sub_cancel_left
abbrev abQ:=@Int.natCast_pow
abbrev abR:=@BitVec.toNat_ofInt
abbrev abS:=@List.mem_replicate
abbrev abT:=@Array.getElem?_extract
abbrev abU:=@List.flatten_cons
abbrev abV:=@List.reverse_cons
abbrev abW:=@List.length_range
abbrev abX:=@List.nodup_nil
abbrev abY:=@Array.getElem?_toList
abbrev abZ:=@Array.getElem?_modify
abbrev ab0:=@Nat.mul_comm
abbrev ab1:=@List.mem_iff_getElem?
abbrev ab2:=@List.eq_nil_or_concat
abbrev ab3:=@List.nodup_range
abbrev ab4:=@List.length_drop
abbrev ab5:=@List.range_eq_range'
abbrev ab6:=@List.mem_of_mem_drop
abbrev ab7:=@Int.ofNat.inj
abbrev ab8:=@List.length_pos_iff
abbrev ab9:=@List.length_map
abbrev aca:=@List.cons.injEq
abbrev acb:=@BitVec.xor_self
abbrev acd:=@Nat.lt_or_gt_of_ne
abbrev ace:=@Int.cast_ofNat_Int
abbrev acf:=@Int.emod_lt_of_pos
abbrev acg:=@Option.isSome_none
abbrev ach:=@Nat.mul_le_mul
abbrev aci:=@UInt8.toNat_lt
abbrev acj:=@List.take_left
abbrev acm:=@List.drop_left
abbrev acn:=@List.foldl_append
abbrev aco:=@Bool.eq_false_iff
abbrev acp:=@List.any_cons
abbrev acq:=@List.foldlM_cons
abbrev acr:=@Nat.mod_eq_of_lt
abbrev acs:=@BitVec.toNat_and
abbrev acu:=@Nat.add_comm
abbrev acv:=@Int.mul_comm
abbrev acw:=@Nat.sub_self
abbrev acx:=@Int.le_trans
abbrev acy:=@List.any_map
abbrev acz:=@Int.emod_nonneg
abbrev acA:=@Int.natCast_mul
abbrev acB:=@Nat.mod_lt
abbrev acD:=@Bool.and_assoc
abbrev acF:=@List.foldl_nil
abbrev acG:=@Int.mul_nonneg
inductive SV where
 |undef
 |iz
 |bool (b:Bool)
 |int (k:IntKind) (n:Int)
 |str (s:ByteArray)
 |cY
 |ptr (b cw i o:Nat)
 |fE (cs:List SV)
 |aA (z:Nat) (L:List (List SV)) (full:Bool)
 |bp (b cw off len:Nat)
 |agg (cs:List SV)
 |ba (vs:List SV)
 |fn (f:FuncId) (caps:List SV)
 |oC (f:FuncId) (firsts:List SV)
 |c0
 |fp (b:Nat)
 |mp (b:Nat)
 deriving Inhabited
inductive bU where
 |t (n:Nat)
 |c (v:SV)
inductive LK where|b|i|s
inductive NK where|p|f|s
inductive kQ where
 |eb (x:bU)
 |pick (c a b:bU)
 |box (x:bU)
 |alloc (z:List SV)
 |nX (z:Nat)
 |build (z:List SV) (ps:List (Nat×Nat×bU))
 |fB (bP:Nat) (z:List SV) (n:Nat) (ps:List (Nat×bU))
 |dW (bP:Nat) (z:List SV) (n:Nat) (ps:List (Nat×bU))
 |load (ag:Bool) (n:Nat) (a:bU)
 |store (n:Nat) (a x:bU)
 |dS (x:bU)
 |bin (op:BinOp) (x y:bU)
 |qf (op:BinOp) (x y:bU)
 |dH (neg:Bool) (sh:List LK) (x y:bU)
 |dQ (x:bU)
 |isNil (k:NK) (neg:Bool) (x:bU)
 |vi (x:bU)
 |cq (k:IntKind) (x:bU)
 |ra (x:bU)
 |jq (x:bU)
 |qh (x:bU)
 |gV (f:FuncId) (cs:List bU)
 |kX (f:FuncId) (cs:List bU)
 |dJ (bP:Nat) (z:List SV) (bytes:Nat) (l c:bU)
 |gU (bP:Nat) (x:bU) (lo hi mx:Option bU)
 |nS (x:bU) (lo hi:Option bU)
 |ai (off:Nat) (x:bU)
 |field (ag:Bool) (n off:Nat) (x:bU)
 |bu (bP:Nat) (x ix:bU)
 |gj (len bP:Nat) (x ix:bU)
 |nH (ag:Bool) (n len:Nat) (x ix:bU)
 |fJ (x ix:bU)
 |extract (x:bU) (i:Nat)
 |len (x:bU)
 |fw (x:bU)
 |zg (n:Nat)
 |jM (xs:List bU)
 |mW (xs:List bU)
 |append (bP bytes:Nat) (s x:bU)
 |oY (s x:bU)
 |copy (bP:Nat) (d x:bU)
 |clear (bP:Nat) (z:List SV) (x:bU)
 |mY
 |mu (t:LK) (x k v:bU)
 |kf (t:LK) (ok:Bool) (z:SV) (x k:bU)
 |call (f:bU) (xs:List bU)
 |eE (f:FuncId) (n:Nat) (xs:List bU)
 |iW (f:FuncId) (xs:List bU)
 |bad
inductive DK where|pure|gl|jE|wr (rd:List (bU×Nat))
structure bE where
 kind:DK
 eU:List Nat
 wi:Nat
 kq:Nat
structure aK where
 dst:Option Nat
 op:kQ
 g:Option (Nat×Bool)
structure ct where
 live:List Nat
 bB:List (Nat×Nat)
inductive kT where|normal|exit (id:Nat)|ret
inductive cn where
 |skip
 |ops (l:List aK)
 |drawn (l:List (aK×bE))
 |perm (l:List aK) (os:List (List Nat))
 |seq (a b:cn)
 |cond (c:bU) (a b:cn)
 |block (id:Nat) (a:cn)
 |loop (p:ct) (a:cn)
 |freeze (t:Nat)
 |bB (vs:List (Nat×Nat))
 |Nc (d:Nat) (neg:Bool) (x:bU) (c:cn)
 |gT (f:bU) (ps:List Nat) (assign body:cn)
 |ext (k:Nat)
 |exit (id:Nat)
 |ret
abbrev Env:=List (Nat×SV)
structure eN where
 env:Env
 ps:List Nat
 assign:cn
 body:cn
inductive aD where
 |dead
 |box (cs:List SV)
 |arr (cw z:Nat) (L:List (List SV)) (exact:Bool)
 |loop (r:eN) (st:LoopState) (pend:kT)
 |map (es:List (SV×SV))
structure ab where
 bl:List aD
 bQ:List (Nat×Nat)
 ro:Nat
inductive Ow where|fn (f:FuncId)|fp (b:Nat)|rW (f:FuncId)
abbrev Rec:=Ow→List SV→ab→Option (SV×ab)
inductive u9 where|tmp (t:Nat)|cell (t:Nat)(ag:Bool)(n:Nat)
structure aC where
 res:List u9
 body:cn
 keep:Bool
def SV.iu:SV→Bool
 | .undef=>false
 | .iz=>false
 | .agg _=>false
 | .ba _=>false
 |_=>true
def cm:SV→Option (List SV)
 | .agg cs=>some cs
 |v=>bif v.iu then some [v]else none
def SV.refs:SV→Nat
 | .ptr b _ _ _=>b+1
 | .bp b _ _ _=>b+1
 | .fp b=>b+1
 | .mp b=>b+1
 | .agg cs=>au cs
 | .ba cs=>au cs
 | .fn _ cs=>au cs
 | .oC _ cs=>au cs
 |_=>0
where au:List SV→Nat
 |[]=>0
 |v::vs=>max v.refs (au vs)
def get:Env→Nat→SV
 |[],_=>.undef
 |(j,v)::e,i=>bif i==j then v else get e i
def ev(e:Env):bU→SV
 | .t n=>get e n
 | .c v=>v
def bk(H:ab)(b:Nat):Option aD:=H.bl[b]?
def cp(H:ab)(b:Nat)(x:aD)(refs:Nat):Option ab:=
 bif decide (H.ro≤b)&&decide (b<H.bl.length)then some {H with bl:=H.bl.set b x,bQ:=bif decide (refs≤b+1)then H.bQ else(b,refs)::H.bQ} else none
def bH(H:ab)(x:aD):ab:={H with bl:=H.bl++[x]}
def nr(z:Nat)(H:ab):SV→Option (List (List SV))
 | .aA z' L _=>bif z'==z||L.isEmpty then some L else none
 | .bp b v off n=>match bk H b with
   |some (.arr v' z' L _)=>bif v==v'&&z'==z&&decide (off+n≤L.length)then some ((L.drop off).take n)else none
   |_=>none
 |_=>none
def oM:SV→Option Nat
 | .aA _ L _=>some L.length
 | .bp _ _ _ n=>some n
 |_=>none
def cS(ag:Bool)(n:Nat)(cs:List SV)(o:Nat):Option SV:=
 bif ag then(bif decide (o+n≤cs.length)then some (.agg ((cs.drop o).take n))else none)else cs[o]?
def fc(cs:List SV)(o n:Nat)(x:List SV):List SV:=cs.take o++x++cs.drop (o+n)
def ke:SV→SV→SV→Option SV
 | .bool t,.bool x,.bool y=>some (.bool (bif t then x else y))
 | .bool t,x,y=>bif t then some x else some y
 |_,_,_=>none
def gE(ev:bU→SV):List SV→List (Nat×Nat×bU)→Option (List SV)
 |z,[]=>some z
 |z,(off,n,x)::ps=>
  (cm (ev x)).bind fun cs=>bif cs.length==n&&decide (off+n≤z.length)then gE ev (fc z off n cs) ps else none
def eJ(ev:bU→SV)(bP:Nat):List (List SV)→List (Nat×bU)→Option (List (List SV))
 |z,[]=>some z
 |z,(i,x)::ps=>(cm (ev x)).bind fun cs=>bif cs.length==bP&&decide (i<z.length)then eJ ev bP (z.set i cs) ps else none
def cW(ag:Bool)(n:Nat)(H:ab):SV→Option SV
 | .ptr b v i o=>match bk H b with
   |some (.box cs)=>bif i==0 then cS ag n cs o else none
   |some (.arr v' _ L _)=>bif v==v' then match L[i]? with
    |some cs=>cS ag n cs o
    |none=>none else none
   |_=>none
 | .fE cs=>cS ag n cs 0
 |_=>none
def dP(n:Nat)(H:ab)(x:SV):SV→Option ab
 | .ptr b v i o=>(cm x).bind fun xs=>bif xs.length==n then match bk H b with
   |some (.box cs)=>bif i==0&&decide (o+n≤cs.length)then cp H b (.box (fc cs o n xs)) x.refs else none
   |some (.arr v' z L e)=>bif v==v' then match L[i]? with
    |some cs=>bif decide (o+n≤cs.length)then cp H b (.arr v z (L.set i (fc cs o n xs)) e) x.refs else none
    |none=>none else none
   |_=>none else none
 |_=>none
def cL:BinOp→SV→SV→Option SV
 | .add,.int k a,.int k2 b=>bif k==k2 then some (.int k (k.wrap (a+b)))else none
 | .sub,.int k a,.int k2 b=>bif k==k2 then some (.int k (k.wrap (a-b)))else none
 | .mul,.int k a,.int k2 b=>bif k==k2 then some (.int k (k.wrap (a*b)))else none
 | .quo,.int k a,.int k2 b=>bif k==k2&&!decide (b=0)then some (.int k (k.wrap (a.tdiv b)))else none
 | .rem,.int k a,.int k2 b=>bif k==k2&&!decide (b=0)then some (.int k (a.tmod b))else none
 | .and,.int k a,.int k2 b=>bif k==k2 then some (.int k (k.wrap ((BitVec.ofInt k.bits a&&&BitVec.ofInt k.bits b).toNat)))else none
 | .or,.int k a,.int k2 b=>bif k==k2 then some (.int k (k.wrap ((BitVec.ofInt k.bits a|||BitVec.ofInt k.bits b).toNat)))else none
 | .xor,.int k a,.int k2 b=>bif k==k2 then some (.int k (k.wrap ((BitVec.ofInt k.bits a ^^^ BitVec.ofInt k.bits b).toNat)))else none
 | .shl,.int k a,.int _ b=>bif decide (0≤b)then some (.int k (k.wrap (a*2 ^ (min b.toNat k.bits))))else none
 | .shr,.int k a,.int _ b=>bif decide (0≤b)then some (.int k (a.fdiv (2 ^ (min b.toNat k.bits))))else none
 | .lss,.int k a,.int k2 b=>bif k==k2 then some (.bool (decide (a<b)))else none
 | .leq,.int k a,.int k2 b=>bif k==k2 then some (.bool (decide (a≤b)))else none
 | .gtr,.int k a,.int k2 b=>bif k==k2 then some (.bool (decide (b<a)))else none
 | .geq,.int k a,.int k2 b=>bif k==k2 then some (.bool (decide (b≤a)))else none
 | .eql,.int k a,.int k2 b=>bif k==k2 then some (.bool (decide (a=b)))else none
 | .neq,.int k a,.int k2 b=>bif k==k2 then some (.bool (!decide (a=b)))else none
 | .eql,.str a,.str b=>some (.bool (decide (a=b)))
 | .neq,.str a,.str b=>some (.bool (!decide (a=b)))
 | .add,.str a,.str b=>bif decide (a.size+b.size≤4611686018427387904)then some (.str (a++b))else none
 |_,_,_=>none
def n8:BinOp→SV→SV→Option SV
 | .eql,.bool a,.bool b=>some (.bool (a==b))
 | .neq,.bool a,.bool b=>some (.bool (!(a==b)))
 |_,_,_=>none
def bw:List LK→List SV→List SV→Option Bool
 |[],[],[]=>some true
 | .i::sh,.int k a::x,.int k2 b::y=>bif k==k2 then(bw sh x y).map (fun r=>decide (a=b)&&r)else none
 | .b::sh,.bool a::x,.bool b::y=>(bw sh x y).map (fun r=>(a==b)&&r)
 | .s::sh,.str a::x,.str b::y=>(bw sh x y).map (fun r=>decide (a=b)&&r)
 |_,_,_=>none
def iD(n:Nat):SV→Option Nat
 | .int _ i=>bif decide (0≤i)&&decide (i<(n:Int))then some i.toNat else none
 |_=>none
def AY(y:Nat):SV→Option Nat
 | .int _ i=>bif decide (0≤i)&&decide (i≤(y:Int))then some i.toNat else none
 |_=>none
def gd(y d:Nat):Option SV→Option Nat
 |none=>some d
 |some v=>AY y v
def iq(v:SV)(ix:SV):Option SV:=match v with
 | .aA _ L _=>(iD L.length ix).bind fun i=>(L[i]?).map .fE
 | .bp b v off n=>(iD n ix).map fun i=>.ptr b v (off+i) 0
 |_=>none
def lV(x:SV)(lo hi mx:Option SV):Option SV:=match x with
 | .aA z L f=>(gd L.length L.length mx).bind fun m=>(gd m L.length hi).bind fun h=>(gd h 0 lo).map fun l=>
    .aA z ((L.take h).drop l) (match mx with|none=>f&&h==L.length|some _=>m==h)
 | .bp b v off n=>match mx with
   |none=>(gd n n hi).bind fun h=>(gd h 0 lo).map fun l=>.bp b v (off+l) (h-l)
   |some _=>(gd n n mx).bind fun m=>(gd m n hi).bind fun h=>(gd h 0 lo).bind fun l=>some (bif m==l then .aA 0 [] true else .undef)
 |_=>none
def im(H:ab)(x:SV)(lo hi mx:Option SV):Option SV:=match x,hi,mx with
 | .bp b v off _,some hv,none=>match bk H b with
   |some (.arr _ _ L _)=>(AY (L.length-off) hv).bind fun h=>(gd h 0 lo).map fun l=>.bp b v (off+l) (h-l)
   |_=>none
 |_,_,_=>none
def tf(s:ByteArray)(lo hi:Option SV):Option SV:=
 (gd s.size s.size hi).bind fun h=>(gd h 0 lo).map fun l=>.str (s.extract l h)
def foldI(f:Int→Int→Int):Int→IntKind→List SV→Option SV
 |a,k,[]=>some (.int k a)
 |a,k,.int k2 b::r=>bif k==k2 then foldI f (f a b) k r else none
 |_,_,_=>none
def jU(f:Int→Int→Int):List SV→Option SV
 | .int k a::r=>foldI f a k r
 |_=>none
def ch:Nat:=1099511627776
def gn(bP bytes:Nat)(H:ab)(s:SV)(X:List (List SV)):Option (SV×ab):=match s with
 | .aA z L f=>bif decide ((L.length+X.length)*bytes≤ch)then match L,X with
   |[],X=>bif f then some (.bp H.bl.length 0 0 X.length,bH H (.arr 0 bP X false))else none
   |L,[]=>some (.aA z L f,H)
   |L,X=>bif f&&z==bP then some (.bp H.bl.length 0 0 (L.length+X.length),bH H (.arr 0 bP (L++X) false))else none else none
 | .bp b v off n=>bif decide ((n+X.length)*bytes≤ch)then match bk H b with
   |some (.arr v' z L e)=>bif v==v'&&z==bP&&decide (off+n≤L.length)then
     bif !e&&off==0&&n==L.length then
      (cp H b (.arr (v+1) z (L++X) false) (SV.refs.au X.flatten)).map fun H=>(.bp b (v+1) off (n+X.length),H)
     else bif decide (off+n+X.length≤L.length)then
      (cp H b (.arr v z (L.take (off+n)++X++L.drop (off+n+X.length)) e) (SV.refs.au X.flatten)).map fun H=>(.bp b v off (n+X.length),H)
     else bif e then some (.bp H.bl.length 0 0 (n+X.length),bH H (.arr 0 z ((L.drop off).take n++X) false))
     else none
    else none
   |_=>none else none
 |_=>none
def lG(s:ByteArray):List (List SV):=s.data.toList.map fun b=>[.int .u8 b.toNat]
def toBytes:List (List SV)→Option (List UInt8)
 |[]=>some []
 |[.int .u8 n]::r=>(toBytes r).map fun l=>UInt8.ofNat n.toNat::l
 |_=>none
def z6(bP:Nat)(H:ab)(X:List (List SV)):SV→Option (SV×ab)
 | .bp b v off n=>match bk H b with
   |some (.arr v' z L e)=>bif v==v'&&z==bP&&decide (off+n≤L.length)then
     (cp H b (.arr v z (L.take off++X.take n++L.drop (off+min X.length n)) e) (SV.refs.au X.flatten)).map fun H=>(.int .i64 (min X.length n:Nat),H)
    else none
   |_=>none
 |_=>none
def v5(bP:Nat)(z:List SV)(H:ab):SV→Option (SV×ab)
 | .aA _ [] _=>some (.undef,H)
 | .bp b v off n=>match bk H b with
   |some (.arr v' z' L e)=>bif v==v'&&z'==bP&&decide (off+n≤L.length)then
     (cp H b (.arr v z' (L.take off++List.replicate n z++L.drop (off+n)) e) 0).map fun H=>(.undef,H)
    else none
   |_=>none
 |_=>none
def mF(bP:Nat)(z:List SV)(bytes:Nat)(H:ab):SV→SV→Option (SV×ab)
 | .int .i64 l,.int .i64 c=>bif decide (0≤l)&&decide (l≤c)&&decide (c*bytes≤ch)then
    some (.bp H.bl.length 0 0 l.toNat,bH H (.arr 0 bP (List.replicate c.toNat z) true))else none
 |_,_=>none
def eY(off:Nat):SV→Option SV
 | .ptr b v i o=>some (.ptr b v i (o+off))
 | .fE cs=>some (.fE (cs.drop off))
 |_=>none
def cur(H:ab):SV→Bool
 | .ptr b v _ _=>match bk H b with
   |some (.box _)=>true
   |some (.arr v' _ _ _)=>v==v'
   |_=>false
 | .bp b v _ _=>match bk H b with
   |some (.arr v' _ _ _)=>v==v'
   |_=>false
 |_=>true
def dY(H:ab)(z:Nat):SV→Bool
 | .bp b v _ _=>match bk H b with
   |some (.arr v' z' _ _)=>v==v'&&z'==z
   |_=>false
 | .aA z' L _=>z'==z||L.isEmpty
 |_=>false
def kr:SV→Option SV
 | .ptr b v i o=>some (.ptr b v i o)
 | .fE cs=>some (.fE cs)
 |_=>none
def fG(H:ab):NK→SV→Option Bool
 | .p,.cY=>some true
 | .p,.ptr b v i o=>bif cur H (.ptr b v i o)then some false else none
 | .p,.fE _=>some false
 | .f,.c0=>some true
 | .f,.fn _ _=>some false
 | .f,.fp _=>some false
 | .s,.aA _ L _=>bif L.isEmpty then none else some false
 | .s,.bp b v off n=>bif cur H (.bp b v off n)&&decide (0<n)then some false else none
 |_,_=>none
def Ei(H:ab):SV→Option Bool
 | .aA _ L _=>some L.isEmpty
 | .bp b v off n=>bif cur H (.bp b v off n)then some (n==0)else none
 |_=>none
def qQ:LK→SV→SV→Option Bool
 | .i,.int k a,.int k' b=>bif k==k' then some (a==b)else none
 | .s,.str a,.str b=>some (a==b)
 | .b,.bool a,.bool b=>some (a==b)
 |_,_,_=>none
def gk(t:LK)(k:SV):List (SV×SV)→Nat→Option (Option (Nat×SV))
 |[],_=>some none
 |(q,v)::es,i=>(qQ t k q).bind fun b=>bif b then some (some (i,v))else gk t k es (i+1)
def isKey:SV→Bool
 | .int _ _| .str _| .bool _=>true
 |_=>false
def wu(k v:SV)(es:List (SV×SV)):Option (Nat×SV)→List (SV×SV)
 |some (i,_)=>es.set i (k,v)
 |none=>es++[(k,v)]
def p8(t:LK)(H:ab)(k v:SV):SV→Option (SV×ab)
 | .mp b=>match bk H b with
   |some (.map es)=>bif isKey k&&v.iu then(gk t k es 0).bind fun r=>(cp H b (.map (wu k v es r)) v.refs).map (.undef,·)else none
   |_=>none
 |_=>none
def jz(t:LK)(ok:Bool)(z:SV)(H:ab)(k:SV):SV→Option (SV×ab)
 | .mp b=>match bk H b with
   |some (.map es)=>bif isKey k then(gk t k es 0).map fun r=>(match r with
    |some (_,v)=>bif ok then .ba [v,.bool true]else v
    |none=>bif ok then .ba [z,.bool false]else z,H)else none
   |_=>none
 |_=>none
def b9(e:Env)(H:ab):kQ→Option (SV×ab)
 | .eb x=>some (ev e x,H)
 | .pick c a b=>(ke (ev e c) (ev e a) (ev e b)).map (·,H)
 | .box x=>(cm (ev e x)).map fun cs=>(.ptr H.bl.length 0 0 0,bH H (.box cs))
 | .alloc z=>some (.ptr H.bl.length 0 0 0,bH H (.box z))
 | .nX z=>(cp (bH (bH H (.arr 0 z [] false)) (.box [.aA 0 [] true])) (H.bl.length+1) (.box [.bp H.bl.length 0 0 0]) (H.bl.length+1)).map fun H'=>(.ptr (H.bl.length+1) 0 0 0,H')
 | .build z ps=>(gE (ev e) z ps).map (.agg ·,H)
 | .fB bP z n ps=>(eJ (ev e) bP (List.replicate n z) ps).map fun L=>(.bp H.bl.length 0 0 n,bH H (.arr 0 bP L true))
 | .dW bP z n ps=>((eJ (ev e) bP (List.replicate n z) ps).bind fun L=>bif SV.refs.au L.flatten==0 then some (.aA bP L true)else none).map (·,H)
 | .load ag n a=>(cW ag n H (ev e a)).map (·,H)
 | .store n a x=>(dP n H (ev e x) (ev e a)).map (.undef,·)
 | .dS x=>bif cur H (ev e x)then(kr (ev e x)).map (·,H)else none
 | .bin op x y=>(cL op (ev e x) (ev e y)).map (·,H)
 | .qf op x y=>(n8 op (ev e x) (ev e y)).map (·,H)
 | .dH neg sh x y=>match ev e x,ev e y with
   | .agg a,.agg b=>(bw sh a b).map fun r=>(.bool (neg ^^ r),H)
   |_,_=>none
 | .dQ x=>match ev e x with| .bool b=>some (.bool (!b),H)|_=>none
 | .isNil k neg x=>(fG H k (ev e x)).map fun b=>(.bool (neg ^^ b),H)
 | .vi x=>match ev e x with| .int k n=>some (.int k (k.wrap (0-n)),H)|_=>none
 | .cq k x=>match ev e x with| .int _ n=>some (.int k (k.wrap n),H)|_=>none
 | .ra x=>match ev e x with| .str s=>some (.str s,H)|_=>none
 | .jq x=>(nr 1 H (ev e x)).bind fun L=>(toBytes L).map fun l=>(.str ⟨l.toArray⟩,H)
 | .qh x=>match ev e x with| .str s=>some (.bp H.bl.length 0 0 s.size,bH H (.arr 0 1 (lG s) false))|_=>none
 | .gV f cs=>some (.fn f (cs.map (ev e)),H)
 | .kX f cs=>some (.oC f (cs.map (ev e)),H)
 | .dJ bP z bytes l c=>mF bP z bytes H (ev e l) (ev e c)
 | .gU bP x lo hi mx=>bif dY H bP (ev e x)then((lV (ev e x) (lo.map (ev e)) (hi.map (ev e)) (mx.map (ev e))).orElse fun _=>im H (ev e x) (lo.map (ev e)) (hi.map (ev e)) (mx.map (ev e))).map (·,H)else none
 | .nS x lo hi=>match ev e x with| .str s=>(tf s (lo.map (ev e)) (hi.map (ev e))).map (·,H)|_=>none
 | .ai off x=>bif cur H (ev e x)then(eY off (ev e x)).map (·,H)else none
 | .field ag n off x=>match ev e x with| .agg cs=>(cS ag n cs off).map (·,H)|_=>none
 | .bu bP x ix=>bif dY H bP (ev e x)then(iq (ev e x) (ev e ix)).map (·,H)else none
 | .gj len bP x ix=>bif cur H (ev e x)then(iD len (ev e ix)).bind fun i=>(eY (i*bP) (ev e x)).map (·,H)else none
 | .nH ag n len x ix=>match ev e x with| .agg cs=>(iD len (ev e ix)).bind fun i=>(cS ag n cs (i*n)).map (·,H)|_=>none
 | .fJ x ix=>match ev e x with| .str s=>(iD s.size (ev e ix)).bind fun i=>(s.data[i]?).map fun b=>(.int .u8 b.toNat,H)|_=>none
 | .extract x i=>match ev e x with| .ba vs=>(vs[i]?).map (·,H)|_=>none
 | .len x=>bif cur H (ev e x)then(oM (ev e x)).map fun(n:Nat)=>(.int .i64 n,H)else none
 | .fw x=>match ev e x with| .str s=>some (.int .i64 s.size,H)|_=>none
 | .zg n=>some (.int .i64 n,H)
 | .jM xs=>(jU (fun a b=>if b>a then b else a) (xs.map (ev e))).map (·,H)
 | .mW xs=>(jU (fun a b=>if b<a then b else a) (xs.map (ev e))).map (·,H)
 | .append bP bytes s x=>(nr bP H (ev e x)).bind (gn bP bytes H (ev e s))
 | .oY s x=>match ev e x with| .str b=>gn 1 1 H (ev e s) (lG b)|_=>none
 | .copy bP d x=>(nr bP H (ev e x)).bind fun X=>z6 bP H X (ev e d)
 | .clear bP z x=>v5 bP z H (ev e x)
 | .mY=>some (.mp H.bl.length,bH H (.map []))
 | .mu t x k v=>p8 t H (ev e k) (ev e v) (ev e x)
 | .kf t ok z x k=>jz t ok z H (ev e k) (ev e x)
 | .call _ _=>none
 | .eE _ _ _=>none
 | .iW _ _=>none
 | .bad=>none
abbrev oR{A:Type}(_:A):Type:=Unit
section
variable{R:Type}
def fork(b:Bool)(x y:R)(_:oR (x,y)):R:=bif b then x else y
def qm(v:SV)(f:Bool→Option R)(_:oR f):Option R:=match v with| .bool b=>f b|_=>none
def fj(v:SV)(w:Bool)(f:Bool→Option R)(_:oR f):Option R:=match v with| .bool b=>f (b==w)| .iz=>f false|_=>none
def aN{A:Type}(v:Option A)(f:A→Option R)(_:oR f):Option R:=match v with|some v=>f v|none=>none
open Classical in
noncomputable def zW (v:Option Bool) (neg:Bool) (f:Bool→Option R) (_:oR f):Option R:=match v with
 |none=>none
 |some false=>f neg
 |some true=>if f true=f false then f true else none
end
def cb(e:Env):Option Nat→SV→Env
 |none,_=>e
 |some d,v=>(d,v)::e
def j6(rec:Rec)(f:SV)(xs:List SV)(H:ab):Option (SV×ab):=match f with
 | .fn f cs=>rec (.fn f) (xs++cs) H
 | .oC f cs=>rec (.fn f) (cs++xs) H
 | .fp b=>rec (.fp b) xs H
 |_=>none
def ov(rec:Rec)(f:SV)(xs:List SV)(H:ab):Option (SV×ab):=match f with
 | .fn f cs=>rec (.fn f) (xs++cs) H
 |_=>none
def bN{A:Type}:List (Option A)→Option (List A)
 |[]=>some []
 |some a::r=>(bN r).map (a:: ·)
 |none::_=>none
def cA:Nat:=8
def ec(N:Nat)(H:ab):Nat→SV→Option SV
 |0,_=>none
 |d+1,v=>match v with
  | .agg cs=>(bN (cs.map (ec N H d))).map .agg
  | .ba cs=>(bN (cs.map (ec N H d))).map .ba
  | .bp b cw off n=>bif decide (b<N)then some v else match bk H b with
    |some (.arr ver' z L ex)=>bif cw==ver'&&decide (off+n≤L.length)then
      (bN (((L.drop off).take n).map fun cs=>bN (cs.map (ec N H d)))).bind fun L'=>
       bif SV.refs.au L'.flatten==0 then some (.aA z L' (ex&&off+n==L.length))else none
     else none
    |_=>none
  | .int k n=>some (.int k n)
  | .bool b=>some (.bool b)
  | .aA z L f=>some (.aA z L f)
  |v=>bif decide (v.refs≤N)then some v else none
def jG:SV→Bool
 | .int _ _| .bool _| .str _=>true
 |_=>false
def wG:SV→Bool
 | .ba vs=>vs.all jG
 | .agg vs=>vs.all jG
 |v=>jG v
def rP(rec:Rec)(f:FuncId)(xs:List SV)(H:ab):Option (SV×ab):=
 (bN (xs.map (ec 0 H cA))).bind fun vs=>(rec (.fn f) vs {bl:=[],bQ:=[],ro:=0}).bind fun r=>bif wG r.1 then some (r.1,H)else none
def aq(rec:Rec)(e:Env)(H:ab):kQ→Option (SV×ab)
 | .call f xs=>j6 rec (ev e f) (xs.map (ev e)) H
 | .eE f _ xs=>rec (.rW f) (xs.map (ev e)) H
 | .iW f xs=>rP rec f (xs.map (ev e)) H
 |o=>b9 e H o
def cc{R:Type}(rec:Rec):(l:List aK)→Env→ab→(k:Env→ab→Option R)→oR (l,k)→Option R
 |[],e,H,k,_=>k e H
 |o::os,e,H,k,_=>match o.g with
  |none=>aN (aq rec e H o.op) (fun r=>cc rec os (cb e o.dst r.1) r.2 k ()) ()
  |some (t,w)=>fj (get e t) w (fun b=>fork b (aN (aq rec e H o.op) (fun r=>cc rec os (cb e o.dst r.1) r.2 k ()) ())
    (cc rec os (cb e o.dst .iz) H k ()) ()) ()
def cz(N:Nat)(ds:List Nat)(l:List aD):List aD:=ds.foldl (fun l d=>l.set (N+d) .dead) l
def uE:SV→Nat→SV→Nat→Bool
 | .ptr b _ i o,m,.ptr b' _ i' o',n=>!(b==b')||!(i==i')||decide (o+m≤o')||decide (o'+n≤o)
 | .fE _,_,_,_=>true
 |_,_,_,_=>false
def EH(N:Nat)(hs:List Nat):SV→Bool
 | .ptr b _ _ _=>hs.all fun m=>!(N+m==b)
 |_=>false
def vR(rec:Rec)(N:Nat)(rd:List (bU×Nat))(hs:List Nat)(e:Env)(H:ab):kQ→Option (SV×ab)
 | .store n a x=>bif decide ((ev e x).refs≤N)&&EH N hs (ev e a)&&rd.all (fun q=>uE (ev e q.1) q.2 (ev e a) n)then(dP n H (ev e x) (ev e a)).map (.undef,·)else none
 |_=>none
def bY(rec:Rec)(N:Nat)(d:bE)(e:Env)(H:ab)(o:kQ):Option (SV×ab):=match d.kind with
 | .pure=>aq rec e H o
 | .gl=>(aq rec e H o).bind fun r=>bif decide (H.bl.length≤r.2.bl.length)then some r else none
 | .jE=>(aq rec e {bl:=cz N d.eU H.bl,bQ:=[],ro:=H.bl.length} o).bind fun r=>
    bif r.2.bl.length==H.bl.length+d.wi&&r.2.bQ.isEmpty then some (r.1,{H with bl:=H.bl++r.2.bl.drop H.bl.length})else none
 | .wr rd=>vR rec N rd d.eU e H o
def fA(d:bE)(N:Nat)(H:ab):Nat:=match d.kind with
 | .gl=>H.bl.length
 |_=>N
def hU(d:bE):Bool:=match d.kind with
 | .jE=>d.wi==0
 | .wr _=>false
 |_=>true
def bX{R:Type}(rec:Rec):(l:List (aK×bE))→Nat→Env→ab→(k:Env→ab→Option R)→oR (l,k)→Option R
 |[],_,e,H,k,_=>k e H
 |(o,d)::os,N,e,H,k,_=>match o.g with
  |none=>aN (bY rec N d e H o.op) (fun r=>bX rec os (fA d N r.2) (cb e o.dst r.1) r.2 k ()) ()
  |some (t,w)=>fj (get e t) w (fun b=>fork b (aN (bY rec N d e H o.op) (fun r=>bX rec os (fA d N r.2) (cb e o.dst r.1) r.2 k ()) ())
    (bif hU d then bX rec os (fA d N H) (cb e o.dst .iz) H k ()else none) ()) ()
def eF:List aK→Env→Env→Env
 |[],_,e0=>e0
 |⟨some d,_,_⟩::l,e,e0=>(d,get e d)::eF l e e0
 |⟨none,_,_⟩::l,e,e0=>eF l e e0
def xR:Option aK→List aK→List aK
 |some o,r=>o::r
 |none,r=>r
def cC(l:List aK):List Nat→List aK
 |[]=>[]
 |i::r=>xR l[i]? (cC l r)
def jl(rec:Rec)(l:List aK)(e:Env)(H:ab)(o:List Nat):Option (Env×ab):=cc rec (cC l o) e H (fun e' H'=>some (eF l e' e,H')) ()
open Classical in
noncomputable def iU {A:Type}:List (Option A)→Option A
 |[]=>none
 |[a]=>a
 |a::b::r=>if a=b then iU (b::r)else none
def Db(H:ab):SV→Option (SV×ab)
 | .bp b cw off n=>match bk H b with
   |some (.arr ver' z L _)=>bif cw==ver'&&decide (off+n≤L.length)&&SV.refs.au ((L.drop off).take n).flatten==0 then
     (cp H b .dead 0).map fun H=>(.aA z ((L.drop off).take n) false,H)
    else none
   |_=>none
 | .aA z L f=>some (.aA z L f,H)
 |_=>none
def cV(N:Nat)(H0 H:ab):Option ab:=
 bif decide (N≤H.bl.length)&&H.bQ.all (fun p=>!(decide (p.1<N)&&decide (N<p.2)))then
  some {bl:=H.bl.take N,bQ:=H0.bQ++H.bQ.filter (fun p=>decide (p.1<N)),ro:=H0.ro} else none
def ri(H0 H:ab):ab:={bl:=H.bl,bQ:=H0.bQ++H.bQ,ro:=H0.ro}
def dx(l:List Nat)(e:Env):Env:=l.map fun i=>(i,get e i)
def xy(H:ab)(b z j:Nat)(cs:List SV):Option SV→Option ab
 |some (.aA _ [] true)=>cp (bH H (.arr 0 z [] false)) b (.box (cs.set j (.bp H.bl.length 0 0 0))) (H.bl.length+1)
 |_=>none
def pK(H:ab)(b z:Nat):Option aD→Option ab
 |some (.box [.aA _ [] true])=>cp (bH H (.arr 0 z [] false)) b (.box [.bp H.bl.length 0 0 0]) (H.bl.length+1)
 |some (.box cs)=>xy H b (z%1000) (z/1000) cs (cs[z/1000]?)
 |_=>none
def eZ:List (Nat×Nat)→Env→ab→Option (Env×ab)
 |[],e,H=>some (e,H)
 |(t,z)::r,e,H=>match get e t with
  | .aA _ [] true=>eZ r ((t,.bp H.bl.length 0 0 0)::e) (bH H (.arr 0 z [] false))
  | .ptr b _ _ _=>(pK H b z (bk H b)).bind fun H=>eZ r e H
  | .aA _ (_::_) true=>eZ r e (bH H (.arr 0 z [] false))
  |_=>none
def ql(H:ab)(t h z b v n:Nat)(e:Env):Option aD→Option aD→Option (Env×ab)
 |some (.arr 0 _ [] _),some (.arr v' z' L ex)=>bif z'==z&&v==v'&&n==L.length&&decide (H.ro≤h)&&!(h==b)&&SV.refs.au L.flatten==0 then
   some ((t,.bp h (v+1) 0 n)::e,{H with bl:=(H.bl.set h (.arr (v+1) z L ex)).set b .dead})else none
 |_,_=>none
def dL:List (Nat×Nat)→Nat→Nat→Env→ab→Option (Env×ab)
 |[],_,_,e,H=>some (e,H)
 |(t,z)::r,h,N,e,H=>match get e t with
  | .bp b v 0 n=>bif decide (N≤b)&&decide (h<N)then(ql H t h z b v n e (bk H h) (bk H b)).bind fun s=>dL r (h+1) N s.1 s.2 else dL r (h+1) N e H
  |_=>dL r (h+1) N e H
def jD:List Nat→Bool
 |i::_=>i==999999
 |[]=>false
def ve(p:ct)(N:Nat)(H0:ab)(s:Env×ab):Option (Env×ab):=
 bif jD p.live then some (dx p.live.tail s.1,s.2)else
 bif decide (SV.refs.au ((dx p.live s.1).map (·.2))≤N)then(cV N H0 s.2).map fun H=>(dx p.live s.1,H)else none
def dU(p:ct)(N:Nat)(H0:ab)(s:Env×ab):Option (Env×ab):=
 (dL p.bB (N-p.bB.length) N s.1 s.2).bind (ve p N H0)
abbrev Out:=kT×Env×ab
def Kx(l:List UInt8):Nat→List UInt8
 |0=>[]
 |n+1=>l++Kx l n
def qF:Nat→List SV→Option SV
 |0,[.str s,.int .i64 n]=>bif decide (0≤n)&&decide (n≤1048576)&&decide (s.size≤1048576)then some (.str ⟨(Kx s.data.toList n.toNat).toArray⟩)else none
 |_,_=>none
def cI(f:Env×ab→Option Out):Nat→Env×ab→Option Out
 |0,_=>none
 |n+1,s=>match f s with
  |some (.normal,s')=>cI f n s'
  |r=>r
open Classical in
noncomputable def ki (f:Env×ab→Option Out) (s:Env×ab):Option Out:=
 if h:∃n,(cI f n s).isSome then cI f (Classical.choose h) s else none
noncomputable def run {R:Type} (rec:Rec):(c:cn)→Env→ab→(k:kT→Env→ab→Option R)→oR (c,k)→Option R
 | .skip,e,H,k,_=>k .normal e H
 | .ops l,e,H,k,_=>cc rec l e H (k .normal) ()
 | .drawn l,e,H,k,_=>bX rec l H.bl.length e H (k .normal) ()
 | .perm l os,e,H,k,_=>aN (iU (os.map (jl rec l e H))) (fun s=>k .normal s.1 s.2) ()
 | .seq a b,e,H,k,_=>run rec a e H (fun x e H=>match x with| .normal=>run rec b e H k ()|x=>k x e H) ()
 | .cond c a b,e,H,k,_=>qm (ev e c) (fun t=>fork t (run rec a e H k ()) (run rec b e H k ()) ()) ()
 | .block id a,e,H,k,_=>run rec a e H (fun x e H=>match x with| .exit j=>bif j==id then k .normal e H else k (.exit j) e H|x=>k x e H) ()
 | .freeze t,e,H,k,_=>aN (Db H (get e t)) (fun r=>k .normal ((t,r.1)::e) r.2) ()
 | .bB vs,e,H,k,_=>aN (eZ vs e H) (fun s=>k .normal s.1 s.2) ()
 | .Nc d neg x c,e,H,k,_=>zW (Ei H (ev e x)) neg (fun b=>run rec c ((d,.bool b)::e) H k ()) ()
 | .loop p a,e,H,k,_=>aN (eZ p.bB e H) (fun s=>aN (ki (fun s'=>(dU p s.2.bl.length {s.2 with bQ:=[]} s').bind fun s'=>
    run rec a s'.1 s'.2 (fun x e H=>some (x,e,H)) ()) (s.1,{s.2 with bQ:=[]})) (fun o=>k o.1 o.2.1 {o.2.2 with bQ:=s.2.bQ++o.2.2.bQ}) ()) ()
 | .gT f ps x y,e,H,k,_=>aN (ov rec (ev e f) [.fp H.bl.length] (bH H (.loop ⟨e,ps,x,y⟩ .ready .normal))) (fun r=>
    match bk r.2 H.bl.length with
    |some (.loop q st pend)=>match st with
     | .busy=>none
     |_=>aN (cp r.2 H.bl.length (.loop q .exhausted pend) 0) (fun H=>k pend e H) ()
    |_=>none) ()
 | .ext n,e,H,k,_=>aN (qF n (e.map (·.2))) (fun v=>k .ret ((0,v)::e) H) ()
 | .exit id,e,H,k,_=>k (.exit id) e H
 | .ret,e,H,k,_=>k .ret e H
def dI(e:Env)(H:ab):u9→Option SV
 | .tmp t=>some (get e t)
 | .cell t ag n=>cW ag n H (get e t)
def results1(e:Env)(H:ab)(rs:List u9):Option SV:=
 (bN (rs.map (dI e H))).map fun vs=>match vs with|[v]=>v|vs=>.ba vs
def dR(xs:List SV):Env:=go 0 xs
where go:Nat→List SV→Env
 |_,[]=>[]
 |i,x::r=>(i,x)::go (i+1) r
def cR(keep:Bool)(H0:ab)(v:SV)(H:ab):Option (SV×ab):=
 bif keep then some (v,ri H0 H)else(ec H0.bl.length H cA v).bind fun v=>(cV H0.bl.length H0 H).map fun H=>(v,H)
def eX(b:Nat)(st:LoopState)(pend:kT)(H:ab):Option ab:=match bk H b with
 |some (.loop q _ _)=>cp H b (.loop q st pend) 0
 |_=>none
def ez(b:Nat)(H:ab):Option ab:=match bk H b with
 |some (.loop q .ready pend)=>cp H b (.loop q .busy pend) 0
 |_=>none
def ah:ab:={bl:=[],bQ:=[],ro:=0}
def eA(F:aC)(xs:List SV):Bool:=SV.refs.au xs==0&&!F.keep
noncomputable def aa (T:FuncId→Option aC):Nat→Rec
 |0,_,_,_=>none
 |n+1,.fn f,xs,H=>match T f with
  |none=>none
  |some F=>bif eA F xs then
    (run (aa T n) F.body (dR xs) ah (fun x e H'=>match x with
     | .exit _=>none
     |_=>(results1 e H' F.res).bind fun v=>ec 0 H' cA v) ()).map fun v=>(v,H)
   else run (aa T n) F.body (dR xs) {bl:=H.bl,bQ:=[],ro:=min H.ro H.bl.length} (fun x e H'=>match x with
    | .exit _=>none
    |_=>(results1 e H' F.res).bind fun v=>cR F.keep H v H') ()
 |n+1,.rW f,xs,H=>match T f with
  |none=>none
  |some F=>run (aa T n) F.body (dR xs) {bl:=H.bl,bQ:=[],ro:=min H.ro H.bl.length} (fun x e H'=>match x with
    | .exit _=>none
    |_=>(results1 e H' F.res).bind fun v=>cR true H v H') ()
 |n+1,.fp b,xs,H=>match bk H b with
  |some (.loop q .ready _)=>
   bif q.ps.length==xs.length then
    run (aa T n) q.assign ((q.ps.zip xs).reverse++q.env) {bl:=H.bl,bQ:=[],ro:=min H.ro H.bl.length} (fun x e H'=>match x with
     | .normal=>(ez b H').bind fun H'=>run (aa T n) q.body e H' (fun x _ H'=>
        (eX b (match x with| .normal=>.ready|_=>.done) x H').bind fun H'=>
         (cV H.bl.length H H').map fun H'=>(.bool (match x with| .normal=>true|_=>false),H')) ()
     |_=>none) ()
   else none
  |_=>none
abbrev acH(n:Int):SV:=.int .i64 n
abbrev acI:SV:=.int .i64 0
abbrev acJ(a b:Nat):kQ:=.pick (.t a) (.c (.bool true)) (.t b)
abbrev acK(a b:Nat):kQ:=.pick (.t a) (.t b) (.c (.bool false))
abbrev acL(a:Nat):kQ:=.load false 1 (.t a)
end
section
structure yN where
 keep:FuncId→Option Nat
 loop:FuncId→Nat→ct
 lit:FuncId→Nat→Bool
 ec:FuncId→Nat→List Nat
 Wk:FuncId→Nat→List (Nat×Nat):=fun _ _=>[]
 vF:FuncId→Nat→Option Nat:=fun _ _=>none
 viewAt:FuncId→Nat→Bool:=fun _ _=>false
 Be:FuncId→Nat→Option Nat:=fun _ _=>none
 ext:FuncId→Option Nat:=fun _=>none
 RC:FuncId→Nat→Bool:=fun _ _=>false
def lH:Nat→Value→Option SV
 |0,_=>none
 |d+1,v=>match v with
  | .bool b=>some (.bool b)
  | .int k n=>some (.int k n)
  | .string s=>some (.str s)
  | .pointer none=>some .cY
  | .slice none 0 0=>some (.aA 0 [] true)
  | .nilFunc=>some .c0
  | .agg cs=>(bN (cs.toList.map (lH d))).bind fun cs=>bif cs.all SV.iu then some (.agg cs)else none
  |_=>none
def bz:Operand→Option bU
 | .tmp t=>some (.t t)
 | .const v=>(lH 2 v).map .c
 | .func f=>some (.c (.fn f []))
 | .global _=>none
def iB(xs:Array Operand):Option (List bU):=bN (xs.toList.map bz)
def fW:Option Operand→Option (Option bU)
 |none=>some none
 |some x=>(bz x).map some
section
variable(P:Program)
def fD(t:TypeId):Option Nat:=(P.info? t).map (·.size)
def iZ(t:TypeId):Option Bool:=match P.underlying t with
 |some (.struct _)=>some true
 |some (.array _ _)=>some true
 |some _=>some false
 |none=>none
def gQ(t:TypeId):Option (List SV):=match P.info? t with
 |some i=>match i.zero with
  |some v=>(bN (v.cells.toList.map (lH 1))).bind fun z=>bif z.all SV.iu then some z else none
  |none=>none
 |none=>none
def eG:Nat→TypeId→Option (List LK)
 |0,_=>none
 |d+1,t=>match P.underlying t with
  |some .bool=>some [.b]
  |some (.int _)=>some [.i]
  |some .string=>some [.s]
  |some (.struct fs)=>bif P.stoodInHeld t then none else fs.toList.foldlM (init:=[]) fun acc f=>
    bif f.name != "_" &&f.offset==acc.length then(eG d f.type).bind fun sh=>bif (fD P f.type)==some sh.length then some (acc++sh)else none else none
  |some (.array n e)=>(eG d e).bind fun sh=>bif (fD P e)==some sh.length then some (List.replicate n sh).flatten else none
  |_=>none
def kF(t:TypeId):Option (List Field):=match P.underlying t with
 |some (.struct fs)=>some fs.toList
 |_=>none
def kW(t:TypeId):Option TypeId:=match P.underlying t with
 |some (.slice e)=>some e
 |_=>none
def wQ(t:TypeId)(ps:List (Nat×Operand)):Option (List (Nat×Nat×bU)):=match P.underlying t with
 |some (.struct fs)=>bif !fs.toList.all (fun f=>(fD P f.type).isSome)then none else bN (ps.map fun p=>match fs[p.1]? with
  |some f=>match fD P f.type,bz p.2 with
   |some n,some x=>some (f.offset,n,x)
   |_,_=>none
  |none=>none)
 |some (.array _ e)=>match fD P e with
  |some n=>bN (ps.map fun p=>(bz p.2).map fun x=>(p.1*n,n,x))
  |none=>none
 |_=>none
def oe(c:Call):Option kQ:=match c.callee with
 | .value f=>match bz f,iB c.args with
   |some f,some xs=>some (.call f xs)
   |_,_=>none
 | .invoke _ _=>none
 | .builtin b=>match iB c.args with
   |none=>none
   |some xs=>match b,xs with
    | .len,[x]=>match(c.argTypes[0]?).bind P.underlying with
      |some .string=>some (.fw x)
      |some (.slice _)=>some (.len x)
      |some (.array n _)=>some (.zg n)
      |_=>none
    | .max,xs=>match(c.argTypes[0]?).bind P.underlying with|some (.int _)=>some (.jM xs)|_=>none
    | .min,xs=>match(c.argTypes[0]?).bind P.underlying with|some (.int _)=>some (.mW xs)|_=>none
    | .append,[s,x]=>match(c.argTypes[0]?).bind (kW P),(c.argTypes[1]?).bind P.underlying with
      |some e,some (.slice _)=>match P.info? e with|some i=>bif i.size==0||i.bytes==0 then none else(match gQ P e with|some z=>bif z.length==i.size then some (.append i.size i.bytes s x)else none|none=>none)|none=>none
      |_,_=>none
    | .copy,[d,x]=>match(c.argTypes[0]?).bind (kW P),(c.argTypes[1]?).bind P.underlying with
      |some e,some (.slice _)=>match fD P e with|some (n+1)=>some (.copy (n+1) d x)|_=>none
      |_,_=>none
    | .clear,[x]=>match(c.argTypes[0]?).bind (kW P)with
      |some e=>match gQ P e with|some (z::zs)=>some (.clear (z::zs).length (z::zs) x)|_=>none
      |none=>none
    |_,_=>none
def vu(op:BinOp)(u:TypeDesc)(y:Operand)(x:bU):Option kQ:=match op,u,y with
 | .eql,.pointer _,.const (.pointer none)=>some (.isNil .p false x)
 | .neq,.pointer _,.const (.pointer none)=>some (.isNil .p true x)
 | .eql,.func _ _ _,.const .nilFunc=>some (.isNil .f false x)
 | .neq,.func _ _ _,.const .nilFunc=>some (.isNil .f true x)
 | .eql,.slice _,.const (.slice none 0 0)=>some (.isNil .s false x)
 | .neq,.slice _,.const (.slice none 0 0)=>some (.isNil .s true x)
 |_,_,_=>none
def uq(t:TypeId):Option (LK×TypeId):=match P.underlying t with
 |some (.map k e)=>bif fD P e==some 1&&iZ P e==some false then(match P.underlying k with
  |some (.int _)=>some (.i,e)
  |some .string=>some (.s,e)
  |some .bool=>some (.b,e)
  |_=>none)else none
 |_=>none
def se(t:TypeId):Option SV:=match P.info? t with
 |some i=>match i.zero with
  |some v=>(lH 1 v).bind fun z=>bif z.iu then some z else none
  |none=>none
 |none=>none
def oy(o:Op):Option kQ:=match o with
 | .move x=>(bz x).map .eb
 | .assign x=>(bz x).map .eb
 | .pick c a b=>match bz c,bz a,bz b with
   |some c,some a,some b=>some (.pick c a b)
   |_,_,_=>none
 | .alloc t=>(gQ P t).map .alloc
 | .box _ x=>(bz x).map .box
 | .build t ps=>match gQ P t,wQ P t ps.toList with
   |some z,some ps=>some (.build z ps)
   |_,_=>none
 | .buildSlice t n ps=>match kW P t with
   |some e=>match fD P e,gQ P e,bN (ps.toList.map fun p=>(bz p.2).map fun x=>(p.1,x))with
    |some (z+1),some zs,some ps=>bif decide (n*(z+1)≤16777216)&&zs.length==z+1 then some (.fB (z+1) zs n ps)else none
    |_,_,_=>none
   |none=>none
 | .load t a=>match iZ P t,fD P t,bz a with
   |some ag,some n,some a=>some (.load ag n a)
   |_,_,_=>none
 | .store t a x=>match fD P t,bz a,bz x with
   |some n,some a,some x=>some (.store n a x)
   |_,_,_=>none
 | .nilCheck x=>(bz x).map .dS
 | .binOp op t xo yo _=>match bz xo,bz yo with
   |some x,some y=>match op,P.underlying t with
    | .eql,some (.struct _)=>bif P.eqGuardType P.depth t then none else(eG P 6 t).map (.dH false · x y)
    | .neq,some (.struct _)=>bif P.eqGuardType P.depth t then none else(eG P 6 t).map (.dH true · x y)
    | .eql,some (.array _ _)=>bif P.eqGuardType P.depth t then none else(eG P 6 t).map (.dH false · x y)
    | .neq,some (.array _ _)=>bif P.eqGuardType P.depth t then none else(eG P 6 t).map (.dH true · x y)
    |op,some (.int _)=>some (.bin op x y)
    |op,some .bool=>some (.qf op x y)
    |op,some .string=>some (.bin op x y)
    |op,some u=>vu op u yo x
    |_,none=>none
   |_,_=>none
 | .unOp .not _ x=>(bz x).map .dQ
 | .unOp .neg t x=>match P.underlying t with|some (.int _)=>(bz x).map .vi|_=>none
 | .convert s d x=>match bz x with
   |none=>none
   |some x=>match P.underlying s,P.underlying d with
    |some (.int _),some (.int k)=>some (.cq k x)
    |some .string,some .string=>some (.ra x)
    |some (.slice el),some .string=>match P.underlying el,fD P el with
     |some (.int .u8),some 1=>some (.jq x)
     |_,_=>none
    |some .string,some (.slice el)=>match P.underlying el,fD P el with
     |some (.int .u8),some 1=>some (.qh x)
     |_,_=>none
    |_,_=>none
 | .makeFunc (.func f) fs cs=>bif fs.isEmpty then(iB cs).map (.gV f ·)else bif cs.isEmpty then(iB fs).map (.kX f ·)else none
 | .makeSlice t l c=>match kW P t with
   |some e=>match P.info? e,gQ P e,bz l,bz c with
    |some i,some z,some l,some c=>bif i.size==0||i.bytes==0 then none else bif z.length==i.size then some (.dJ i.size z i.bytes l c)else none
    |_,_,_,_=>none
   |none=>none
 | .slice t x lo hi mx=>match bz x,fW lo,fW hi,fW mx with
   |some x,some lo,some hi,some mx=>match P.underlying t with
    |some (.slice e)=>match fD P e with|some n=>bif mx.isSome&&hi.isNone then none else some (.gU n x lo hi mx)|none=>none
    |some .string=>match mx with|none=>some (.nS x lo hi)|some _=>none
    |_=>none
   |_,_,_,_=>none
 | .fieldAddr s x f=>match bz x,(kF P s).bind (·[f]?)with
   |some x,some f=>match fD P f.type with
    |some (_+1)=>some (.ai f.offset x)
    |_=>none
   |_,_=>none
 | .field s x f=>match bz x,(kF P s).bind (·[f]?)with
   |some x,some f=>match iZ P f.type,fD P f.type with
    |some ag,some n=>some (.field ag n f.offset x)
    |_,_=>none
   |_,_=>none
 | .indexAddr t x ix=>match bz x,bz ix with
   |some x,some ix=>match P.underlying t with
    |some (.slice e)=>match fD P e with|some (n+1)=>some (.bu (n+1) x ix)|_=>none
    |some (.array len e)=>match fD P e with|some (n+1)=>some (.gj len (n+1) x ix)|_=>none
    |_=>none
   |_,_=>none
 | .index t x ix=>match bz x,bz ix with
   |some x,some ix=>match P.underlying t with
    |some (.array len e)=>match iZ P e,fD P e with|some ag,some n=>some (.nH ag n len x ix)|_,_=>none
    |some .string=>some (.fJ x ix)
    |_=>none
   |_,_=>none
 | .extract x i=>(bz x).map (.extract · i)
 | .call c=>oe P c
 | .makeMap _ none=>some .mY
 | .insert t m k v=>match uq P t,bz m,bz k,bz v with
   |some (q,_),some m,some k,some v=>some (.mu q m k v)
   |_,_,_,_=>none
 | .mapUpdate t m k v=>match uq P t,bz m,bz k,bz v with
   |some (q,_),some m,some k,some v=>some (.mu q m k v)
   |_,_,_,_=>none
 | .lookup t m k ok=>match uq P t,bz m,bz k with
   |some (q,e),some m,some k=>(se P e).map fun z=>.kf q ok z m k
   |_,_,_=>none
 |_=>none
inductive Ea where|no|list|keep (n:Nat)|view|Hx (z:Nat)
def lk(dz:yN)(f:FuncId):Option Nat→Ea
 |none=>.no
 |some d=>match dz.vF f d with
  |some n=>.keep n
  |none=>match dz.Be f d with
   |some z=>.Hx z
   |none=>bif dz.viewAt f d then .view else bif dz.lit f d then .list else .no
def ui(b:Ea)(o:kQ):kQ:=match b,o with
 | .list,.fB bP z n ps=>.dW bP z n ps
 | .keep n,.call (.c (.fn g [])) xs=>.eE g n xs
 | .view,.call (.c (.fn g [])) xs=>.iW g xs
 | .Hx z,.alloc [.aA 0 [] true]=>.nX z
 |_,o=>o
def ib(dz:yN)(f:FuncId)(nt:Nat)(ops:Array Oper)(o:Oper):Option aK:=
    let op:=ui (lk dz f o.dst) ((oy P o.op).getD .bad)
    bif o.dst.any (fun d=>decide (nt≤d))then none else match o.guard with
    |none=>some ⟨o.dst,op,none⟩
    |some (j,w)=>match(ops[j]?).bind (·.dst)with
     |some t=>some ⟨o.dst,op,some (t,w)⟩
     |none=>none
end
def fP:kQ→Bool
 | .eb _| .pick .. | .build .. | .dW .. | .bin .. | .qf .. | .dH .. | .dQ _| .vi _| .cq .. | .ra _| .gV .. | .kX .. | .field .. | .nH .. | .fJ .. | .extract .. | .fw _| .zg _| .jM _| .mW _| .nS .. =>true
 |_=>false
def bI(ops:List Oper):List Nat:=
 ops.foldl (init:=[]) fun acc o=>acc++[o.after.toList.foldl (fun s e=>bif Region.binds .any e then s|||2 ^ e.on|||acc.getD e.on 0 else s) 0]
def bT(o:aK):List Nat:=(match o.op with
 | .eb x| .box x| .dS x| .dQ x| .isNil _ _ x| .vi x| .cq _ x| .ra x| .jq x| .qh x| .ai _ x| .field _ _ _ x| .extract x _| .len x| .fw x| .clear _ _ x| .load _ _ x=>f [x]
 | .pick c a b=>f [c,a,b]
 | .build _ ps=>f (ps.map (·.2.2))
 | .fB _ _ _ ps=>f (ps.map (·.2))
 | .dW _ _ _ ps=>f (ps.map (·.2))
 | .store _ a x| .bin _ a x| .qf _ a x| .dH _ _ a x| .bu _ a x| .gj _ _ a x| .nH _ _ _ a x| .fJ a x| .append _ _ a x| .oY a x| .copy _ a x| .dJ _ _ _ a x=>f [a,x]
 | .gV _ cs=>f cs
 | .kX _ cs=>f cs
 | .gU _ x lo hi mx=>f ([x]++lo.toList++hi.toList++mx.toList)
 | .nS x lo hi=>f ([x]++lo.toList++hi.toList)
 | .jM xs| .mW xs=>f xs
 | .mY=>[]
 | .mu _ x k v=>f [x,k,v]
 | .kf _ _ _ x k=>f [x,k]
 | .call g xs=>f (g::xs)
 | .eE _ _ xs=>f xs
 | .iW _ xs=>f xs
 | .alloc _| .nX _| .zg _| .bad=>[])++(match o.g with|some (t,_)=>[t]|none=>[])
where f (xs:List bU):List Nat:=xs.filterMap fun| .t n=>some n| .c _=>none
def BD(bs:List Nat)(i j:Nat):Bool:=i==j||(bs.getD j 0).testBit i||(bs.getD i 0).testBit j
def NB(dz:yN)(f:FuncId)(o:aK):Nat:=match o.op with
 | .call (.t _) _=>(o.dst.bind (dz.vF f)).getD 0
 | .call (.c (.fn f _)) _=>(dz.keep f).getD 0
 | .eE _ n _=>n
 | .nX _=>2
 | .append .. | .oY .. | .box _| .alloc _| .fB .. | .dJ .. | .qh _| .mY=>1
 |_=>0
def pr(d:bE):Bool:=match d.kind with| .gl=>true|_=>false
def rz(d:bE):Bool:=match d.kind with| .jE=>true|_=>false
def pd(d:bE):Bool:=match d.kind with| .pure=>true|_=>false
def df(d:bE):Bool:=match d.kind with| .wr _=>true|_=>false
def nE:kQ→Bool
 | .ai .. | .bu .. | .gj .. | .len .. | .gU .. | .dS .. | .isNil .. | .alloc .. | .box .. | .fB .. | .dJ .. =>true
 |_=>false
def AQ:bU→bU→Bool
 | .t a,.t b=>a==b
 |_,_=>false
def nY(pl:List (aK×bE))(i k:Nat)(o:kQ)(d:bE):Bool:=match o,d.kind with
 | .load ag n a,.wr rd=>rd.any (fun q=>AQ q.1 a&&q.2==(bif ag then n else 1))&&match a with
   | .t u=>(List.range k).all fun m=>decide (m<i)||match pl[m]? with|some p=>!(p.1.dst==some u)|none=>false
   | .c _=>false
 |_,_=>false
def kC(bs:List Nat)(ops:List Oper)(pl:List (aK×bE)):Bool:=
 let n:=pl.length
 let rg:=List.range n
 let dr:=fun i=>((pl[i]?).map (·.2)).getD ⟨.pure,[],0,0⟩
 let gl:=fun i=>pr (dr i)
 let jE:=fun i=>rz (dr i)
 (ops.zipIdx.all fun p=>p.1.after.toList.all fun e=>!Region.binds .any e||decide (e.on<p.2)) &&
 (rg.all fun j=>(List.range j).all fun i=>match pl[i]?,pl[j]? with
  |some a,some b=>(bs.getD j 0).testBit i||!((match a.1.dst with|some d=>(bT b.1).contains d||b.1.dst==some d|none=>false)||(match b.1.dst with|some d=>(bT a.1).contains d|none=>false))
  |_,_=>false) &&
 (pl.all fun p=>!pd p.2||fP p.1.op&&p.2.wi==0) &&
 (rg.all fun i=>!gl i||rg.all fun j=>pd (dr j)||BD bs i j) &&
 (rg.all fun i=>(dr i).kq==match i with|0=>0|k+1=>bif gl k then 0 else(dr k).kq+(dr k).wi) &&
 (rg.all fun i=>!(jE i||df (dr i))||(List.range i).all fun k=>!jE k||((List.range i).any fun m=>decide (k<m)&&gl m)||(bs.getD i 0).testBit k||(List.range (dr k).wi).all fun m=>(dr i).eU.contains ((dr k).kq+m)) &&
 (rg.all fun k=>!df (dr k)||(dr k).wi==0&&rg.all fun m=>!decide (k<m)||pd (dr m)||(bs.getD m 0).testBit k) &&
 (rg.all fun k=>!df (dr k)||(List.range k).all fun i=>!jE i||((List.range k).any fun m=>decide (i<m)&&gl m)||(bs.getD k 0).testBit i||match pl[i]? with|some a=>nE a.1.op||nY pl i k a.1.op (dr k)|none=>false)
def nC(dz:yN)(f:FuncId)(bs:List Nat)(l:List aK)(useW:Bool):List (aK×bE):=
 let n:=l.length
 let pu:=l.map fun o=>fP o.op
 let nonpure:=(List.range n).filter fun i=>!pu.getD i true
 let bars:=(List.range n).map fun i=>!pu.getD i true&&nonpure.all fun j=>BD bs i j
 let isst:=l.map fun o=>match o.op with| .store .. =>true|_=>false
 let nals:=l.zipIdx.map fun p=>bif pu.getD p.2 true||bars.getD p.2 false then 0 else NB dz f p.1
 let scan:=(List.range n).foldl (init:=(([]:List (Nat×Nat)),0,0)) fun(acc,off,st) i=>
  bif bars.getD i false then(acc++[(off,st)],0,i+1)else(acc++[(off,st)],off+nals.getD i 0,st)
 l.zipIdx.map fun p=>
   let i:=p.2
   let os:=scan.1.getD i (0,0)
   let eU:=(List.range i).flatMap fun k=>bif decide (os.2≤k)&&!pu.getD k true&&!BD bs i k then(List.range (nals.getD k 0)).map fun m=>(scan.1.getD k (0,0)).1+m else[]
   (p.1,bif pu.getD i true then⟨.pure,[],0,os.1⟩else bif bars.getD i false then⟨.gl,[],0,os.1⟩else
     bif useW&&isst.getD i false then⟨.wr ((List.range i).flatMap fun k=>bif decide (os.2≤k)&&!BD bs i k then(match l[k]? with|some o=>(match o.op with| .load ag n a=>[(a,bif ag then n else 1)]|_=>[])|none=>[])else[]),eU,0,os.1⟩else
     ⟨.jE,eU,nals.getD i 0,os.1⟩)
def wz(dz:yN)(f:FuncId)(ops:List Oper)(l:List aK):Option (List (aK×bE)):=
 let bs:=bI ops
 let a:=nC dz f bs l true
 bif kC bs ops a then some a else
  let b:=nC dz f bs l false
  bif kC bs ops b then some b else none
def lT(bs:List Nat):Nat→List Nat→List (List Nat)
 |0,_=>[[]]
 |n+1,rem=>rem.flatMap fun m=>bif rem.all (fun k=>k==m||!(bs.getD m 0).testBit k)then(lT bs n (rem.erase m)).map (m:: ·)else[]
def pE(bs:List Nat)(n:Nat):List Nat→List Nat→Bool
 |done,[]=>decide (done.length=n)
 |done,i::r=>decide (i<n)&&!done.contains i&&(List.range n).all (fun k=>!(bs.getD i 0).testBit k||done.contains k)&&pE bs n (i::done) r
def CM(bs:List Nat)(n:Nat)(pu:List Bool):List Nat→List Nat→List Nat
 |done,[]=>done++(List.range n).filter fun k=>!done.contains k
 |done,m::r=>
  let done:=done++(List.range n).filter fun k=>pu.getD k true&&(bs.getD m 0).testBit k&&!done.contains k
  CM bs n pu (done++[m]) r
def ir(l:List aK)(i:Nat):Bool:=match l[i]? with|some o=>!fP o.op|none=>false
def xM(bs:List Nat)(l:List aK):List (List Nat):=
 let np:=(List.range l.length).filter (ir l)
 (lT bs np.length np).map (CM bs l.length (l.map fun o=>fP o.op) [])
def eQ(a b:aK):Bool:=!((match a.dst with|some d=>(bT b).contains d||b.dst==some d|none=>false)||(match b.dst with|some d=>(bT a).contains d|none=>false))
def sG(bs:List Nat)(ops:List Oper)(l:List aK)(os:List (List Nat)):Bool:=
 let n:=l.length
 let np:=(List.range n).filter (ir l)
 (ops.zipIdx.all fun p=>p.1.after.toList.all fun e=>!Region.binds .any e||decide (e.on<p.2)) &&
 ((List.range n).all fun j=>(List.range j).all fun i=>match l[i]?,l[j]? with
   |some a,some b=>(bs.getD j 0).testBit i||eQ a b
   |_,_=>false) &&
 (os.all fun o=>pE bs n [] o) &&
 ((lT bs np.length np).all fun x=>os.any fun o=>o.filter (ir l)==x)
def Dg:kQ→Bool
 | .load .. | .dS _| .ai .. | .len _| .bu .. | .gj .. =>true
 |_=>false
def Eb(l:List aK):List Nat:=(List.range l.length).filter fun i=>match l[i]? with|some o=>!fP o.op&&!Dg o.op|none=>false
def si(W σ:List Nat)(r:Nat):Nat:=((σ.takeWhile (fun x=>x != r)).filter W.contains).length
def p7(bs W:List Nat)(r j:Nat):Bool:=(W.take j).all (fun w=>!(bs.getD w 0).testBit r)&&(W.drop j).all (fun w=>!(bs.getD r 0).testBit w)
def sF(bs:List Nat)(l:List aK):List (List Nat):=
 let W:=Eb l
 let n:=l.length
 let isR:=fun r=>match l[r]? with|some o=>Dg o.op|none=>false
 let at_:=fun(j r:Nat)=>max (W.filter fun w=>(bs.getD r 0).testBit w).length (min j (W.length-(W.filter fun w=>(bs.getD w 0).testBit r).length))
 ((List.range (W.length+1)).map fun j=>CM bs n (l.map fun o=>fP o.op) [] ((List.range (W.length+1)).flatMap fun t=>((List.range n).filter fun r=>isR r&&at_ j r==t)++(W[t]?).toList)).foldl (fun acc o=>bif acc.contains o then acc else acc++[o]) []
def u7(bs:List Nat)(ops:List Oper)(l:List aK)(os:List (List Nat)):Bool:=
 let n:=l.length
 let W:=Eb l
 (ops.zipIdx.all fun p=>p.1.after.toList.all fun e=>!Region.binds .any e||decide (e.on<p.2)) &&
 ((List.range n).all fun j=>(List.range j).all fun i=>match l[i]?,l[j]? with
   |some a,some b=>(bs.getD j 0).testBit i||eQ a b
   |_,_=>false) &&
 (os.all fun o=>pE bs n [] o) &&
 ((List.range n).all fun i=>(List.range (i+1)).all fun k=>match l[k]?,l[i]? with
   |some a,some b=>(match b.dst with|some d=>!(bT a).contains d&&(k==i||!(a.dst==some d))|none=>true)
   |_,_=>false) &&
 (W.all fun w=>W.all fun w'=>!decide (w<w')||(bs.getD w' 0).testBit w) &&
 !os.isEmpty &&
 ((List.range n).all fun r=>match l[r]? with
   |some o=>!Dg o.op||(List.range (W.length+1)).all fun j=>!p7 bs W r j||os.any fun σ=>si W σ r==j
   |none=>true)
def A3(P:Program)(dz:yN)(f:FuncId)(nt:Nat)(ops:Array Oper):Option cn:=match bN (ops.toList.map (ib P dz f nt ops))with
 |none=>none
 |some l=>bif u7 (bI ops.toList) ops.toList l (sF (bI ops.toList) l)then some (.perm l (sF (bI ops.toList) l))else
   bif sG (bI ops.toList) ops.toList l (xM (bI ops.toList) l)then some (.perm l (xM (bI ops.toList) l))else none
def xL(P:Program)(dz:yN)(f:FuncId)(nt:Nat)(ops:Array Oper)(draw:Bool):Option cn:=match bN (ops.toList.map (ib P dz f nt ops))with
 |none=>none
 |some l=>bif draw then(wz dz f ops.toList l).map .drawn else some (.ops l)
def eI:Code→Option Nat
 | .region id _ _=>some id
 | .seq a b=>(eI a).orElse fun _=>eI b
 | .cond _ a b=>(eI a).orElse fun _=>eI b
 | .block _ a=>eI a
 | .loop a=>eI a
 | .rangeFunc _ _ a b=>(eI a).orElse fun _=>eI b
 | .scope a=>eI a
 |_=>none
def oV(c:cn):List Nat→cn
 |[]=>c
 |t::r=>.seq (.freeze t) (oV c r)
def BI(c:cn):List (Nat×Nat)→cn
 |[]=>c
 |vs=>.seq c (.bB vs)
def v9(P:Program)(nt:Nat):Code→Option (Array Oper×List Oper×Nat×Bool×bU)
 | .region _ ops false=>match ops.toList.getLast? with
   |some o=>match o.dst,o.guard,o.op with
    |some d,none,.binOp op t x y _=>match bz x,P.underlying t with
     |some x',some (.slice el)=>match vu op (.slice el) y x' with
      |some (.isNil _ neg x2)=>bif decide (d<nt)then some (ops,ops.toList.dropLast,d,neg,x2)else none
      |_=>none
     |_,_=>none
    |_,_,_=>none
   |none=>none
 |_=>none
def eD(P:Program)(dz:yN)(f:FuncId)(nt:Nat):Code→Option cn
 | .skip=>some .skip
 | .region id ops draw=>(bif draw&&dz.RC f id then A3 P dz f nt ops else xL P dz f nt ops draw).map fun c=>BI (oV c (dz.ec f id)) (dz.Wk f id)
 | .seq a b=>match v9 P nt a with
   |some (ops,l,d,neg,x)=>match bN (l.map (ib P dz f nt ops)),eD P dz f nt b with
    |some l,some b=>some (.seq (.ops l) (.Nc d neg x b))
    |_,_=>none
   |none=>match eD P dz f nt a,eD P dz f nt b with
    |some a,some b=>some (.seq a b)
    |_,_=>none
 | .cond c a b=>match bz c,eD P dz f nt a,eD P dz f nt b with
   |some c,some a,some b=>some (.cond c a b)
   |_,_,_=>none
 | .block id a=>(eD P dz f nt a).map (.block id)
 | .loop a=>(eD P dz f nt a).map (.loop (dz.loop f ((eI a).getD 0)))
 | .rangeFunc g ps a b=>match bz g,eD P dz f nt a,eD P dz f nt b with
   |some g,some a,some b=>bif ps.toList.any (fun d=>decide (nt≤d))then none else some (.gT g ps.toList a b)
   |_,_,_=>none
 | .exit id=>some (.exit id)
 | .ret=>some .ret
 |_=>none
def yG(P:Program):ResultVar→Option u9
 | .tmp t=>some (.tmp t)
 | .cell a t=>match iZ P t,fD P t with
   |some ag,some n=>some (.cell a ag n)
   |_,_=>none
def uw(P:Program)(dz:yN)(f:FuncId):Option aC:=match dz.ext f with
 |some k=>some ⟨[.tmp 0],.ext k,false⟩
 |none=>match P.funcs[f]? with
 |none=>none
 |some fn=>match fn.body with
  |none=>none
  |some b=>bif fn.name== "runtime.NumGoroutine" then none else match eD P dz f fn.ntmps b,bN (fn.results.toList.map (yG P))with
   |some b,some rs=>some ⟨rs,b,(dz.keep f).isSome⟩
   |_,_=>none
end
structure Loc where
 cg:Nat
 base:Nat
 cap:Nat
 bP:Nat
 cw:Nat
 bB:Bool
 arr:Bool
abbrev Map:=Nat→Option Loc
abbrev dj:Map:=fun _=>none
def jx:Value→Bool
 | .agg _=>false
 | .tuple _=>false
 |_=>true
def oq:SV→Option Value
 | .bool b=>some (.bool b)
 | .int k n=>some (.int k n)
 | .str s=>some (.string s)
 |_=>none
inductive VR(w:World)(F:Nat→Prop):Map→SV→Value→Prop
 |undef {ρ:Map} (v:Value):VR w F ρ .undef v
 |iz {ρ:Map}:VR w F ρ .iz undef
 |bool {ρ:Map} (b:Bool):VR w F ρ (.bool b) (.bool b)
 |int {ρ:Map} (k:IntKind) (n:Int):VR w F ρ (.int k n) (.int k n)
 |str {ρ:Map} (s:ByteArray):VR w F ρ (.str s) (.string s)
 |cY {ρ:Map}:VR w F ρ .cY (.pointer none)
 |ptr {ρ:Map} {b cw i o:Nat} {l:Loc} {v:Value} (h:ρ b=some l) (hv:cw≤l.cw) (hc:jx v=true)
   (ha:cw=l.cw→l.bB=false∧v=.pointer (some ⟨l.cg,l.base+i*l.bP+o,none⟩)):VR w F ρ (.ptr b cw i o) v
 |fE {ρ:Map} {cs:List SV} {B o:Nat} (V:Nat→Value) (hF:F B) (hc:∀j c,cs[j]?=some c→w.cell? ⟨B,o+j,none⟩=some (V j))
   (h1:∀(j:Nat) (c:SV),cs[j]?=some c→c.iu=true) (hv:∀j c,cs[j]?=some c→VR w F dj c (V j)):VR w F ρ (.fE cs) (.pointer (some ⟨B,o,none⟩))
 |aA {ρ:Map} {z:Nat} {L:List (List SV)} {full:Bool} {a:Option Addr} {cap:Nat} (V:Nat→Nat→Value) (hcap:L.length≤cap) (hfull:full=true→cap=L.length)
   (hz:∀(i:Nat) cs,L[i]?=some cs→cs.length=z)
   (hat:L=[]∨∃B o,a=some ⟨B,o,none⟩∧F B∧∀(i j:Nat) cs c,L[i]?=some cs→cs[j]?=some c→w.cell? ⟨B,o+i*z+j,none⟩=some (V i j))
   (h1:∀(i j:Nat) cs (c:SV),L[i]?=some cs→cs[j]?=some c→c.iu=true)
   (hv:∀(i j:Nat) cs c,L[i]?=some cs→cs[j]?=some c→VR w F dj c (V i j)):VR w F ρ (.aA z L full) (.slice a L.length cap)
 |bp {ρ:Map} {b cw off n:Nat} {l:Loc} {v:Value} (h:ρ b=some l) (hv:cw≤l.cw) (hc:jx v=true)
   (ha:cw=l.cw→(l.bB=true→∃a,v=.slice a 0 0∧off=0∧n=0)∧
    (l.bB=false→off+n≤l.cap∧∃a,v=.slice a n (l.cap-off)∧(off<l.cap→a=some ⟨l.cg,l.base+off*l.bP,none⟩))):VR w F ρ (.bp b cw off n) v
 |agg {ρ:Map} {cs:List SV} {vs:Array Value} (hn:cs.length=vs.size) (h1:∀(j:Nat) (c:SV),cs[j]?=some c→c.iu=true)
   (hv:∀(j:Nat) c v,cs[j]?=some c→vs[j]?=some v→VR w F ρ c v):VR w F ρ (.agg cs) (.agg vs)
 |ba {ρ:Map} {cs:List SV} {vs:Array Value} (hn:cs.length=vs.size)
   (hv:∀(j:Nat) c v,cs[j]?=some c→vs[j]?=some v→VR w F ρ c v):VR w F ρ (.ba cs) (.tuple vs)
 |fn {ρ:Map} {f:FuncId} {cs:List SV} {vs:Array Value} (hn:cs.length=vs.size)
   (hv:∀(j:Nat) c v,cs[j]?=some c→vs[j]?=some v→VR w F ρ c v):VR w F ρ (.fn f cs) (.func (.func f) #[] vs)
 |oC {ρ:Map} {f:FuncId} {cs:List SV} {vs:Array Value} (hn:cs.length=vs.size)
   (hv:∀(j:Nat) c v,cs[j]?=some c→vs[j]?=some v→VR w F ρ c v):VR w F ρ (.oC f cs) (.func (.func f) vs #[])
 |c0 {ρ:Map}:VR w F ρ .c0 .nilFunc
 |fp {ρ:Map} {b:Nat} {l:Loc} (h:ρ b=some l) (ha:l.arr=false):VR w F ρ (.fp b) (.func (.yield l.cg) #[] #[])
 |mp {ρ:Map} {b:Nat} {l:Loc} (h:ρ b=some l) (ha:l.arr=false):VR w F ρ (.mp b) (.map (some l.cg))
theorem VR.one{w:World}{F:Nat→Prop}{ρ:Map}{c:SV}{v:Value}(h:VR w F ρ c v)(h1:c.iu=true):jx v=true:=by
 cases h<;>first|rfl|assumption|(simp[SV.iu]at h1)
def Map.le(ρ ρ':Map):Prop:=∀b l,ρ b=some l→∃l',ρ' b=some l'∧(l'=l∨(l.arr=true∧l.cw<l'.cw))
theorem Map.le_refl(ρ:Map):ρ.le ρ:=fun _ l h=>⟨l,h,.inl rfl⟩
theorem Map.le_trans{a b c:Map}(h:a.le b)(h':b.le c):a.le c:=fun x l hl=>by
 obtain⟨l1,h1,e1⟩:=h x l hl
 obtain⟨l2,h2,e2⟩:=h' x l1 h1
 refine⟨l2,h2,?_⟩
 rcases e1 with rfl|⟨a1,v1⟩
 ·exact e2
 ·rcases e2 with rfl|⟨_,v2⟩
  ·exact .inr ⟨a1,v1⟩
  ·exact .inr ⟨a1,by omega⟩
theorem j0(ρ:Map):dj.le ρ:=fun _ _ h=>by cases h
def dy(F:Nat→Prop)(w w':World):Prop:=∀B,F B→w'.heap[B]?=w.heap[B]?
theorem dy.cell{F:Nat→Prop}{w w':World}(h:dy F w w'){B o:Nat}(hB:F B):w'.cell? ⟨B,o,none⟩=w.cell? ⟨B,o,none⟩:=by
 simp only[World.cell?,h B hB]
theorem VR.mono{w w':World}{F F':Nat→Prop}(hk:dy F w w')(hF:∀B,F B→F' B){ρ:Map}{c:SV}{v:Value}
 (h:VR w F ρ c v):∀{ρ':Map},ρ.le ρ'→VR w' F' ρ' c v:=by
 induction h with
 |undef v=>exact fun _=>.undef v
 |iz=>exact fun _=>.iz
 |bool b=>exact fun _=>.bool b
 |int k n=>exact fun _=>.int k n
 |str s=>exact fun _=>.str s
 |cY=>exact fun _=>.cY
 |c0=>exact fun _=>.c0
 |ptr h hv hc ha=>
  intro ρ' hle
  obtain⟨l',h',e⟩:=hle _ _ h
  rcases e with rfl|⟨_,hlt⟩
  ·exact .ptr h' hv hc ha
  ·exact .ptr h' (by omega) hc (fun e=>by omega)
 |bp h hv hc ha=>
  intro ρ' hle
  obtain⟨l',h',e⟩:=hle _ _ h
  rcases e with rfl|⟨_,hlt⟩
  ·exact .bp h' hv hc ha
  ·exact .bp h' (by omega) hc (fun e=>by omega)
 |fp h ha=>
  intro ρ' hle
  obtain⟨l',h',e⟩:=hle _ _ h
  rcases e with rfl|⟨ht,_⟩
  ·exact .fp h' ha
  ·rw[ha]at ht;cases ht
 |mp h ha=>
  intro ρ' hle
  obtain⟨l',h',e⟩:=hle _ _ h
  rcases e with rfl|⟨ht,_⟩
  ·exact .mp h' ha
  ·rw[ha]at ht;cases ht
 |fE V hB hc h1 hv ih=>
  intro ρ' _
  exact .fE V (hF _ hB) (fun j c hj=>by rw[hk.cell hB];exact hc j c hj) h1 (fun j c hj=>ih j c hj (j0 _))
 |aA V hcap hfull hz hat h1 hv ih=>
  intro ρ' _
  refine .aA V hcap hfull hz ?_ h1 (fun i j cs c hi hj=>ih i j cs c hi hj (j0 _))
  rcases hat with h0|⟨B,o,ha,hB,hc⟩
  ·exact .inl h0
  ·exact .inr ⟨B,o,ha,hF _ hB,fun i j cs c hi hj=>by rw[hk.cell hB];exact hc i j cs c hi hj⟩
 |agg hn h1 hv ih=>
  intro ρ' hle
  exact .agg hn h1 (fun j c v hj hv=>ih j c v hj hv hle)
 |ba hn hv ih=>
  intro ρ' hle
  exact .ba hn (fun j c v hj hv=>ih j c v hj hv hle)
 |fn hn hv ih=>
  intro ρ' hle
  exact .fn hn (fun j c v hj hv=>ih j c v hj hv hle)
 |oC hn hv ih=>
  intro ρ' hle
  exact .oC hn (fun j c v hj hv=>ih j c v hj hv hle)
def Map.cut(ρ:Map)(N:Nat):Map:=fun b=>if b<N then ρ b else none
theorem Map.sN(ρ:Map)(N:Nat):(ρ.cut N).le ρ:=fun b l h=>by
 unfold Map.cut at h
 split at h
 ·exact⟨l,h,.inl rfl⟩
 ·cases h
theorem eL{cs:List SV}{N:Nat}(h:SV.refs.au cs≤N):∀(j:Nat) c,cs[j]?=some c→c.refs≤N:=by
 induction cs with
 |nil=>intro j c hj;simp at hj
 |cons x r ih=>
  intro j c hj
  simp only[SV.refs.au]at h
  cases j with
  |zero=>simp at hj;subst hj;omega
  |succ j=>simp at hj;exact ih (by omega) j c hj
theorem VR.cut{w:World}{F:Nat→Prop}{ρ:Map}{c:SV}{v:Value}(h:VR w F ρ c v):∀N,c.refs≤N→VR w F (ρ.cut N) c v:=by
 have at':∀{ρ:Map} {b N:Nat} {l:Loc},ρ b=some l→b+1≤N→ρ.cut N b=some l:=fun h hb=>by
  unfold Map.cut;rw[if_pos (by omega)];exact h
 induction h with
 |undef v=>exact fun _ _=>.undef v
 |iz=>exact fun _ _=>.iz
 |bool b=>exact fun _ _=>.bool b
 |int k n=>exact fun _ _=>.int k n
 |str s=>exact fun _ _=>.str s
 |cY=>exact fun _ _=>.cY
 |c0=>exact fun _ _=>.c0
 |ptr h hv hc ha=>exact fun N hN=>.ptr (at' h hN) hv hc ha
 |bp h hv hc ha=>exact fun N hN=>.bp (at' h hN) hv hc ha
 |fp h ha=>exact fun N hN=>.fp (at' h hN) ha
 |mp h ha=>exact fun N hN=>.mp (at' h hN) ha
 |fE V hB hc h1 hv ih=>exact fun N _=>.fE V hB hc h1 hv
 |aA V hcap hfull hz hat h1 hv ih=>exact fun N _=>.aA V hcap hfull hz hat h1 hv
 |agg hn h1 hv ih=>exact fun N hN=>.agg hn h1 (fun j c v hj hv=>ih j c v hj hv N (eL hN j c hj))
 |ba hn hv ih=>exact fun N hN=>.ba hn (fun j c v hj hv=>ih j c v hj hv N (eL hN j c hj))
 |fn hn hv ih=>exact fun N hN=>.fn hn (fun j c v hj hv=>ih j c v hj hv N (eL hN j c hj))
 |oC hn hv ih=>exact fun N hN=>.oC hn (fun j c v hj hv=>ih j c v hj hv N (eL hN j c hj))
def mg:kT→Option Code
 | .normal=>none
 | .exit id=>some (.exit id)
 | .ret=>some .ret
def ER(w:World)(F:Nat→Prop)(ρ:Map)(e:Env)(tmps:Array Value):Prop:=∀t,VR w F ρ (get e t) (tmps.getD t undef)
structure Ctx where
 P:Program
 dz:yN
def ko(fz:Nat×Nat)(n:Nat):Prop:=∀o,o<n→(decide (fz.1≤o)&&decide (o<fz.2))=false
def bG(w:World)(F:Nat→Prop)(ρ:Map)(vs:Array Value)(at_:Nat)(cs:List SV):Prop:=
 ∀(j:Nat) c,cs[j]?=some c→∃v,vs[at_+j]?=some v∧VR w F ρ c v∧c.iu=true
def lZ(w:World)(F:Nat→Prop)(ρ:Map):List MapEntry→List (SV×SV)→Prop
 |[],[]=>True
 |e::en,(k,v)::es=>oq k=some e.key∧v.iu=true∧VR w F ρ v e.val∧lZ w F ρ en es
 |_,_=>False
def BR(C:Ctx)(w:World)(F:Nat→Prop)(ρ:Map)(l:Loc):aD→Prop
 | .dead=>True
 | .box cs=>l.bB=false∧l.arr=false∧l.base=0∧l.cw=0∧l.bP=cs.length∧∃vs ty fz,w.heap[l.cg]?=some (.cells vs ty fz)∧ko fz vs.size∧vs.size=cs.length∧bG w F ρ vs 0 cs
 | .arr cw z L exact=>l.arr=true∧l.cw=cw∧l.bP=z∧(∀(i:Nat) cs,L[i]?=some cs→cs.length=z)∧L.length≤l.cap∧(exact=true→l.cap=L.length)∧
    (l.bB=true→l.cap=0)∧
    (l.bB=false→∃vs ty fz,w.heap[l.cg]?=some (.cells vs ty fz)∧ko fz vs.size∧l.base+l.cap*z≤vs.size∧
      ∀(i:Nat) cs,L[i]?=some cs→bG w F ρ vs (l.base+i*z) cs)
 | .loop r st pend=>l.bB=false∧l.arr=false∧∃q:Loop,w.heap[l.cg]?=some (.loop q)∧q.state=st∧q.pending=mg pend∧q.params.toList=r.ps∧
    (∃g nt,nt≤q.tmps.size∧(∀t∈r.ps,t<nt)∧eD C.P C.dz g nt q.assign=some r.assign∧eD C.P C.dz g nt q.body=some r.body)∧ER w F ρ r.env q.tmps
 | .map es=>l.bB=false∧l.arr=false∧∃(en:Array MapEntry) (cl:Nat),w.heap[l.cg]?=some (.map en cl)∧lZ w F ρ en.toList es
section
def aD.live:aD→Bool
 | .dead=>false
 |_=>true
def Own(ρ:Map)(H:ab)(b:Nat)(l:Loc):Prop:=(∃x,H.bl[b]?=some x∧x.live=true)∧ρ b=some l∧l.bB=false
structure HR(C:Ctx)(ρ:Map)(F:Nat→Prop)(H:ab)(w:World):Prop where
 jn:∀b l,ρ b=some l→b<H.bl.length
 live:∀(b:Nat) x,H.bl[b]?=some x→x.live=true→∃l,ρ b=some l∧BR C w F ρ l x
 apart:∀b b' l l',Own ρ H b l→Own ρ H b' l'→l.cg=l'.cg→b=b'
 own:∀b l,Own ρ H b l→¬F l.cg∧l.cg<w.heap.size
 gW:∀B,F B→B<w.heap.size
def Clean(N:Nat)(es:List (Nat×Nat)):Prop:=∀p∈es,¬(p.1<N∧N<p.2)
def Bx(C:Ctx)(N:Nat)(ρ:Map)(F:Nat→Prop)(H:ab)(w:World):Prop:=∀b x l,b<N→H.bl[b]?=some x→x.live=true→ρ b=some l→BR C w F (ρ.cut N) l x
structure Ext0(C:Ctx)(ρ:Map)(F:Nat→Prop)(H:ab)(w:World)(ρ':Map)(F':Nat→Prop)(H':ab)(w':World):Prop where
 map:∀b l,ρ b=some l→∃l',ρ' b=some l'∧(l'=l∨(H.ro≤b∧l.arr=true∧l.cw<l'.cw))
 gW:∀B,F B→F' B
 new:∀B,F' B→F B∨w.heap.size≤B∨∃b l,Own ρ H b l∧H.ro≤b∧l.cg=B
 frame:∀B,B<w.heap.size→(∀b l,Own ρ H b l→H.ro≤b→l.cg≠B)→w'.heap[B]?=w.heap[B]?
 size:w.heap.size≤w'.heap.size
 old:∀b l',Own ρ' H' b l'→w.heap.size≤l'.cg∨∃l,Own ρ H b l∧l.cg=l'.cg
 ro:H'.ro=H.ro
 bQ:∀p∈H.bQ,p∈H'.bQ
 inv:∀N,N≤H'.bl.length→Clean N H'.bQ→(N≤H.bl.length→Bx C N ρ F H w)→Bx C N ρ' F' H' w'
 lp:∀(B:Nat) (q:Loop),w.heap[B]?=some (.loop q)→∃q':Loop,w'.heap[B]?=some (.loop q')
 ln:H.bl.length≤H'.bl.length
 out:w'.os=w.os∧w'.output=w.output
structure Ext(C:Ctx)(ρ:Map)(F:Nat→Prop)(H:ab)(w:World)(ρ':Map)(F':Nat→Prop)(H':ab)(w':World):Prop extends Ext0 C ρ F H w ρ' F' H' w' where
 nd:∀b l',ρ' b=some l'→(∃l,ρ b=some l)∨H.bl.length≤b
section
variable{C:Ctx}{ρ ρ' ρ'':Map}{F F' F'':Nat→Prop}{H H' H'':ab}{w w' w'':World}
theorem Ext.refl(ρ:Map)(F:Nat→Prop)(H:ab)(w:World):Ext C ρ F H w ρ F H w:=
 ⟨⟨fun _ l h=>⟨l,h,.inl rfl⟩,fun _ h=>h,fun _ h=>.inl h,fun _ _ _=>rfl,Zp _,fun _ l h=>.inr ⟨l,h,rfl⟩,rfl,fun _ h=>h,fun N hN _ h=>h hN,fun _ q h=>⟨q,h⟩,Zp _,⟨rfl,rfl⟩⟩,fun _ l h=>.inl ⟨l,h⟩⟩
theorem Ext0.trans(h:Ext0 C ρ F H w ρ' F' H' w')(h':Ext0 C ρ' F' H' w' ρ'' F'' H'' w''):Ext0 C ρ F H w ρ'' F'' H'' w'' where
 map:=fun b l hl=>by
  obtain⟨l1,h1,e1⟩:=h.map b l hl
  obtain⟨l2,h2,e2⟩:=h'.map b l1 h1
  refine⟨l2,h2,?_⟩
  rcases e1 with rfl|⟨r1,a1,v1⟩
  ·rcases e2 with rfl|⟨r2,a2,v2⟩
   ·exact .inl rfl
   ·exact .inr ⟨h.ro▸r2,a2,v2⟩
  ·rcases e2 with rfl|⟨_,_,v2⟩
   ·exact .inr ⟨r1,a1,v1⟩
   ·exact .inr ⟨r1,a1,by omega⟩
 gW:=fun B hB=>h'.gW B (h.gW B hB)
 new:=fun B hB=>by
  rcases h'.new B hB with h1|h1|⟨b,l,ho,hr,rfl⟩
  ·exact h.new B h1
  ·exact .inr (.inl (ZN h.size h1))
  ·rcases h.old b l ho with h2|⟨l0,h2,e2⟩
   ·exact .inr (.inl h2)
   ·exact .inr (.inr ⟨b,l0,h2,h.ro▸hr,e2⟩)
 frame:=fun B hB hno=>by
  rw[h'.frame B (aaf hB h.size) (fun b l ho hr e=>?_),h.frame B hB hno]
  rcases h.old b l ho with h2|⟨l0,h2,e2⟩
  ·omega
  ·exact hno b l0 h2 (h.ro▸hr) (e2.trans e)
 size:=ZN h.size h'.size
 old:=fun b l ho=>by
  rcases h'.old b l ho with h1|⟨l1,h1,e1⟩
  ·exact .inl (ZN h.size h1)
  ·rcases h.old b l1 h1 with h2|⟨l0,h2,e2⟩
   ·exact .inl (e1▸h2)
   ·exact .inr ⟨l0,h2,e2.trans e1⟩
 ro:=h'.ro.trans h.ro
 bQ:=fun p hp=>h'.bQ p (h.bQ p hp)
 inv:=fun N hN hc h0=>h'.inv N hN hc (fun hN'=>h.inv N hN' (fun p hp=>hc p (h'.bQ p hp)) h0)
 lp:=fun B q hq=>let⟨q1,h1⟩:=h.lp B q hq;h'.lp B q1 h1
 ln:=ZN h.ln h'.ln
 out:=⟨h'.out.1.trans h.out.1,h'.out.2.trans h.out.2⟩
theorem Ext.trans(h:Ext C ρ F H w ρ' F' H' w')(h':Ext C ρ' F' H' w' ρ'' F'' H'' w''):Ext C ρ F H w ρ'' F'' H'' w'':=
 ⟨h.toExt0.trans h'.toExt0,fun b l hl=>by
   rcases h'.nd b l hl with⟨l1,h1⟩|h1
   ·exact h.nd b l1 h1
   ·exact .inr (ZN h.ln h1)⟩
theorem Ext0.le(h:Ext0 C ρ F H w ρ' F' H' w'):ρ.le ρ':=fun b l hl=>by
 obtain⟨l',h1,e⟩:=h.map b l hl
 exact⟨l',h1,e.imp id (fun⟨_,a,v⟩=>⟨a,v⟩)⟩
theorem Ext0.keeps(h:Ext0 C ρ F H w ρ' F' H' w')(hr:HR C ρ F H w):dy F w w':=fun B hB=>
 h.frame B (hr.gW B hB) (fun b l ho _ e=>(hr.own b l ho).1 (e▸hB))
theorem Ext0.vr(h:Ext0 C ρ F H w ρ' F' H' w')(hr:HR C ρ F H w){c:SV}{v:Value}(hv:VR w F ρ c v):VR w' F' ρ' c v:=
 hv.mono (h.keeps hr) h.gW h.le
theorem Ext0.er(h:Ext0 C ρ F H w ρ' F' H' w')(hr:HR C ρ F H w){e:Env}{t:Array Value}(hv:ER w F ρ e t):ER w' F' ρ' e t:=
 fun i=>h.vr hr (hv i)
theorem bG.mono(hk:dy F w w')(hF:∀B,F B→F' B)(hle:ρ.le ρ'){vs:Array Value}{n:Nat}{cs:List SV}(h:bG w F ρ vs n cs):bG w' F' ρ' vs n cs:=
 fun j c hj=>let⟨v,hv,hr,h1⟩:=h j c hj;⟨v,hv,hr.mono hk hF hle,h1⟩
theorem lZ.mono(hk:dy F w w')(hF:∀B,F B→F' B)(hle:ρ.le ρ'):∀{en:List MapEntry} {es:List (SV×SV)},lZ w F ρ en es→lZ w' F' ρ' en es
 |[],[],_=>trivial
 |_::_,(_,_)::_,⟨h1,h2,h3,h4⟩=>⟨h1,h2,h3.mono hk hF hle,lZ.mono hk hF hle h4⟩
 |[],_::_,h=>h.elim
 |_::_,[],h=>h.elim
theorem BR.mono(hk:dy F w w')(hF:∀B,F B→F' B)(hle:ρ.le ρ'){l:Loc}{x:aD}(hb:l.bB=false→w'.heap[l.cg]?=w.heap[l.cg]?)
 (h:BR C w F ρ l x):BR C w' F' ρ' l x:=by
 cases x with
 |dead=>trivial
 |box cs=>
  obtain⟨h1,h2,h3,h4,h5,vs,ty,fz,h6,h7,h8,h9⟩:=h
  exact⟨h1,h2,h3,h4,h5,vs,ty,fz,(hb h1).trans h6,h7,h8,h9.mono hk hF hle⟩
 |arr cw z L exact'=>
  obtain⟨h1,h2,h3,h4,h5,h6,h7,h8⟩:=h
  refine⟨h1,h2,h3,h4,h5,h6,h7,fun hv=>?_⟩
  obtain⟨vs,ty,fz,a,b,c,d⟩:=h8 hv
  exact⟨vs,ty,fz,(hb hv).trans a,b,c,fun i cs hi=>(d i cs hi).mono hk hF hle⟩
 |loop r st pend=>
  obtain⟨h1,h2,q,h3,h4,h5,h6,h7,h8⟩:=h
  exact⟨h1,h2,q,(hb h1).trans h3,h4,h5,h6,h7,fun t=>(h8 t).mono hk hF hle⟩
 |map es=>
  obtain⟨h1,h2,en,cl,h3,h4⟩:=h
  exact⟨h1,h2,en,cl,(hb h1).trans h3,h4.mono hk hF hle⟩
theorem HR.same(hr:HR C ρ F H w)(hs:w.heap.size≤w'.heap.size)(hh:∀B,B<w.heap.size→w'.heap[B]?=w.heap[B]?)(hout:w'.os=w.os∧w'.output=w.output:=by exact⟨rfl,rfl⟩):HR C ρ F H w'∧Ext C ρ F H w ρ F H w':=by
 have hk:dy F w w':=fun B hB=>hh B (hr.gW B hB)
 refine⟨⟨hr.jn,fun b x hb hx=>?_,hr.apart,fun b l ho=>⟨(hr.own b l ho).1,aaf (hr.own b l ho).2 hs⟩,fun B hB=>aaf (hr.gW B hB) hs⟩,?_⟩
 ·obtain⟨l,hl,hbr⟩:=hr.live b x hb hx
  exact⟨l,hl,hbr.mono hk (fun _ h=>h) (Map.le_refl _) (fun hv=>hh _ (hr.own b l ⟨⟨x,hb,hx⟩,hl,hv⟩).2)⟩
 ·refine⟨⟨fun _ l h=>⟨l,h,.inl rfl⟩,fun _ h=>h,fun _ h=>.inl h,fun B hB _=>hh B hB,hs,fun _ l h=>.inr ⟨l,h,rfl⟩,rfl,fun _ h=>h,fun N hN _ h0 b x l hb hx hxl hl=>?_,fun B q hq=>⟨q,(hh B (ZG.1 hq).1).trans hq⟩,Zp _,hout⟩,fun _ l h=>.inl ⟨l,h⟩⟩
  exact(h0 hN b x l hb hx hxl hl).mono hk (fun _ h=>h) (Map.le_refl _) (fun hv=>hh _ (hr.own b l ⟨⟨x,hx,hxl⟩,hl,hv⟩).2)
def Map.put(ρ:Map)(b:Nat)(l:Loc):Map:=fun b'=>if b'=b then some l else ρ b'
theorem Map.bF(ρ:Map)(b:Nat)(l:Loc):ρ.put b l b=some l:=by simp[Map.put]
theorem Map.bm(ρ:Map){b b':Nat}(l:Loc)(h:b'≠b):ρ.put b l b'=ρ b':=by simp[Map.put,h]
theorem HR.push(hr:HR C ρ F H w)(hs:w.heap.size≤w'.heap.size)(hh:∀B,B<w.heap.size→w'.heap[B]?=w.heap[B]?)
 (x:aD) (l:Loc) (hl:l.bB=false→w.heap.size≤l.cg∧l.cg<w'.heap.size) (hx:BR C w' F (ρ.put H.bl.length l) l x) (hout:w'.os=w.os∧w'.output=w.output:=by exact⟨rfl,rfl⟩) :
 HR C (ρ.put H.bl.length l) F (bH H x) w'∧Ext C ρ F H w (ρ.put H.bl.length l) F (bH H x) w':=by
 have hne:∀b l',ρ b=some l'→b≠H.bl.length:=fun b l' h=>aaS (hr.jn b l' h)
 have hle:ρ.le (ρ.put H.bl.length l):=fun b l' h=>⟨l',by rw[Map.bm _ _ (hne b l' h)];exact h,.inl rfl⟩
 have hk:dy F w w':=fun B hB=>hh B (hr.gW B hB)
 have hown:∀b l',Own (ρ.put H.bl.length l) (bH H x) b l'→(b=H.bl.length∧l'=l)∨Own ρ H b l':=by
  intro b l' ⟨⟨y,hy,hyl⟩,hm,hv⟩
  by_cases hb:b=H.bl.length
  ·subst hb
   rw[Map.bF]at hm
   exact .inl ⟨rfl,by cases hm;rfl⟩
  ·rw[Map.bm _ _ hb]at hm
   refine .inr ⟨⟨y,?_,hyl⟩,hm,hv⟩
   have hlt:=hr.jn b l' hm
   simpa[bH,Zm hlt]using hy
 refine⟨⟨fun b l' h=>?_,fun b y hb hy=>?_,fun b b' l1 l2 h1 h2 he=>?_,fun b l' ho=>?_,fun B hB=>aaf (hr.gW B hB) hs⟩,?_⟩
 ·by_cases hb:b=H.bl.length
  ·subst hb;simp[bH]
  ·rw[Map.bm _ _ hb]at h
   have:=hr.jn b l' h
   simp[bH];omega
 ·by_cases hb':b=H.bl.length
  ·subst hb'
   simp[bH]at hb
   subst hb
   exact⟨l,Map.bF _ _ _,hx⟩
  ·have hlt:b<H.bl.length:=by
    have:=(Y8.1 hb).1
    simp[bH]at this;omega
   rw[bH,Zm hlt]at hb
   obtain⟨l',hl',hbr⟩:=hr.live b y hb hy
   exact⟨l',by rw[Map.bm _ _ hb'];exact hl',hbr.mono hk (fun _ h=>h) hle (fun hv=>hh _ (hr.own b l' ⟨⟨y,hb,hy⟩,hl',hv⟩).2)⟩
 ·rcases hown b l1 h1 with⟨e1,f1⟩|o1<;>rcases hown b' l2 h2 with⟨e2,f2⟩|o2
  ·rw[e1,e2]
  ·subst f1
   have:=(hr.own b' l2 o2).2
   have:=(hl h1.2.2).1
   omega
  ·subst f2
   have:=(hr.own b l1 o1).2
   have:=(hl h2.2.2).1
   omega
  ·exact hr.apart b b' l1 l2 o1 o2 he
 ·rcases hown b l' ho with⟨_,f1⟩|o1
  ·subst f1
   have h1:=hl ho.2.2
   exact⟨fun hF=>by have:=hr.gW _ hF;omega,h1.2⟩
  ·have h1:=hr.own b l' o1
   exact⟨h1.1,aaf h1.2 hs⟩
 ·refine⟨⟨fun b l' h=>⟨l',by rw[Map.bm _ _ (hne b l' h)];exact h,.inl rfl⟩,fun _ h=>h,fun _ h=>.inl h,fun B hB _=>hh B hB,hs,fun b l' ho=>?_,rfl,fun _ h=>h,fun N hN _ h0 b y l' hb hy hyl hm=>?_,fun B q hq=>⟨q,(hh B (ZG.1 hq).1).trans hq⟩,by simp[bH],hout⟩,fun b l' h=>?_⟩
  ·rcases hown b l' ho with⟨_,f1⟩|o1
   ·subst f1;exact .inl (hl ho.2.2).1
   ·exact .inr ⟨l',o1,rfl⟩
  ·have hN':N≤H.bl.length+1:=by simpa[bH]using hN
   by_cases hb':b=H.bl.length
   ·subst hb'
    rw[Map.bF]at hm;cases hm
    simp[bH]at hy
    subst hy
    refine hx.mono (fun _ _=>rfl) (fun _ h=>h) (fun b1 l1 h1=>⟨l1,?_,.inl rfl⟩) (fun _=>rfl)
    have:b1<N:=by
     by_cases e:b1=H.bl.length
     ·omega
     ·rw[Map.bm _ _ e]at h1
      have:=hr.jn b1 l1 h1
      omega
    simp[Map.cut,this,h1]
   ·have hlt:b<H.bl.length:=by omega
    rw[Map.bm _ _ hb']at hm
    rw[bH,Zm hlt]at hy
    have hsm:=fun hv=>hh l'.cg (hr.own b l' ⟨⟨y,hy,hyl⟩,hm,hv⟩).2
    by_cases hNl:N≤H.bl.length
    ·refine(h0 hNl b y l' hb hy hyl hm).mono hk (fun _ h=>h) (fun b1 l1 h1=>⟨l1,?_,.inl rfl⟩) hsm
     unfold Map.cut at h1⊢
     split at h1
     ·rename_i h2;rw[if_pos h2,Map.bm _ _ (by omega)];exact h1
     ·cases h1
    ·obtain⟨l2,h2,hbr⟩:=hr.live b y hy hyl
     rw[hm]at h2;cases h2
     refine hbr.mono hk (fun _ h=>h) (fun b1 l1 h1=>⟨l1,?_,.inl rfl⟩) hsm
     have:=hr.jn b1 l1 h1
     unfold Map.cut
     rw[if_pos (by omega),Map.bm _ _ (by omega)];exact h1
  ·by_cases hb':b=H.bl.length
   ·exact .inr (by omega)
   ·rw[Map.bm _ _ hb']at h;exact .inl ⟨l',h⟩
theorem HR.set(hr:HR C ρ F H w){b:Nat}{x y:aD}{l l':Loc}{refs:Nat}(hH:cp H b y refs=some H')(hb:H.bl[b]?=some x)(hx:x.live=true)(hl:ρ b=some l)
 (hs:w.heap.size≤w'.heap.size) (hh:∀B,B<w.heap.size→(l.bB=false→B≠l.cg)→w'.heap[B]?=w.heap[B]?)
 (hl':l'.bB=false→(l.bB=false∧l'.cg=l.cg)∨(w.heap.size≤l'.cg∧l'.cg<w'.heap.size))
 (hver:l'=l∨(l.arr=true∧l.cw<l'.cw))
 (hy:y.live=true→BR C w' F (ρ.put b l') l' y) (hcut:y.live=true→∀N,refs≤N→b<N→BR C w F (ρ.cut N) l x→BR C w' F ((ρ.put b l').cut N) l' y)
 (hlk:(∃r st p,x=.loop r st p)→∃r st p,y=.loop r st p:=by(rintro⟨_,_,_,h⟩;cases h)) (hout:w'.os=w.os∧w'.output=w.output:=by exact⟨rfl,rfl⟩) :
 HR C (ρ.put b l') F H' w'∧Ext C ρ F H w (ρ.put b l') F H' w':=by
 have hro:H.ro≤b∧b<H.bl.length∧H'.bl=H.bl.set b y∧H'.ro=H.ro∧H'.bQ=(bif decide (refs≤b+1)then H.bQ else(b,refs)::H.bQ):=by
  unfold cp at hH
  by_cases h:(decide (H.ro≤b)&&decide (b<H.bl.length))=true
  ·rw[h]at hH
   simp at h
   simp only[Zr,Zs]at hH
   subst hH
   exact⟨h.1,h.2,rfl,rfl,rfl⟩
  ·rw[aa6]at h;rw[h]at hH;simp at hH
 obtain⟨hro,hlt,hbl,hroe,hesc⟩:=hro
 have hle:ρ.le (ρ.put b l'):=fun b' l1 h=>by
  by_cases e:b'=b
  ·subst e;rw[hl]at h;cases h;exact⟨l',Map.bF _ _ _,hver⟩
  ·exact⟨l1,by rw[Map.bm _ _ e];exact h,.inl rfl⟩
 have hbo:l.bB=false→Own ρ H b l:=fun hv=>⟨⟨x,hb,hx⟩,hl,hv⟩
 have hk:dy F w w':=fun B hB=>hh B (hr.gW B hB) (fun hv e=>(hr.own b l (hbo hv)).1 (e▸hB))
 have bk:∀b',b'≠b→H'.bl[b']?=H.bl[b']?:=fun b' e=>by rw[hbl,Zg (Ne.symm e)]
 have hgetb:H'.bl[b]?=some y:=by rw[hbl];simp[hlt]
 have hown:∀b' l1,Own (ρ.put b l') H' b' l1→(b'=b∧l1=l'∧y.live=true)∨(b'≠b∧Own ρ H b' l1):=by
  intro b' l1 ⟨⟨z,hz,hzl⟩,hm,hv⟩
  by_cases e:b'=b
  ·subst e
   rw[Map.bF]at hm;cases hm
   rw[hgetb]at hz;cases hz
   exact .inl ⟨rfl,rfl,hzl⟩
  ·rw[Map.bm _ _ e]at hm
   rw[bk b' e]at hz
   exact .inr ⟨e,⟨z,hz,hzl⟩,hm,hv⟩
 have hsame:∀b' l1,b'≠b→Own ρ H b' l1→w'.heap[l1.cg]?=w.heap[l1.cg]?:=fun b' l1 e ho=>
  hh _ (hr.own b' l1 ho).2 (fun hv h=>e (hr.apart b' b l1 l ho (hbo hv) h))
 refine⟨⟨fun b' l1 h=>?_,fun b' z hz hzl=>?_,fun b1 b2 l1 l2 h1 h2 he=>?_,fun b' l1 ho=>?_,fun B hB=>aaf (hr.gW B hB) hs⟩,?_⟩
 ·rw[hbl,Zv]
  by_cases e:b'=b
  ·subst e;exact hlt
  ·rw[Map.bm _ _ e]at h;exact hr.jn b' l1 h
 ·by_cases e:b'=b
  ·subst e
   rw[hgetb]at hz;cases hz
   exact⟨l',Map.bF _ _ _,hy hzl⟩
  ·rw[bk b' e]at hz
   obtain⟨l1,hl1,hbr⟩:=hr.live b' z hz hzl
   exact⟨l1,by rw[Map.bm _ _ e];exact hl1,hbr.mono hk (fun _ h=>h) hle (fun hv=>hsame b' l1 e ⟨⟨z,hz,hzl⟩,hl1,hv⟩)⟩
 ·rcases hown b1 l1 h1 with⟨e1,f1,_⟩|⟨e1,o1⟩<;>rcases hown b2 l2 h2 with⟨e2,f2,_⟩|⟨e2,o2⟩
  ·rw[e1,e2]
  ·subst f1
   rcases hl' h1.2.2 with⟨hv,hq⟩|hq
   ·exact absurd (hr.apart b2 b l2 l o2 (hbo hv) (by rw[←he,hq])) e2
   ·have:=(hr.own b2 l2 o2).2;omega
  ·subst f2
   rcases hl' h2.2.2 with⟨hv,hq⟩|hq
   ·exact absurd (hr.apart b1 b l1 l o1 (hbo hv) (by rw[he,hq])) e1
   ·have:=(hr.own b1 l1 o1).2;omega
  ·exact hr.apart b1 b2 l1 l2 o1 o2 he
 ·rcases hown b' l1 ho with⟨_,f1,_⟩|⟨_,o1⟩
  ·subst f1
   rcases hl' ho.2.2 with⟨hv,hq⟩|hq
   ·have:=hr.own b l (hbo hv)
    exact⟨hq▸this.1,hq▸aaf this.2 hs⟩
   ·exact⟨fun hF=>by have:=hr.gW _ hF;omega,hq.2⟩
  ·have:=hr.own b' l1 o1
   exact⟨this.1,aaf this.2 hs⟩
 ·refine⟨⟨fun b' l1 h=>?_,fun _ h=>h,fun _ h=>.inl h,fun B hB hno=>hh B hB (fun hv e=>hno b l (hbo hv) hro e.symm),hs,fun b' l1 ho=>?_,hroe,fun p hp=>?_,fun N hN hc h0 b' z l1 hb1 hz hzl hm=>?_,fun B q hq=>?_,by rw[hbl,Zv];exact Zp _,hout⟩,fun b' l1 h=>?_⟩
  ·by_cases e:b'=b
   ·subst e;rw[hl]at h;cases h
    exact⟨l',Map.bF _ _ _,hver.imp id (fun⟨a,v⟩=>⟨hro,a,v⟩)⟩
   ·exact⟨l1,by rw[Map.bm _ _ e];exact h,.inl rfl⟩
  ·rcases hown b' l1 ho with⟨e1,f1,_⟩|⟨e1,o1⟩
   ·subst f1;subst e1
    rcases hl' ho.2.2 with⟨hv,hq⟩|hq
    ·exact .inr ⟨l,hbo hv,hq.symm⟩
    ·exact .inl hq.1
   ·exact .inr ⟨l1,o1,rfl⟩
  ·rw[hesc]
   cases decide (refs≤b+1)with
   |true=>exact hp
   |false=>exact ZS _ hp
  ·have hN':N≤H.bl.length:=by rw[hbl,Zv]at hN;exact hN
   by_cases e:b'=b
   ·subst e
    rw[hgetb]at hz;cases hz
    rw[Map.bF]at hm;cases hm
    refine hcut hzl N ?_ hb1 (h0 hN' b' x l hb1 hb hx hl)
    by_cases hd:refs≤b'+1
    ·omega
    ·have:(b',refs)∈H'.bQ:=by
      rw[hesc];simp[hd]
     have:=hc _ this
     simp only at this
     omega
   ·rw[bk b' e]at hz
    rw[Map.bm _ _ e]at hm
    refine(h0 hN' b' z l1 hb1 hz hzl hm).mono hk (fun _ h=>h) (fun b1 l2 h1=>?_) (fun hv=>hsame b' l1 e ⟨⟨z,hz,hzl⟩,hm,hv⟩)
    unfold Map.cut at h1⊢
    split at h1
    ·rename_i h2
     rw[if_pos h2]
     by_cases e1:b1=b
     ·subst e1;rw[hl]at h1;cases h1;exact⟨l',Map.bF _ _ _,hver⟩
     ·exact⟨l2,by rw[Map.bm _ _ e1];exact h1,.inl rfl⟩
    ·cases h1
  ·have hB:=(ZG.1 hq).1
   by_cases hbl:l.bB=false∧B=l.cg
   ·obtain⟨hv,rfl⟩:=hbl
    obtain⟨l1,hl1,hbr⟩:=hr.live b x hb hx
    rw[hl]at hl1;cases hl1
    cases x with
    |dead=>cases hx
    |box cs=>obtain⟨_,_,_,_,_,vs,ty,fz,h6,_⟩:=hbr;rw[hq]at h6;cases h6
    |arr cw z L ex=>
     obtain⟨_,_,_,_,_,_,_,h8⟩:=hbr
     obtain⟨vs,ty,fz,h6,_⟩:=h8 hv
     rw[hq]at h6;cases h6
    |map es=>obtain⟨_,_,en,cl,h6,_⟩:=hbr;rw[hq]at h6;cases h6
    |loop r st p=>
     obtain⟨r',st',p',rfl⟩:=hlk ⟨r,st,p,rfl⟩
     obtain⟨_,ha,_⟩:=hbr
     have:l'=l:=by
      rcases hver with e|⟨e,_⟩
      ·exact e
      ·rw[ha]at e;cases e
     subst this
     obtain⟨_,_,q',h3,_⟩:=hy rfl
     exact⟨q',h3⟩
   ·exact⟨q,(hh B hB (fun hv e=>hbl ⟨hv,e⟩)).trans hq⟩
  ·by_cases e:b'=b
   ·subst e;exact .inl ⟨l,hl⟩
   ·rw[Map.bm _ _ e]at h;exact .inl ⟨l1,h⟩
end
end
section
section
variable{C:Ctx}{ρ:Map}{F:Nat→Prop}{H H':ab}{w w':World}{e:Env}{a:Act}
theorem aj{A:Type}{c:Bool}{x:Option A}{y:A}(h:(bif c then x else none)=some y):c=true∧x=some y:=by
 cases c with
 |true=>exact⟨rfl,h⟩
 |false=>cases h
theorem nB{A:Type}{l:List (Option A)}{r:List A}(h:bN l=some r):l=r.map some:=by
 induction l generalizing r with
 |nil=>simp[bN]at h;subst h;rfl
 |cons x l ih=>
  cases x with
  |none=>simp[bN]at h
  |some x=>
   simp only[bN,Zb]at h
   obtain⟨r',h1,rfl⟩:=h
   rw[ih h1];rfl
theorem dO{A B:Type}{f:A→Option B}{l:List A}{r:List B}(h:bN (l.map f)=some r) :
 r.length=l.length∧∀(j:Nat) x y,l[j]?=some x→r[j]?=some y→f x=some y:=by
 have h1:=nB h
 have hl:r.length=l.length:=by have:=congrArg List.length h1;simpa using this.symm
 refine⟨hl,fun j x y hx hy=>?_⟩
 have h2:=congrArg (·[j]?) h1
 simp[hx,hy]at h2
 exact h2
theorem rY:∀(d:Nat) {v:Value} {s:SV},lH d v=some s→VR w F ρ s v:=by
 intro d
 induction d with
 |zero=>intro v s h;simp[lH]at h
 |succ d ih=>
  intro v s h
  unfold lH at h
  split at h
  ·cases h;exact .bool _
  ·cases h;exact .int _ _
  ·cases h;exact .str _
  ·cases h;exact .cY
  ·cases h
   exact VR.aA (L:=[]) (fun _ _=>undef) (Zp _) (fun _=>rfl) (by simp) (.inl rfl) (by simp) (by simp)
  ·cases h;exact .c0
  ·rename_i cs
   simp only[Zd]at h
   obtain⟨r,h1,h2⟩:=h
   by_cases hok:r.all SV.iu=true
   ·rw[hok]at h2
    simp only[Zr,Zs]at h2
    subst h2
    obtain⟨hl,hp⟩:=dO h1
    refine .agg (by simpa using hl) (fun j c hj=>?_) (fun j c v hj hv=>ih (hp j v c (by simpa using hv) hj))
    exact ZA.1 hok c (Zj hj)
   ·rw[aa6]at hok;rw[hok]at h2;simp at h2
  ·cases h
theorem aZ{x:Operand}{y:bU}(h:bz x=some y)(he:ER w F ρ e a.tmps):VR w F ρ (ev e y) (a.eval x):=by
 unfold bz at h
 split at h
 ·cases h;exact he _
 ·simp only[Zb]at h
  obtain⟨s,h1,rfl⟩:=h
  exact rY 2 h1
 ·cases h
  exact .fn rfl (by simp)
 ·cases h
theorem iC{xs:Array Operand}{ys:List bU}(h:iB xs=some ys)(he:ER w F ρ e a.tmps) :
 (ys.map (ev e)).length=xs.size∧∀(j:Nat) c v,(ys.map (ev e))[j]?=some c→(xs.map a.eval)[j]?=some v→VR w F ρ c v:=by
 obtain⟨hl,hp⟩:=dO h
 refine⟨by simpa using hl,fun j c v hc hv=>?_⟩
 simp at hc hv
 obtain⟨y,hy,rfl⟩:=hc
 obtain⟨x,hx,rfl⟩:=hv
 exact aZ (hp j x y (by simpa using hx) hy) he
def dD(C:Ctx)(ρ:Map)(F:Nat→Prop)(H:ab)(w:World)(v:SV)(H':ab)(val:Value)(w':World):Prop:=
 ∃ρ' F',VR w' F' ρ' v val∧HR C ρ' F' H' w'∧Ext C ρ F H w ρ' F' H' w'
theorem dD.same(hr:HR C ρ F H w){v:SV}{val:Value}(hv:VR w F ρ v val):dD C ρ F H w v H val w:=⟨ρ,F,hv,hr,Ext.refl _ _ _ _⟩
def Dl(P:Program)(w:World)(s:Sem Next)(val:Value)(w':World):Prop:=s.run P w=.ok (.value val) w'∨(s.run P w=.ok .skip w'∧val=undef)
def bJ(C:Ctx)(s:Sem Next)(ρ:Map)(F:Nat→Prop)(H:ab)(w:World)(v:SV)(H':ab):Prop:=
 ∃val w',Dl C.P w s val w'∧dD C ρ F H w v H' val w'
theorem bJ.val{s:Sem Value}(hr:HR C ρ F H w){v:SV}{val:Value}(hs:s.run C.P w=.ok val w)(hv:VR w F ρ v val) :
 bJ C (do pure (.value (←s))) ρ F H w v H:=
 ⟨val,w,.inl (by simp[hs,pure,Sem.run]),dD.same hr hv⟩
theorem bJ.so{s:Sem Value}{v:SV}{val:Value}(hs:s.run C.P w=.ok val w')(hd:dD C ρ F H w v H' val w') :
 bJ C (do pure (.value (←s))) ρ F H w v H':=
 ⟨val,w',.inl (by simp[hs,pure,Sem.run]),hd⟩
theorem eW{cs:List SV}{v:Value}(h:VR w F ρ (.agg cs) v):∃vs,v=.agg vs∧cs.length=vs.size∧bG w F ρ vs 0 cs:=by
 cases h with
 |agg hn h1 hv=>
  rename_i vs
  refine⟨vs,rfl,hn,fun j c hj=>?_⟩
  have hlt:=(Y8.1 hj).1
  have hv':vs[j]?=some vs[j]:=Z4 (by omega)
  exact⟨vs[j],by simpa using hv',hv j c _ hj hv',h1 j c hj⟩
theorem gD{c:SV}{cs:List SV}{v:Value}(h:cm c=some cs)(hv:VR w F ρ c v):cs.length=v.cells.size∧bG w F ρ v.cells 0 cs∧c.refs=SV.refs.au cs:=by
 unfold cm at h
 split at h
 ·cases h
  obtain⟨vs,rfl,h1,h2⟩:=eW hv
  exact⟨h1,h2,rfl⟩
 ·rename_i hna
  by_cases hok:c.iu=true
  ·rw[hok]at h
   simp only[Zr,Zs]at h
   subst h
   have h1:=hv.one hok
   have hc:v.cells= #[v]:=by cases v<;>simp_all [Value.cells,jx]
   rw[hc]
   refine⟨rfl,fun j d hj=>?_,by simp[SV.refs.au]⟩
   cases j with
   |zero=>simp at hj;subst hj;exact⟨v,rfl,hv,hok⟩
   |succ j=>simp at hj
  ·rw[aa6]at hok;rw[hok]at h;simp at h
theorem p9{ag:Bool}{n o at_:Nat}{cs:List SV}{s:SV}{vs:Array Value}(h:cS ag n cs o=some s)(hc:bG w F ρ vs at_ cs)
 (hsz:at_+cs.length≤vs.size):(ag=true→VR w F ρ s (.agg (vs.extract (at_+o) (at_+o+n))))∧(ag=false→∃v,vs[at_+o]?=some v∧VR w F ρ s v):=by
 unfold cS at h
 cases ag with
 |false=>
  refine⟨by simp,fun _=>?_⟩
  simp only[Zu]at h
  obtain⟨v,h1,h2,_⟩:=hc o s h
  exact⟨v,h1,h2⟩
 |true=>
  refine⟨fun _=>?_,by simp⟩
  by_cases hle:o+n≤cs.length
  ·simp[hle]at h
   subst h
   have hj:∀j c,((cs.drop o).take n)[j]?=some c→j<n∧cs[o+j]?=some c:=by
    intro j c hj
    rw[ZC]at hj
    split at hj
    ·rw[ZT]at hj;exact⟨by assumption,hj⟩
    ·cases hj
   refine .agg (by simp;omega) (fun j c h=>?_) (fun j c v h hv=>?_)
   ·obtain⟨_,h2⟩:=hj j c h
    obtain⟨_,_,_,h3⟩:=hc _ c h2
    exact h3
   ·obtain⟨hlt,h2⟩:=hj j c h
    obtain⟨v',h3,h4,_⟩:=hc _ c h2
    rw[abT]at hv
    have:v'=v:=by
     split at hv
     ·rw[←Zk]at h3;rw[h3]at hv;exact aaV hv
     ·cases hv
    exact this▸h4
  ·simp[hle]at h
end
end
section
section
variable{P:Program}{w:World}
theorem eR{t:TypeId}{ag:Bool}(h:iZ P t=some ag):(isAgg t).run P w=.ok ag w:=by
 unfold iZ at h
 cases hu:P.underlying t with
 |none=>rw[hu]at h;cases h
 |some d=>
  rw[hu]at h
  unfold isAgg
  simp only[Sem.run_bind,run_underlying hu,Result.andThen]
  cases d<;>simp at h<;>subst h<;>rfl
theorem bO{t:TypeId}{n:Nat}(h:fD P t=some n):(sizeOf t).run P w=.ok n w:=by
 unfold fD at h
 simp only[Zb]at h
 obtain⟨i,hi,rfl⟩:=h
 unfold sizeOf
 simp only[Sem.run_bind,run_typeInfo w hi,Result.andThen]
 rfl
theorem dc(B o j:Nat):(⟨B,o,none⟩:Addr).add j=⟨B,o+j,none⟩:=by unfold Addr.add;split<;>simp_all
theorem my{B o:Nat}{vs:Array Value}{ty:TypeId}{fz:Nat×Nat}(h:w.heap[B]?=some (.cells vs ty fz)):w.cell? ⟨B,o,none⟩=vs[o]?:=by
 simp[World.cell?,h]
theorem jZ{t:TypeId}{ag:Bool}{n:Nat}(hag:iZ P t=some ag)(hsz:fD P t=some n){B o:Nat}(f:Nat→Value)
 (hc:∀j,j<(if ag then n else 1)→w.cell? ⟨B,o+j,none⟩=some (f j)) :
 (loadVar t ⟨B,o,none⟩).run P w=.ok (if ag then .agg ((List.range n).map f).toArray else f 0) w:=by
 unfold loadVar
 simp only[Sem.run_bind,eR hag,Result.andThen]
 cases ag with
 |true=>
  simp only[if_true]at hc⊢
  simp only[Sem.run_bind,bO hsz,Result.andThen,run_loadCells w ⟨B,o,none⟩ n f (fun j hj=>by rw[dc];exact hc j hj)]
  rfl
 |false=>
  have:=hc 0 (by simp)
  simp only[aaN]at this
  simp only[ZY,if_false,run_load,this]
theorem pA{t:TypeId}{ag:Bool}{n:Nat}(hag:iZ P t=some ag)(hsz:fD P t=some n){B o:Nat}{vs:Array Value}{ty:TypeId}{fz:Nat×Nat}
 (hb:w.heap[B]?=some (.cells vs ty fz)) (hle:o+(if ag then n else 1)≤vs.size) :
 (ag=true→(loadVar t ⟨B,o,none⟩).run P w=.ok (.agg (vs.extract o (o+n))) w)∧(ag=false→∀v,vs[o]?=some v→(loadVar t ⟨B,o,none⟩).run P w=.ok v w):=by
 have h:=jZ (w:=w) hag hsz (B:=B) (o:=o) (fun j=>vs.getD (o+j) undef) (fun j hj=>by
  rw[my hb]
  have:o+j<vs.size:=by omega
  simp[this])
 constructor
 ·rintro rfl
  rw[h]
  simp only[if_true]at hle⊢
  congr 2
  apply Array.ext
  ·simp;omega
  ·intro i h1 h2
   simp at h1
   have:o+i<vs.size:=by omega
   simp[this]
 ·rintro rfl v hv
  rw[h]
  simp[hv]
def ma(vs:Array Value)(k:Nat)(xs:List Value):Array Value:=(vs.toList.take k++xs++vs.toList.drop (k+xs.length)).toArray
def eV(w:World)(B:Nat)(vs:Array Value)(ty:TypeId)(fz:Nat×Nat):World:={w with heap:=w.heap.setIfInBounds B (.cells vs ty fz)}
theorem gG{B B':Nat}{vs:Array Value}{ty:TypeId}{fz:Nat×Nat}(h:B'≠B):(eV w B vs ty fz).heap[B']?=w.heap[B']?:=by
 simp[eV,Z0 (Ne.symm h)]
theorem ry{B:Nat}{vs:Array Value}{ty:TypeId}{fz:Nat×Nat}:(eV w B vs ty fz).heap.size=w.heap.size:=by simp[eV]
theorem iO{B:Nat}{vs:Array Value}{ty:TypeId}{fz:Nat×Nat}(h:B<w.heap.size):(eV w B vs ty fz).heap[B]?=some (.cells vs ty fz):=by
 simp[eV,h]
theorem iA{vs:Array Value}{k:Nat}{xs:List Value}(h:k+xs.length≤vs.size):(ma vs k xs).size=vs.size:=by
 simp[ma];omega
theorem jv{vs:Array Value}{k:Nat}{xs:List Value}(h:k+xs.length≤vs.size)(j:Nat) :
 (ma vs k xs)[j]?=if j<k then vs[j]? else if j<k+xs.length then xs[j-k]? else vs[j]?:=by
 unfold ma
 simp only[aaT]
 rw[Za,aar]
 have hl:(vs.toList.take k).length=k:=by simp;omega
 rw[hl]
 split
 ·rw[ZC];simp[*]
 ·rw[aar]
  split
  ·rw[if_pos (by omega)]
  ·rw[if_neg (by omega),ZT]
   simp only[abY]
   congr 1;omega
theorem HU(v:Value):jx v=v.oneCell':=by cases v<;>rfl
theorem dN(B o:Nat)(ty:TypeId)(fz:Nat×Nat):∀(xs:List Value) (i:Nat) (vs:Array Value) (w:World),w.heap[B]?=some (.cells vs ty fz)→ko fz vs.size→
 o+i+xs.length≤vs.size→(∀v∈xs,jx v=true)→(storeCells ⟨B,o,none⟩ xs i).run P w=.ok () (eV w B (ma vs (o+i) xs) ty fz)
 |[],i,vs,w,hb,ht,hle,h1=>by
  have hB:B<w.heap.size:=(ZG.1 hb).1
  have:ma vs (o+i) []=vs:=by simp[ma]
  rw[this]
  simp only[storeCells]
  have:eV w B vs ty fz=w:=by
   unfold eV
   have:w.heap.setIfInBounds B (.cells vs ty fz)=w.heap:=by
    apply abu
    intro j
    by_cases e:B=j
    ·subst e;rw[hb];simp[hB]
    ·rw[Z0 e]
   rw[this]
  rw[this];rfl
 |v::r,i,vs,w,hb,ht,hle,h1=>by
  have hB:B<w.heap.size:=(ZG.1 hb).1
  simp only[Zw]at hle
  have hlt:o+i<vs.size:=by omega
  have hcell:w.cell? ⟨B,o+i,none⟩=some vs[o+i]:=by rw[my hb];simp[hlt]
  have hfz:w.frozen? ⟨B,o+i,none⟩=false:=by simp only[World.frozen?,hb];exact ht _ hlt
  have cp:w.setCell ⟨B,o+i,none⟩ v=eV w B (vs.setIfInBounds (o+i) v) ty fz:=by
   unfold World.setCell eV
   congr 1
   apply abu
   intro j
   by_cases e:B=j
   ·subst e
    have hb':=(ZG.1 hb).2
    rw[abZ]
    simp[hb,hB]
    rw[hb']
   ·rw[Z0 e]
    simp[abZ,e]
  have hst:(store ((⟨B,o,none⟩:Addr).add i) v).run P w=.ok () (eV w B (vs.setIfInBounds (o+i) v) ty fz):=by
   rw[dc,run_store P w _ v _ (by rw[←HU];exact h1 v (by simp)),hcell]
   simp only[hfz,cp]
   rfl
  have ih:=dN B o ty fz r (i+1) (vs.setIfInBounds (o+i) v) (eV w B (vs.setIfInBounds (o+i) v) ty fz) (iO hB) (by simpa using ht) (by simp;omega) (fun x hx=>h1 x (by simp[hx]))
  simp only[storeCells,Sem.run_bind,hst,Result.andThen_ok,ih]
  congr 1
  unfold eV
  congr 1
  rw[Array.setIfInBounds_setIfInBounds]
  congr 2
  apply abu
  intro j
  rw[jv (by simp;omega),jv (by simp;omega)]
  simp only[Zw]
  by_cases e1:j<o+i
  ·rw[if_pos (by omega),if_pos e1,Z0 (by omega)]
  ·by_cases e2:j=o+i
   ·subst e2
    rw[if_pos (by omega),if_neg (by omega),if_pos (by omega)]
    simp[hlt]
   ·have a1:¬j<o+(i+1):=by omega
    simp only[a1,e1,if_false]
    by_cases e3:j<o+(i+1)+r.length
    ·have e4:j<o+i+(r.length+1):=by omega
     simp only[e3,e4,if_true]
     rw[show j-(o+i)=(j-(o+(i+1)))+1 by omega]
     simp
    ·have e4:¬j<o+i+(r.length+1):=by omega
     simp only[e3,e4,if_false]
     rw[Z0 (by omega)]
theorem jI{t:TypeId}{n:Nat}(hsz:fD P t=some n){B o:Nat}{vs:Array Value}{ty:TypeId}{fz:Nat×Nat}{v:Value}
 (hb:w.heap[B]?=some (.cells vs ty fz)) (ht:ko fz vs.size) (hn:v.cells.size=n) (hle:o+n≤vs.size) (h1:∀x∈v.cells.toList,jx x=true) :
 (storeVar t ⟨B,o,none⟩ v).run P w=.ok () (eV w B (ma vs o v.cells.toList) ty fz):=by
 unfold storeVar
 simp only[Sem.run_bind,bO hsz,Result.andThen,hn,ne_eq,not_true,if_false]
 have:=dN (P:=P) B o ty fz v.cells.toList 0 vs w hb ht (by simp;omega) h1
 simp only[aaN]at this
 simpa[Sem.run_bind]using this
end
end
section
section
variable{C:Ctx}{ρ:Map}{F:Nat→Prop}{H H':ab}{w:World}{e:Env}{a:Act}{s:SV}
theorem zF{v:Value}{cs:List SV}(h:bG w F ρ v.cells 0 cs)(hn:cs.length=v.cells.size):∀x∈v.cells.toList,jx x=true:=by
 intro x hx
 obtain⟨j,hj,rfl⟩:=List.mem_iff_getElem.1 hx
 simp at hj
 obtain⟨v',h1,h2,h3⟩:=h j _ (Zq (by omega))
 have h4:v'=v.cells.toList[j]:=by
  rw[aae,Z4 hj]at h1
  simpa using(aaV h1).symm
 rw[←h4]
 exact h2.one h3
theorem uu(hr:HR C ρ F H w){cs:List SV}{vs:Array Value}{ty:TypeId}(hn:cs.length=vs.size)(hc:bG w F ρ vs 0 cs) :
 dD C ρ F H w (.ptr H.bl.length 0 0 0) (bH H (.box cs)) (.pointer (some ⟨w.heap.size,0,none⟩)) {w with heap:=w.heap.push (.cells vs ty)}:=by
 let l:Loc:={cg:=w.heap.size,base:=0,cap:=0,bP:=cs.length,cw:=0,bB:=false,arr:=false}
 have hh:∀B,B<w.heap.size→({w with heap:=w.heap.push (.cells vs ty)}:World).heap[B]?=w.heap[B]?:=fun B hB=>by
  simp[aaQ,aaS hB]
 have hk:dy F w ({w with heap:=w.heap.push (.cells vs ty)}:World):=fun B hB=>hh B (hr.gW B hB)
 have hle:ρ.le (ρ.put H.bl.length l):=fun b l' h=>⟨l',by rw[Map.bm _ _ (aaS (hr.jn b l' h))];exact h,.inl rfl⟩
 have hp:=hr.push (w':={w with heap:=w.heap.push (.cells vs ty)}) (by simp) hh (.box cs) l (fun _=>⟨Zp _,by simp[l]⟩)
  ⟨rfl,rfl,rfl,rfl,rfl,vs,ty,(0,0),by simp[l],fun o ho=>by simp,hn.symm,hc.mono hk (fun _ h=>h) hle⟩
 exact⟨_,F,.ptr (l:=l) (Map.bF _ _ _) (Zp _) rfl (fun _=>⟨rfl,by simp[l]⟩),hp.1,hp.2⟩
theorem Ch{x:Operand}{y:bU}(hx:bz x=some y)(hr:HR C ρ F H w)(he:ER w F ρ e a.tmps):bJ C (pure (.value (a.eval x))) ρ F H w (ev e y) H:=
 ⟨a.eval x,w,.inl rfl,dD.same hr (aZ hx he)⟩
theorem eu{b:Bool}{v:Value}(h:VR w F ρ (.bool b) v):v=.bool b:=by cases h;rfl
theorem fL{k:IntKind}{n:Int}{v:Value}(h:VR w F ρ (.int k n) v):v=.int k n:=by cases h;rfl
theorem jm{t:ByteArray}{v:Value}(h:VR w F ρ (.str t) v):v=.string t:=by cases h;rfl
theorem D7{c x y:Operand}{c' x' y':bU}(hc:bz c=some c')(hx:bz x=some x')(hy:bz y=some y')(hr:HR C ρ F H w)(he:ER w F ρ e a.tmps)
 (h:ke (ev e c') (ev e x') (ev e y')=some s):bJ C (do pure (.value (if←asBool (a.eval c)then a.eval x else a.eval y))) ρ F H w s H:=by
 have h1:=aZ hc he
 have h2:=aZ hx he
 have h3:=aZ hy he
 generalize ev e c'=c1,ev e x'=x1,ev e y'=y1 at *
 have key:∀t,c1=.bool t→VR w F ρ s (if t then a.eval x else a.eval y)→bJ C (do pure (.value (if←asBool (a.eval c)then a.eval x else a.eval y))) ρ F H w s H:=by
  intro t ht hv
  subst ht
  rw[eu h1]
  exact⟨_,w,.inl rfl,dD.same hr hv⟩
 have ht:∃t,c1=.bool t:=by
  unfold ke at h
  split at h
  ·exact⟨_,rfl⟩
  ·exact⟨_,rfl⟩
  ·cases h
 obtain⟨t,rfl⟩:=ht
 refine key t rfl ?_
 unfold ke at h
 split at h
 ·rename_i h0
  cases h
  cases h0
  rw[eu h2,eu h3]
  cases t<;>exact .bool _
 ·rename_i t' heq _
  cases heq
  cases t<;>simp at h<;>subst h<;>assumption
 ·cases h
theorem HZ{t:TypeId}{x:Operand}{y:bU}(hx:bz x=some y)(hr:HR C ρ F H w)(he:ER w F ρ e a.tmps){cs:List SV}(h:cm (ev e y)=some cs) :
 bJ C (do pure (.value (←Instr.box t (a.eval x)))) ρ F H w (.ptr H.bl.length 0 0 0) (bH H (.box cs)):=by
 obtain⟨h1,h2,_⟩:=gD h (aZ hx he)
 refine bJ.so (w':={w with heap:=w.heap.push (.cells (a.eval x).cells t)}) ?_ (uu hr h1 h2)
 simp[Instr.box,newVar,newRow,newObj,Sem.run]
theorem ga{t:TypeId}{z:List SV}(h:gQ C.P t=some z):∃i v,C.P.info? t=some i∧i.zero=some v∧z.length=v.cells.size∧bG w F ρ v.cells 0 z:=by
 unfold gQ at h
 split at h
 ·rename_i i hi
  split at h
  ·rename_i v hv
   simp only[Zd]at h
   obtain⟨r,h1,h2⟩:=h
   by_cases hok:r.all SV.iu=true
   ·rw[hok]at h2
    simp only[Zr,Zs]at h2
    subst h2
    obtain⟨hl,hp⟩:=dO h1
    refine⟨i,v,hi,hv,by simpa using hl,fun j c hj=>?_⟩
    have hlt:=(Y8.1 hj).1
    have hlt':j<v.cells.size:=by simp at hl;omega
    have hv':v.cells[j]?=some v.cells[j]:=Z4 hlt'
    exact⟨v.cells[j],by simpa using hv',rY 1 (hp j _ c (by simpa using hv') hj),ZA.1 hok c (Zj hj)⟩
   ·rw[aa6]at hok;rw[hok]at h2;simp at h2
  ·cases h
 ·cases h
theorem dp{t:TypeId}{i:TypeInfo}{v:Value}(hi:C.P.info? t=some i)(hz:i.zero=some v):(zeroValue t).run C.P w=.ok v w:=by
 unfold zeroValue
 simp only[Sem.run_bind,run_typeInfo w hi,Result.andThen,hz]
 rfl
theorem zN{t:TypeId}{z:List SV}(hz:gQ C.P t=some z)(hr:HR C ρ F H w) :
 bJ C (do pure (.value (←Instr.alloc t true (.tuple #[])))) ρ F H w (.ptr H.bl.length 0 0 0) (bH H (.box z)):=by
 obtain⟨i,v,hi,hv,h1,h2⟩:=ga (w:=w) (F:=F) (ρ:=ρ) hz
 refine bJ.so (w':={w with heap:=w.heap.push (.cells v.cells t)}) ?_ (uu hr h1 h2)
 simp[Instr.alloc,dp hi hv,newVar,newRow,newObj,Sem.run]
end
end
section
section
variable{C:Ctx}{ρ:Map}{F:Nat→Prop}{H H':ab}{w:World}{e:Env}{a:Act}{s:SV}
theorem uI{ag:Bool}{n o:Nat}{cs:List SV}(h:cS ag n cs o=some s):o+(if ag then n else 1)≤cs.length:=by
 unfold cS at h
 cases ag with
 |false=>simp only[Zu]at h;have:=(Y8.1 h).1;simp;omega
 |true=>
  by_cases hle:o+n≤cs.length
  ·simpa using hle
  ·simp[hle]at h
theorem pT{P:Program}{t:TypeId}{ag:Bool}{n o at_ B:Nat}{cs:List SV}{vs:Array Value}{ty:TypeId}{fz:Nat×Nat}(hag:iZ P t=some ag)(hsz:fD P t=some n)
 (hb:w.heap[B]?=some (.cells vs ty fz)) (hc:bG w F ρ vs at_ cs) (hle:at_+cs.length≤vs.size) (h:cS ag n cs o=some s) :
 ∃val,(loadVar t ⟨B,at_+o,none⟩).run P w=.ok val w∧VR w F ρ s val:=by
 have h1:=uI h
 obtain⟨h2,h3⟩:=p9 h hc hle
 obtain⟨r1,r2⟩:=pA (o:=at_+o) hag hsz hb (by omega)
 cases ag with
 |true=>exact⟨_,r1 rfl,h2 rfl⟩
 |false=>obtain⟨v,hv,hr⟩:=h3 rfl;exact⟨v,r2 rfl v hv,hr⟩
theorem xN(hr:HR C ρ F H w){b cw i o:Nat}{v:Value}{cs:List SV}(hv:VR w F ρ (.ptr b cw i o) v)(hb:bk H b=some (.box cs))(hi:i=0) :
 ∃l vs ty fz,ρ b=some l∧l.bB=false∧l.arr=false∧l.cw=0∧v=.pointer (some ⟨l.cg,o,none⟩)∧w.heap[l.cg]?=some (.cells vs ty fz)∧ko fz vs.size∧vs.size=cs.length∧bG w F ρ vs 0 cs∧
  BR C w F ρ l (.box cs):=by
 obtain⟨l,hl,hbr⟩:=hr.live b _ hb rfl
 have hbr':=hbr
 obtain⟨h1,h2,h3,h4,h5,vs,ty,fz,h6,h7,h8,h9⟩:=hbr
 cases hv with
 |ptr h hv hc ha=>
  rw[hl]at h;cases h
  obtain⟨_,rfl⟩:=ha (by omega)
  subst hi
  exact⟨l,vs,ty,fz,hl,h1,h2,h4,by simp[h3],h6,h7,h8,h9,hbr'⟩
theorem yd(hr:HR C ρ F H w){b cw i o z:Nat}{v:Value}{L:List (List SV)}{ex:Bool}(hv:VR w F ρ (.ptr b cw i o) v)(hb:bk H b=some (.arr cw z L ex)) :
 ∃l vs ty fz,ρ b=some l∧l.bB=false∧l.cw=cw∧l.arr=true∧l.bP=z∧v=.pointer (some ⟨l.cg,l.base+i*z+o,none⟩)∧w.heap[l.cg]?=some (.cells vs ty fz)∧ko fz vs.size∧
  l.base+l.cap*z≤vs.size∧L.length≤l.cap∧(∀(i:Nat) cs,L[i]?=some cs→cs.length=z)∧(∀(i:Nat) cs,L[i]?=some cs→bG w F ρ vs (l.base+i*z) cs)∧BR C w F ρ l (.arr cw z L ex):=by
 obtain⟨l,hl,hbr⟩:=hr.live b _ hb rfl
 have hbr':=hbr
 obtain⟨h1,h2,h3,h4,h5,h6,h7,h8⟩:=hbr
 cases hv with
 |ptr h hv hc ha=>
  rw[hl]at h;cases h
  obtain⟨hvi,rfl⟩:=ha h2.symm
  obtain⟨vs,ty,fz,k1,k2,k3,k4⟩:=h8 hvi
  exact⟨l,vs,ty,fz,hl,hvi,h2,h1,h3,by rw[h3],k1,k2,k3,h5,h4,k4,hbr'⟩
theorem xA{L:List (List SV)}{i z cap base n:Nat}{cs:List SV}(hi:L[i]?=some cs)(hz:cs.length=z)(hL:L.length≤cap)(hn:base+cap*z≤n):base+i*z+cs.length≤n:=by
 have h1:=(Y8.1 hi).1
 have h2:(i+1)*z≤cap*z:=Z9 z (by omega)
 rw[aac,aaW]at h2
 omega
theorem xP{c:SV}{t:TypeId}{ag:Bool}{n:Nat}{u:Value}(hag:iZ C.P t=some ag)(hsz:fD C.P t=some n)(hr:HR C ρ F H w)(hv:VR w F ρ c u)
 (h:cW ag n H c=some s):∃q val,u=.pointer (some q)∧(loadVar t q).run C.P w=.ok val w∧VR w F ρ s val:=by
 unfold cW at h
 split at h
 ·rename_i b cw i o
  split at h
  ·rename_i cs hb
   replace h:=aj h
   obtain⟨hi,h⟩:=h
   obtain⟨l,vs,ty,fz,hl,k1,k1a,k2,k3,k4,k5,k6,k7,_⟩:=xN hr hv hb (by simpa using hi)
   subst k3
   obtain⟨val,r1,r2⟩:=pT hag hsz k4 k7 (by omega) h
   rw[aae]at r1
   exact⟨_,val,rfl,r1,r2⟩
  ·rename_i ver' z L ex hb
   replace h:=aj h
   obtain⟨hve,h⟩:=h
   have hve:cw=ver':=by simpa using hve
   subst hve
   split at h
   ·rename_i cs hcs
    obtain⟨l,vs,ty,fz,hl,k1,k2,k2a,k3,k4,k5,k6,k7,k8,k9,k10,_⟩:=yd hr hv hb
    subst k4
    obtain⟨val,r1,r2⟩:=pT hag hsz k5 (k10 i cs hcs) (xA hcs (k9 i cs hcs) k8 k7) h
    exact⟨_,val,rfl,r1,r2⟩
   ·cases h
  ·cases h
 ·rename_i cs
  cases hv with
  |fE V hF hc h1 hv=>
   rename_i B o
   have hle:=uI h
   have r:=jZ (w:=w) hag hsz (B:=B) (o:=o) V (fun j hj=>hc j _ (Zq (by omega)))
   refine⟨_,_,rfl,r,?_⟩
   unfold cS at h
   cases ag with
   |false=>
    simp only[Zu]at h
    exact(hv 0 s h).mono (fun _ _=>rfl) (fun _ h=>h) (j0 _)
   |true=>
    simp at hle
    simp[hle]at h
    subst h
    refine .agg (by simp;omega) (fun j c hj=>?_) (fun j c v hj hv'=>?_)
    ·rw[ZC]at hj
     split at hj
     ·exact h1 j c hj
     ·cases hj
    ·rw[ZC]at hj
     split at hj
     ·rename_i hlt
      simp[hlt]at hv'
      subst hv'
      exact(hv j c hj).mono (fun _ _=>rfl) (fun _ h=>h) (j0 _)
     ·cases hj
 ·cases h
theorem EX{t:TypeId}{ag:Bool}{n:Nat}{x:Operand}{y:bU}(hag:iZ C.P t=some ag)(hsz:fD C.P t=some n)(hx:bz x=some y)(hr:HR C ρ F H w)(he:ER w F ρ e a.tmps)
 (h:cW ag n H (ev e y)=some s):bJ C (do pure (.value (←Instr.loadAt t (a.eval x)))) ρ F H w s H:=by
 obtain⟨q,val,hu,h1,h2⟩:=xP hag hsz hr (aZ hx he) h
 refine bJ.val hr (val:=val) ?_ h2
 unfold Instr.loadAt
 rw[hu]
 simpa[Instr.sureAddr,Sem.run]using h1
theorem kG{vs:Array Value}{at_ o n:Nat}{cs xs:List SV}{v:Value}(hc:bG w F ρ vs at_ cs)(hx:bG w F ρ v.cells 0 xs)(hn:xs.length=n)(hxn:xs.length=v.cells.size)(hle:o+n≤cs.length)
 (hsz:at_+cs.length≤vs.size):bG w F ρ (ma vs (at_+o) v.cells.toList) at_ (fc cs o n xs):=by
 intro j c hj
 have hl:v.cells.toList.length=n:=by simp;omega
 rw[jv (by omega),hl]
 unfold fc at hj
 rw[Za,aar]at hj
 have ht:(cs.take o).length=o:=by simp;omega
 rw[ht]at hj
 split at hj
 ·rename_i hlt
  rw[ZC,if_pos hlt]at hj
  rw[if_pos (by omega)]
  exact hc j c hj
 ·rename_i hge
  rw[aar]at hj
  split at hj
  ·rename_i hlt
   rw[if_neg (by omega),if_pos (by omega)]
   obtain⟨v',h1,h2,h3⟩:=hx _ c hj
   refine⟨v',?_,h2,h3⟩
   rw[abY,show at_+j-(at_+o)=0+(j-o) by omega]
   exact h1
  ·rename_i hge2
   rw[ZT]at hj
   rw[if_neg (by omega),if_neg (by omega)]
   have:o+n+(j-o-xs.length)=j:=by omega
   rw[this]at hj
   exact hc j c hj
theorem ik{cs xs:List SV}{o n:Nat}(hn:xs.length=n)(hle:o+n≤cs.length):(fc cs o n xs).length=cs.length:=by
 unfold fc;simp;omega
theorem l7{vs:Array Value}{k n at_:Nat}{xs:List Value}{cs:List SV}(hc:bG w F ρ vs at_ cs)(hle:k+xs.length≤vs.size)(hap:at_+cs.length≤k∨k+xs.length≤at_) :
 bG w F ρ (ma vs k xs) at_ cs:=by
 intro j c hj
 have hlt:=(Y8.1 hj).1
 obtain⟨v,h1,h2⟩:=hc j c hj
 refine⟨v,?_,h2⟩
 rw[jv hle]
 rcases hap with h|h
 ·rw[if_pos (by omega)];exact h1
 ·rw[if_neg (by omega),if_neg (by omega)];exact h1
theorem bW{b:Nat}{l:Loc}(h:ρ b=some l):ρ.put b l=ρ:=by
 funext b'
 by_cases e:b'=b
 ·subst e;rw[Map.bF,h]
 ·rw[Map.bm _ _ e]
theorem ku(hr:HR C ρ F H w){b:Nat}{x y:aD}{l:Loc}{refs:Nat}{vs':Array Value}{ty:TypeId}{fz:Nat×Nat}(hH:cp H b y refs=some H')(hb:H.bl[b]?=some x)(hx:x.live=true)
 (hl:ρ b=some l) (hv:l.bB=false) (hy:y.live=true→∀ρ1:Map,(ρ1=ρ∨∃N,refs≤N∧ρ1=ρ.cut N)→BR C w F ρ1 l x→BR C (eV w l.cg vs' ty fz) F ρ1 l y)
 (hlk:(∃r st p,x=.loop r st p)→∃r st p,y=.loop r st p:=by(rintro⟨_,_,_,h⟩;cases h)) :
 HR C ρ F H' (eV w l.cg vs' ty fz)∧Ext C ρ F H w ρ F H' (eV w l.cg vs' ty fz):=by
 have:=hr.set (w':=eV w l.cg vs' ty fz) (l':=l) hH hb hx hl (by rw[ry];exact Zp _) (fun B hB hne=>gG (hne hv)) (fun _=>.inl ⟨hv,rfl⟩) (.inl rfl) (fun hyl=>by
  rw[bW hl]
  obtain⟨l2,h2,hbr⟩:=hr.live b x hb hx
  rw[hl]at h2;cases h2
  exact hy hyl ρ (.inl rfl) hbr) (fun hyl N hN hbN hbr=>by rw[bW hl];exact hy hyl _ (.inr ⟨N,hN,rfl⟩) hbr) hlk
 rwa [bW hl]at this
def xE(C:Ctx)(ρ:Map)(F:Nat→Prop)(H H':ab)(w w':World)(refs:Nat):Prop:=
 ∀N,refs≤N→∀(b:Nat) z z' l,H.bl[b]?=some z→z.live=true→H'.bl[b]?=some z'→ρ b=some l→BR C w F (ρ.cut N) l z→BR C w' F (ρ.cut N) l z'
theorem qP(hr:HR C ρ F H w){b:Nat}{x y:aD}{l:Loc}{refs:Nat}{vs':Array Value}{ty:TypeId}{fz:Nat×Nat}(hH:cp H b y refs=some H')(hb:H.bl[b]?=some x)(hx:x.live=true)
 (hl:ρ b=some l) (hv:l.bB=false) (hy:∀ρ1:Map,(ρ1=ρ∨∃N,refs≤N∧ρ1=ρ.cut N)→BR C w F ρ1 l x→BR C (eV w l.cg vs' ty fz) F ρ1 l y) :
 xE C ρ F H H' w (eV w l.cg vs' ty fz) refs:=by
 intro N hN b' z z' l' hz hzl hz' hl' hbr
 have hbl:H'.bl=H.bl.set b y∧b<H.bl.length:=by
  unfold cp at hH
  replace hH:=aj hH
  obtain⟨h1,h2⟩:=hH
  simp only[Zh,Ze]at h1
  cases h2
  exact⟨rfl,h1.2⟩
 have hk:dy F w (eV w l.cg vs' ty fz):=fun B hB=>gG (fun h=>(hr.own b l ⟨⟨x,hb,hx⟩,hl,hv⟩).1 (h▸hB))
 rw[hbl.1]at hz'
 by_cases e:b'=b
 ·subst e
  rw[hz]at hb;cases hb
  rw[hl]at hl';cases hl'
  simp[hbl.2]at hz'
  subst hz'
  exact hy _ (.inr ⟨N,hN,rfl⟩) hbr
 ·rw[Zg (Ne.symm e),hz]at hz'
  cases hz'
  exact hbr.mono hk (fun _ h=>h) (Map.le_refl _) (fun hv'=>gG (fun h=>e (hr.apart b' b l' l ⟨⟨z,hz,hzl⟩,hl',hv'⟩ ⟨⟨x,hb,hx⟩,hl,hv⟩ h)))
theorem jw(hr:HR C ρ F H w){b:Nat}{x:aD}{l:Loc}(hb:H.bl[b]?=some x)(hx:x.live=true)(hl:ρ b=some l)(hv:l.bB=false){vs:Array Value}{ty:TypeId}{fz:Nat×Nat} :
 dy F w (eV w l.cg vs ty fz):=fun B hB=>gG (fun h=>(hr.own b l ⟨⟨x,hb,hx⟩,hl,hv⟩).1 (h▸hB))
theorem xV{A:Prop}{P Q R:Prop}(h1:A→P∧Q)(h2:A→R)(a:A):P∧Q∧R:=⟨(h1 a).1,(h1 a).2,h2 a⟩
theorem uP{t:TypeId}{n:Nat}{c p:SV}{u val:Value}(hsz:fD C.P t=some n)(hr:HR C ρ F H w)(hp:VR w F ρ p u)(hv:VR w F ρ c val)
 (h:dP n H c p=some H'):∃w',(Instr.storeAt t u val).run C.P w=.ok () w'∧HR C ρ F H' w'∧Ext C ρ F H w ρ F H' w'∧xE C ρ F H H' w w' c.refs:=by
 have hv1:∀ρ1:Map,(ρ1=ρ∨∃N,c.refs≤N∧ρ1=ρ.cut N)→VR w F ρ1 c val:=fun ρ1 h=>by
  rcases h with rfl|⟨N,hN,rfl⟩
  ·exact hv
  ·exact hv.cut N hN
 unfold Instr.storeAt
 unfold dP at h
 split at h
 ·rename_i b cw i o
  simp only[Zd]at h
  obtain⟨xs,hxs,h⟩:=h
  obtain⟨q1,q2,_⟩:=gD hxs hv
  have q3:=zF q2 q1
  replace h:=aj h
  obtain⟨hn,h⟩:=h
  have hn:xs.length=n:=by simpa using hn
  ·split at h
   ·rename_i cs hb
    replace h:=aj h
    obtain⟨hi,h⟩:=h
    simp only[Zh,aah,Ze]at hi
    ·obtain⟨hi,hle⟩:=hi
     obtain⟨l,vs,ty,fz,hl,k1,k1a,k2,k3,k4,k5,k6,k7,kb⟩:=xN hr hp hb hi
     rw[k3]
     have r:=jI (o:=o) hsz k4 k5 (by omega) (by omega) q3
     have hk:dy F w (eV w l.cg (ma vs o val.cells.toList) ty fz):=jw hr hb rfl hl k1
     have hsz':(ma vs o val.cells.toList).size=vs.size:=iA (by simp;omega)
     have hlt:l.cg<w.heap.size:=(ZG.1 k4).1
     refine⟨_,by simpa[Instr.sureAddr,Sem.run]using r,xV (fun hy=>(ku hr h hb rfl hl k1 (fun _=>hy))) (fun hy=>qP hr h hb rfl hl k1 hy) (fun ρ1 hρ kb1=>?_)⟩
     obtain⟨g1,g2,g3,g4,g5,vs2,ty2,fz2,j1,j2,j3,j4⟩:=kb1
     rw[k4]at j1;cases j1
     obtain⟨_,q2',_⟩:=gD hxs (hv1 ρ1 hρ)
     refine⟨g1,g2,g3,g4,by rw[ik hn hle];exact g5,_,ty,fz,iO hlt,by rw[hsz'];exact k5,by rw[hsz',ik hn hle];exact k6,?_⟩
     have:=kG (at_:=0) j4 q2' hn q1 hle (by omega)
     rw[aae]at this
     exact this.mono hk (fun _ h=>h) (Map.le_refl _)
   ·rename_i ver' z L ex hb
    replace h:=aj h
    obtain⟨hve,h⟩:=h
    have hve:cw=ver':=by simpa using hve
    ·subst hve
     split at h
     ·rename_i cs hcs
      replace h:=aj h
      obtain⟨hle,h⟩:=h
      have hle:o+n≤cs.length:=by simpa using hle
      ·skip
       obtain⟨l,vs,ty,fz,hl,k1,k2,k2a,k3,k4,k5,k6,k7,k8,k9,k10,kb⟩:=yd hr hp hb
       rw[k4]
       have hel:=xA hcs (k9 i cs hcs) k8 k7
       have r:=jI (o:=l.base+i*z+o) hsz k5 k6 (by omega) (by omega) q3
       have hk:dy F w (eV w l.cg (ma vs (l.base+i*z+o) val.cells.toList) ty fz):=jw hr hb rfl hl k1
       have hsz':(ma vs (l.base+i*z+o) val.cells.toList).size=vs.size:=iA (by simp;omega)
       have hlt:l.cg<w.heap.size:=(ZG.1 k5).1
       have hli:=(Y8.1 hcs).1
       refine⟨_,by simpa[Instr.sureAddr,Sem.run]using r,xV (fun hy=>(ku hr h hb rfl hl k1 (fun _=>hy))) (fun hy=>qP hr h hb rfl hl k1 hy) (fun ρ1 hρ kb1=>?_)⟩
       obtain⟨g1,g2,g3,g4,g5,g6,g7,g8⟩:=kb1
       obtain⟨vs2,ty2,fz2,j1,j2,j3,j4⟩:=g8 k1
       rw[k5]at j1;cases j1
       obtain⟨_,q2',_⟩:=gD hxs (hv1 ρ1 hρ)
       refine⟨g1,g2,g3,fun j ds hj=>?_,by simpa using g5,by simpa using g6,g7,fun _=>⟨_,ty,fz,iO hlt,by rw[hsz'];exact k6,by rw[hsz'];exact k7,fun j ds hj=>?_⟩⟩
       ·by_cases e1:j=i
        ·subst e1
         simp[hli]at hj
         subst hj
         rw[ik hn hle];exact k9 j cs hcs
        ·rw[Zg (Ne.symm e1)]at hj
         exact g4 j ds hj
       ·by_cases e1:j=i
        ·subst e1
         simp[hli]at hj
         subst hj
         exact(kG (j4 j cs hcs) q2' hn q1 hle hel).mono hk (fun _ h=>h) (Map.le_refl _)
        ·rw[Zg (Ne.symm e1)]at hj
         have hd:=k9 j ds hj
         have hz:=k9 i cs hcs
         refine(l7 (n:=0) (j4 j ds hj) (by simp;omega) ?_).mono hk (fun _ h=>h) (Map.le_refl _)
         simp only[abb]
         rcases acd e1 with hlt'|hlt'
         ·left
          have:(j+1)*z≤i*z:=Z9 z hlt'
          rw[aac,aaW]at this
          omega
         ·right
          have:(i+1)*z≤j*z:=Z9 z hlt'
          rw[aac,aaW]at this
          omega
     ·cases h
   ·cases h
 ·cases h
theorem BT{t:TypeId}{n:Nat}{x y:Operand}{x' y':bU}(hsz:fD C.P t=some n)(hx:bz x=some x')(hy:bz y=some y')(hr:HR C ρ F H w)(he:ER w F ρ e a.tmps)
 (h:dP n H (ev e y') (ev e x')=some H'):bJ C (do Instr.storeAt t (a.eval x) (a.eval y);pure .skip) ρ F H w .undef H':=by
 obtain⟨w',h1,h2,h3,_⟩:=uP hsz hr (aZ hx he) (aZ hy he) h
 exact⟨undef,w',.inr ⟨by simp[h1,pure,Sem.run],rfl⟩,ρ,F,.undef _,h2,h3⟩
end
end
section
section
variable{C:Ctx}{ρ:Map}{F:Nat→Prop}{H H':ab}{w:World}{e:Env}{a:Act}{s c d:SV}
theorem sK(hr:HR C ρ F H w){b cw i o:Nat}{v:Value}(hc:cur H (.ptr b cw i o)=true)(hv:VR w F ρ (.ptr b cw i o) v) :
 ∃l,ρ b=some l∧cw=l.cw∧l.bB=false∧v=.pointer (some ⟨l.cg,l.base+i*l.bP+o,none⟩):=by
 have key:∀l,ρ b=some l→cw=l.cw→∃l,ρ b=some l∧cw=l.cw∧l.bB=false∧v=.pointer (some ⟨l.cg,l.base+i*l.bP+o,none⟩):=by
  intro l hl hve
  cases hv with
  |ptr h h1 h2 h3=>
   rw[hl]at h;cases h
   obtain⟨k1,k2⟩:=h3 hve
   exact⟨l,hl,hve,k1,k2⟩
 unfold cur at hc
 split at hc
 ·rename_i b' v' i' o' heq
  cases heq
  split at hc
  ·rename_i cs hb
   obtain⟨l,hl,hbr⟩:=hr.live b _ hb rfl
   refine key l hl ?_
   cases hv with
   |ptr h h1 h2 h3=>rw[hl]at h;cases h;have:=hbr.2.2.2.1;omega
  ·rename_i v'' z L ex hb
   obtain⟨l,hl,hbr⟩:=hr.live b _ hb rfl
   refine key l hl ?_
   have:=hbr.2.1
   simp at hc;omega
  ·cases hc
 ·rename_i heq;cases heq
 ·rename_i hne _;exact absurd rfl (hne b cw i o)
theorem dV(hr:HR C ρ F H w){b cw off n:Nat}{v:Value}(hc:cur H (.bp b cw off n)=true)(hv:VR w F ρ (.bp b cw off n) v) :
 ∃l z L ex,ρ b=some l∧bk H b=some (.arr cw z L ex)∧BR C w F ρ l (.arr cw z L ex)∧(l.bB=true→∃a,v=.slice a 0 0∧off=0∧n=0)∧
  (l.bB=false→off+n≤l.cap∧∃a,v=.slice a n (l.cap-off)∧(off<l.cap→a=some ⟨l.cg,l.base+off*l.bP,none⟩)):=by
 unfold cur at hc
 split at hc
 ·rename_i heq;cases heq
 ·rename_i b' v' o' n' heq
  cases heq
  split at hc
  ·rename_i v'' z L ex hb
   simp at hc
   subst hc
   obtain⟨l,hl,hbr⟩:=hr.live b _ hb rfl
   cases hv with
   |bp h h1 h2 h3=>
    rw[hl]at h;cases h
    obtain⟨k1,k2⟩:=h3 hbr.2.1.symm
    exact⟨l,z,L,ex,hl,hb,hbr,k1,k2⟩
  ·cases hc
 ·rename_i hne;exact absurd rfl (hne b cw off n)
theorem mb{z:Nat}(h:dY H z c=true):cur H c=true:=by
 unfold dY at h
 split at h
 ·unfold cur
  split at h
  ·rename_i hb;simp only[hb];simp at h;simpa using h.1
  ·cases h
 ·rfl
 ·cases h
theorem ze{x:Operand}{y:bU}(hx:bz x=some y)(hr:HR C ρ F H w)(he:ER w F ρ e a.tmps)(o:Oper)(ho:o.op=.nilCheck x)
 (h:b9 e H (.dS y)=some (s,H')):bJ C (execOp a.eval o) ρ F H w s H':=by
 have hv:=aZ hx he
 simp only[b9]at h
 replace h:=aj h;obtain⟨hc,h⟩:=h
 simp only[Zb,Zy]at h
 obtain⟨s',h,rfl,rfl⟩:=h
 suffices hs:∃u,a.eval x=.pointer (some u)∧s'=ev e y by
  obtain⟨u,hu,rfl⟩:=hs
  refine⟨a.eval x,w,.inl ?_,dD.same hr hv⟩
  unfold execOp
  simp only[ho,hu]
  rfl
 generalize ev e y=c at *
 generalize a.eval x=u at *
 unfold kr at h
 split at h
 ·cases h
  obtain⟨l,_,_,_,rfl⟩:=sK hr hc hv
  exact⟨_,rfl,rfl⟩
 ·cases h
  cases hv
  exact⟨_,rfl,rfl⟩
 ·cases h
theorem ni{op:BinOp}{t:TypeId}{x y:Operand}{u v:Value}(hu:jx u=true)(hn:u≠.nilIface):(eqGuard op t x y u v).run C.P w=.ok () w:=by
 unfold eqGuard
 cases op<;>simp<;>(try rfl)<;>(cases u<;>first|rfl|exact absurd rfl hn|(simp[jx]at hu;done))
theorem sZ{op:BinOp}{t:TypeId}{x y:Operand}{u v:Value}(hu:jx u=true)(hn:u≠.nilIface){val:Value}(hr:HR C ρ F H w)(h:(binOp op t u v).run C.P w=.ok val w)(hs:VR w F ρ s val) :
 bJ C (do pure (.value (←(do eqGuard op t x y u v;binOp op t u v)))) ρ F H w s H:=by
 refine bJ.val hr ?_ hs
 simp only[Sem.run_bind,ni hu hn,Result.andThen,h]
theorem D1{op:BinOp}{t:TypeId}{k k2:IntKind}{p q:Int}(h:cL op (.int k p) (.int k2 q)=some s):∃val,(binOp op t (.int k p) (.int k2 q)).run C.P w=.ok val w∧VR w F ρ s val:=by
 cases op<;>simp only[cL]at h<;>(try (cases h;done))<;>(replace h:=aj h)<;>(obtain⟨hc,h⟩:=h)<;>(try simp only[Zh,aah,ZK,Zi,Ze]at hc) <;>
  simp only[Zs]at h<;>subst h
 case add=>subst hc;exact⟨_,by simp[binOp,Op.intArith,Sem.run,pure],.int _ _⟩
 case sub=>subst hc;exact⟨_,by simp[binOp,Op.intArith,Sem.run,pure],.int _ _⟩
 case mul=>subst hc;exact⟨_,by simp[binOp,Op.intArith,Sem.run,pure],.int _ _⟩
 case quo=>obtain⟨rfl,hq⟩:=hc;exact⟨_,by simp[binOp,Op.intDiv,hq,Sem.run,pure],.int _ _⟩
 case rem=>obtain⟨rfl,hq⟩:=hc;exact⟨_,by simp[binOp,Op.intDiv,hq,Sem.run,pure],.int _ _⟩
 case and=>subst hc;exact⟨_,by simp[binOp,Op.intBits,Sem.run,pure],.int _ _⟩
 case or=>subst hc;exact⟨_,by simp[binOp,Op.intBits,Sem.run,pure],.int _ _⟩
 case xor=>subst hc;exact⟨_,by simp[binOp,Op.intBits,Sem.run,pure],.int _ _⟩
 case shl=>exact⟨_,by simp[binOp,Op.shift,Int.not_lt.2 hc,Sem.run,pure],.int _ _⟩
 case shr=>exact⟨_,by simp[binOp,Op.shift,Int.not_lt.2 hc,Sem.run,pure],.int _ _⟩
 case lss=>subst hc;exact⟨_,by simp[binOp,Op.intCmp,Sem.run,pure],.bool _⟩
 case leq=>subst hc;exact⟨_,by simp[binOp,Op.intCmp,Sem.run,pure],.bool _⟩
 case gtr=>subst hc;exact⟨_,by simp[binOp,Op.intCmp,Sem.run,pure],.bool _⟩
 case geq=>subst hc;exact⟨_,by simp[binOp,Op.intCmp,Sem.run,pure],.bool _⟩
 case eql=>subst hc;refine⟨.bool (p==q),by simp[binOp,Op.intCmp,Sem.run,pure],?_⟩;rw[show decide (p=q)=(p==q) by by_cases h:p=q<;>simp[h]];exact .bool _
 case neq=>subst hc;refine⟨.bool (p != q),by simp[binOp,Op.intCmp,Sem.run,pure],?_⟩;rw[show(!decide (p=q))=(p != q) by by_cases h:p=q<;>simp[h,bne]];exact .bool _
end
end
section
section
variable{C:Ctx}{ρ:Map}{F:Nat→Prop}{H H':ab}{w:World}{e:Env}{a:Act}{s c d:SV}
theorem pZ(p q:ByteArray):(p.toList==q.toList)=decide (p=q):=by
 have h:∀x:ByteArray,x.toList=x.data.toList:=fun x=>by
  simp[ByteArray.toList_eq]
 rw[h,h]
 by_cases e:p=q
 ·subst e;simp
 ·have:p.data.toList≠q.data.toList:=fun h=>e (by cases p;cases q;simp at h;rw[h])
  simp[e]
  exact fun h=>this (by rw[h])
theorem EV{op:BinOp}{t:TypeId}{p q:ByteArray}(h:cL op (.str p) (.str q)=some s):∃val,(binOp op t (.string p) (.string q)).run C.P w=.ok val w∧VR w F ρ s val:=by
 cases op<;>simp only[cL]at h<;>(try (cases h;done))
 case add=>
  replace h:=aj h
  obtain⟨hc,h⟩:=h
  cases h
  simp at hc
  refine⟨_,?_,.str _⟩
  have:¬((p.size+q.size:Nat):Int)>IntKind.i64.max:=by
   have:IntKind.i64.max=9223372036854775807:=by decide
   omega
  simp only[binOp,Op.stringOp,if_neg this]
  rfl
 case eql=>cases h;exact⟨_,by simp[binOp,Op.stringOp,pZ,Sem.run,pure],.bool _⟩
 case neq=>cases h;exact⟨_,by simp[binOp,Op.stringOp,pZ,Sem.run,pure],.bool _⟩
theorem BH{op:BinOp}{t:TypeId}{p q:Bool}(ht:C.P.underlying t=some .bool)(h:n8 op (.bool p) (.bool q)=some s):∃val,(binOp op t (.bool p) (.bool q)).run C.P w=.ok val w∧VR w F ρ s val:=by
 have he:(Op.equal t (.bool p) (.bool q)).run C.P w=.ok (p==q) w:=by
  have h1:∀d,(Op.equalIn (d+1) t (.bool p) (.bool q)).run C.P w=.ok (p==q) w:=fun d=>by
   simp only[Op.equalIn,Sem.run_bind,run_underlying ht,Result.andThen]
   rfl
  exact h1 9999
 cases op<;>simp only[n8]at h<;>(try (cases h;done))
 case eql=>cases h;exact⟨_,by simp[binOp,he],.bool _⟩
 case neq=>cases h;exact⟨_,by simp[binOp,he],.bool _⟩
theorem vI{op:BinOp}(h:cL op c d=some s):(∃k p k2 q,c=.int k p∧d=.int k2 q)∨(∃p q,c=.str p∧d=.str q):=by
 unfold cL at h
 split at h<;>first|exact .inl ⟨_,_,_,_,rfl,rfl⟩|exact .inr ⟨_,_,rfl,rfl⟩|(cases h;done)
theorem A0{op:BinOp}{t:TypeId}{x y:Operand}{x' y':bU}(hx:bz x=some x')(hy:bz y=some y')
 (hr:HR C ρ F H w) (he:ER w F ρ e a.tmps) (h:cL op (ev e x') (ev e y')=some s) :
 bJ C (do pure (.value (←(do eqGuard op t x y (a.eval x) (a.eval y);binOp op t (a.eval x) (a.eval y))))) ρ F H w s H:=by
 have h1:=aZ hx he
 have h2:=aZ hy he
 generalize ev e x'=c at *
 generalize ev e y'=d at *
 rcases vI h with⟨k,p,k2,q,rfl,rfl⟩|⟨p,q,rfl,rfl⟩
 ·rw[fL h1,fL h2]
  obtain⟨val,r1,r2⟩:=D1 (C:=C) (w:=w) (F:=F) (ρ:=ρ) (t:=t) h
  exact sZ rfl (by simp) hr r1 r2
 ·rw[jm h1,jm h2]
  obtain⟨val,r1,r2⟩:=EV (C:=C) (w:=w) (F:=F) (ρ:=ρ) (t:=t) h
  exact sZ rfl (by simp) hr r1 r2
theorem C7{op:BinOp}{t:TypeId}{x y:Operand}{x' y':bU}(hx:bz x=some x')(hy:bz y=some y')
 (hr:HR C ρ F H w) (he:ER w F ρ e a.tmps) (hb2:C.P.underlying t=some .bool) (h:n8 op (ev e x') (ev e y')=some s) :
 bJ C (do pure (.value (←(do eqGuard op t x y (a.eval x) (a.eval y);binOp op t (a.eval x) (a.eval y))))) ρ F H w s H:=by
 have h1:=aZ hx he
 have h2:=aZ hy he
 generalize ev e x'=c at *
 generalize ev e y'=d at *
 have hk:∃p q,c=.bool p∧d=.bool q:=by
  unfold n8 at h
  split at h<;>first|exact⟨_,_,rfl,rfl⟩|(cases h;done)
 obtain⟨p,q,rfl,rfl⟩:=hk
 rw[eu h1,eu h2]
 obtain⟨val,r1,r2⟩:=BH (w:=w) (F:=F) (ρ:=ρ) hb2 h
 exact sZ rfl (by simp) hr r1 r2
theorem Ey{t:TypeId}{x:Operand}{y:bU}(hx:bz x=some y)(hr:HR C ρ F H w)(he:ER w F ρ e a.tmps){b:Bool}(h:ev e y=.bool b) :
 bJ C (do pure (.value (←Op.unary .not (a.eval x)))) ρ F H w (.bool (!b)) H:=by
 have h1:=aZ hx he
 rw[h]at h1
 rw[eu h1]
 exact bJ.val hr (val:=.bool (!b)) rfl (.bool _)
theorem E1{x:Operand}{y:bU}(hx:bz x=some y)(hr:HR C ρ F H w)(he:ER w F ρ e a.tmps){k:IntKind}{n:Int}(h:ev e y=.int k n) :
 bJ C (do pure (.value (←Op.unary .neg (a.eval x)))) ρ F H w (.int k (k.wrap (0-n))) H:=by
 have h1:=aZ hx he
 rw[h]at h1
 rw[fL h1]
 exact bJ.val hr (val:=.int k (k.wrap (0-n))) rfl (.int _ _)
theorem AT{sr ds:TypeId}{k j:IntKind}{x:Operand}{y:bU}(hx:bz x=some y)(hs:C.P.underlying sr=some (.int j))(hd:C.P.underlying ds=some (.int k))(hr:HR C ρ F H w)(he:ER w F ρ e a.tmps)
 {k':IntKind} {n:Int} (h:ev e y=.int k' n):bJ C (do pure (.value (←convert sr ds (a.eval x)))) ρ F H w (.int k (k.wrap n)) H:=by
 have h1:=aZ hx he
 rw[h]at h1
 rw[fL h1]
 refine bJ.val hr (val:=.int k (k.wrap n)) ?_ (.int _ _)
 unfold convert
 simp only[Sem.run_bind,run_underlying hs,run_underlying hd,Result.andThen]
 rfl
theorem Av{sr ds:TypeId}{x:Operand}{y:bU}(hx:bz x=some y)(hs:C.P.underlying sr=some .string)(hd:C.P.underlying ds=some .string)(hr:HR C ρ F H w)(he:ER w F ρ e a.tmps)
 {t:ByteArray} (h:ev e y=.str t):bJ C (do pure (.value (←convert sr ds (a.eval x)))) ρ F H w (.str t) H:=by
 have h1:=aZ hx he
 rw[h]at h1
 rw[jm h1]
 refine bJ.val hr (val:=.string t) ?_ (.str _)
 unfold convert
 simp only[Sem.run_bind,run_underlying hs,run_underlying hd,Result.andThen]
 rfl
theorem D0{f:FuncId}{fs cs:Array Operand}{cs':List bU}(hf:fs.isEmpty=true)(hx:iB cs=some cs')(hr:HR C ρ F H w)(he:ER w F ρ e a.tmps) :
 bJ C (do pure (.value (←Instr.makeFunc (.func f) (fs.map a.eval) (cs.map a.eval)))) ρ F H w (.fn f (cs'.map (ev e))) H:=by
 obtain⟨h1,h2⟩:=iC hx he
 have:fs.map a.eval= #[]:=by
  have:fs= #[]:=by simpa using hf
  subst this;simp
 rw[this]
 exact bJ.val hr (val:=.func (.func f) #[] (cs.map a.eval)) rfl (.fn (by simpa using h1) h2)
theorem Aj{f:FuncId}{fs cs:Array Operand}{cs':List bU}(hf:cs.isEmpty=true)(hx:iB fs=some cs')(hr:HR C ρ F H w)(he:ER w F ρ e a.tmps) :
 bJ C (do pure (.value (←Instr.makeFunc (.func f) (fs.map a.eval) (cs.map a.eval)))) ρ F H w (.oC f (cs'.map (ev e))) H:=by
 obtain⟨h1,h2⟩:=iC hx he
 have:cs.map a.eval= #[]:=by
  have:cs= #[]:=by simpa using hf
  subst this;simp
 rw[this]
 exact bJ.val hr (val:=.func (.func f) (fs.map a.eval) #[]) rfl (.oC (by simpa using h1) h2)
theorem ow{t:TypeId}{fs:List Field}{i:Nat}{f:Field}(h:kF C.P t=some fs)(hf:fs[i]?=some f):∃gs,C.P.underlying t=some (.struct gs)∧gs[i]?=some f:=by
 unfold kF at h
 split at h
 ·rename_i gs hu
  cases h
  exact⟨gs,hu,by simpa using hf⟩
 ·cases h
theorem tL{off:Nat}{v:Value}(hr:HR C ρ F H w)(hc:cur H c=true)(hv:VR w F ρ c v)(h:eY off c=some s) :
 ∃B o,v=.pointer (some ⟨B,o,none⟩)∧VR w F ρ s (.pointer (some ⟨B,o+off,none⟩)):=by
 unfold eY at h
 split at h
 ·rename_i b cw i o
  cases h
  obtain⟨l,h1,h2,h3,rfl⟩:=sK hr hc hv
  exact⟨_,_,rfl,.ptr h1 (by omega) rfl (fun _=>⟨h3,by rw[Zk]⟩)⟩
 ·rename_i cs
  cases h
  cases hv with
  |fE V hF hk h1 hv=>
   refine⟨_,_,rfl,.fE (fun j=>V (off+j)) hF (fun j c hj=>?_) (fun j c hj=>?_) (fun j c hj=>?_)⟩<;>rw[ZT]at hj
   ·rw[Zk];exact hk _ c hj
   ·exact h1 _ c hj
   ·exact hv _ c hj
 ·cases h
theorem Cb{t:TypeId}{i n:Nat}{fs:List Field}{f:Field}{x:Operand}{y:bU}(hx:bz x=some y)(hfs:kF C.P t=some fs)(hf:fs[i]?=some f)(hn:fD C.P f.type=some (n+1))
 (hr:HR C ρ F H w) (he:ER w F ρ e a.tmps) (hc:cur H (ev e y)=true) (h:eY f.offset (ev e y)=some s):bJ C (do pure (.value (←Instr.fieldAt t (a.eval x) i))) ρ F H w s H:=by
 obtain⟨gs,h1,h2⟩:=ow hfs hf
 obtain⟨B,o,h3,h4⟩:=tL hr hc (aZ hx he) h
 refine bJ.val hr ?_ h4
 unfold Instr.fieldAt
 simp only[Sem.run_bind,run_underlying h1,Result.andThen,h2,h3,Instr.sureAddr,fieldPlace,bO hn]
 simp[Sem.run,pure,dc]
theorem BB{t:TypeId}{i n:Nat}{ag:Bool}{fs:List Field}{f:Field}{x:Operand}{y:bU}{cs:List SV}(hx:bz x=some y)(hfs:kF C.P t=some fs)(hf:fs[i]?=some f)(hag:iZ C.P f.type=some ag)
 (hn:fD C.P f.type=some n) (hr:HR C ρ F H w) (he:ER w F ρ e a.tmps) (hc:ev e y=.agg cs) (h:cS ag n cs f.offset=some s):bJ C (do pure (.value (←Instr.field t (a.eval x) i))) ρ F H w s H:=by
 obtain⟨gs,h1,h2⟩:=ow hfs hf
 have hv:=aZ hx he
 rw[hc]at hv
 obtain⟨vs,h3,h4,h5⟩:=eW hv
 obtain⟨p1,p2⟩:=p9 h h5 (by omega)
 suffices hs:∃val,(part f.type vs f.offset).run C.P w=.ok val w∧VR w F ρ s val by
  obtain⟨val,r1,r2⟩:=hs
  refine bJ.val hr ?_ r2
  unfold Instr.field
  simp only[Sem.run_bind,run_underlying h1,Result.andThen,h2,h3,asAgg]
  simpa[Sem.run,pure]using r1
 unfold part
 cases ag with
 |true=>
  refine⟨_,by simp only[Sem.run_bind,eR hag,Result.andThen,if_true,bO hn];rfl,by simpa using p1 rfl⟩
 |false=>
  obtain⟨v,k1,k2⟩:=p2 rfl
  rw[aae]at k1
  refine⟨v,by simp only[Sem.run_bind,eR hag,Result.andThen,ZY,if_false,k1];rfl,k2⟩
theorem v8{x:Operand}{y:bU}{vs:List SV}{i:Nat}(hx:bz x=some y)(hr:HR C ρ F H w)(he:ER w F ρ e a.tmps)(hc:ev e y=.ba vs)(h:vs[i]?=some s) :
 bJ C (do pure (.value (←Instr.extract (a.eval x) i))) ρ F H w s H:=by
 have hv:=aZ hx he
 rw[hc]at hv
 generalize a.eval x=u at *
 cases hv with
 |ba hn hv=>
  rename_i us
  have hlt:=(Y8.1 h).1
  have hu:us[i]?=some us[i]:=Z4 (by omega)
  refine bJ.val hr (val:=us[i]) ?_ (hv i s _ h hu)
  simp only[Instr.extract,hu]
  rfl
theorem mA{n i:Nat}{v:Value}(h:iD n c=some i)(hv:VR w F ρ c v):∃k j,v=.int k j∧0≤j∧j<n∧i=j.toNat:=by
 unfold iD at h
 split at h
 ·rename_i k j
  replace h:=aj h
  obtain⟨hc,h⟩:=h
  cases h
  simp at hc
  exact⟨k,j,fL hv,hc.1,hc.2,rfl⟩
 ·cases h
theorem zC{t el:TypeId}{len n i:Nat}{x ix:Operand}{x' i':bU}(hx:bz x=some x')(hi:bz ix=some i')(hu:C.P.underlying t=some (.array len el))(hn:fD C.P el=some (n+1))
 (hr:HR C ρ F H w) (he:ER w F ρ e a.tmps) (hc:cur H (ev e x')=true) (h1:iD len (ev e i')=some i) (h:eY (i*(n+1)) (ev e x')=some s) :
 bJ C (do pure (.value (←Instr.indexAt t (a.eval x) (a.eval ix)))) ρ F H w s H:=by
 obtain⟨B,o,h3,h4⟩:=tL hr hc (aZ hx he) h
 obtain⟨k,j,h5,h6,h7,rfl⟩:=mA h1 (aZ hi he)
 refine bJ.val hr ?_ h4
 unfold Instr.indexAt
 simp only[Sem.run_bind,h5,asIntOf,run_underlying hu,Result.andThen,h3,Instr.sureAddr]
 simp only[pure,Sem.run,Result.andThen,h6,h7,and_self,if_true,Sem.run_bind,bO hn,dc]
theorem yO{t el:TypeId}{n:Nat}{x ix:Operand}{x' i':bU}(hx:bz x=some x')(hi:bz ix=some i')(hu:C.P.underlying t=some (.slice el))(hn:fD C.P el=some (n+1))
 (hr:HR C ρ F H w) (he:ER w F ρ e a.tmps) (hc:dY H (n+1) (ev e x')=true) (h:iq (ev e x') (ev e i')=some s) :
 bJ C (do pure (.value (←Instr.indexAt t (a.eval x) (a.eval ix)))) ρ F H w s H:=by
 have hv:=aZ hx he
 have hvi:=aZ hi he
 generalize ev e x'=c at *
 generalize ev e i'=d at *
 suffices hs:∃B o len cap k j,a.eval x=.slice (some ⟨B,o,none⟩) len cap∧a.eval ix=.int k j∧0≤j∧j<len∧VR w F ρ s (.pointer (some ⟨B,o+j.toNat*(n+1),none⟩)) by
  obtain⟨B,o,len,cap,k,j,h1,h2,h3,h4,h5⟩:=hs
  refine bJ.val hr ?_ h5
  unfold Instr.indexAt
  simp only[Sem.run_bind,h2,asIntOf,run_underlying hu,Result.andThen,h1,Instr.sureAddr]
  simp only[pure,Sem.run,Result.andThen,h3,h4,and_self,if_true,Sem.run_bind,bO hn,dc]
 generalize a.eval x=u at *
 unfold iq at h
 split at h
 ·rename_i z L f
  simp only[Zd,Zb]at h
  obtain⟨i,hi',cs,hcs,rfl⟩:=h
  obtain⟨k,j,h5,h6,h7,rfl⟩:=mA hi' hvi
  cases hv with
  |aA V hcap hfull hz hat h1 hv=>
   have hzn:z=n+1:=by
    unfold dY at hc
    simp at hc
    rcases hc with hc|hc
    ·exact hc
    ·subst hc;simp at hcs
   subst hzn
   rcases hat with h0|⟨B,o,ha,hF,hk⟩
   ·subst h0;simp at hcs
   ·subst ha
    exact⟨B,o,_,_,k,j,rfl,h5,h6,h7,.fE (fun q=>V j.toNat q) hF (fun q c hq=>hk _ q cs c hcs hq) (fun q c hq=>h1 _ q cs c hcs hq) (fun q c hq=>hv _ q cs c hcs hq)⟩
 ·rename_i b cw off m
  simp only[Zb]at h
  obtain⟨i,hi',rfl⟩:=h
  obtain⟨k,j,h5,h6,h7,rfl⟩:=mA hi' hvi
  obtain⟨l,z,L,ex,hl,hb,hbr,g1,g2⟩:=dV hr (mb hc) hv
  have hzn:z=n+1:=by
   unfold dY at hc
   simp[hb]at hc
   exact hc
  subst hzn
  cases hvi':l.bB with
  |true=>
   obtain⟨_,_,_,rfl⟩:=g1 hvi'
   simp at h7;omega
  |false=>
   obtain⟨g3,q,rfl,g4⟩:=g2 hvi'
   have:=g4 (by omega)
   subst this
   refine⟨_,_,_,_,k,j,rfl,h5,h6,h7,.ptr hl (aaY hbr.2.1.symm) rfl (fun _=>⟨hvi',?_⟩)⟩
   have e1:l.bP=n+1:=hbr.2.2.1
   rw[e1,aac]
   congr 3
   simp[Zk]
 ·cases h
end
end
section
section
variable{C:Ctx}{ρ:Map}{F:Nat→Prop}{H H':ab}{w:World}{e:Env}{a:Act}{s c d:SV}
theorem yB{t el:TypeId}{len n i:Nat}{ag:Bool}{x ix:Operand}{x' i':bU}{cs:List SV}(hx:bz x=some x')(hi:bz ix=some i')(hu:C.P.underlying t=some (.array len el))(hag:iZ C.P el=some ag)(hn:fD C.P el=some n)
 (hr:HR C ρ F H w) (he:ER w F ρ e a.tmps) (hc:ev e x'=.agg cs) (h1:iD len (ev e i')=some i) (h:cS ag n cs (i*n)=some s) :
 bJ C (do pure (.value (←Instr.index t (a.eval x) (a.eval ix)))) ρ F H w s H:=by
 have hv:=aZ hx he
 rw[hc]at hv
 obtain⟨vs,h3,h4,h5⟩:=eW hv
 obtain⟨k,j,k5,k6,k7,rfl⟩:=mA h1 (aZ hi he)
 obtain⟨p1,p2⟩:=p9 h h5 (by omega)
 suffices hs:∃val,(part el vs (j.toNat*n)).run C.P w=.ok val w∧VR w F ρ s val by
  obtain⟨val,r1,r2⟩:=hs
  refine bJ.val hr ?_ r2
  unfold Instr.index
  simp only[Sem.run_bind,k5,asIntOf,run_underlying hu,Result.andThen,h3]
  simp only[pure,Sem.run,Result.andThen,k6,k7,and_self,if_true,Sem.run_bind,bO hn]
  exact r1
 unfold part
 cases ag with
 |true=>exact⟨_,by simp only[Sem.run_bind,eR hag,Result.andThen,if_true,bO hn];rfl,by simpa using p1 rfl⟩
 |false=>
  obtain⟨v,k1,k2⟩:=p2 rfl
  rw[aae]at k1
  exact⟨v,by simp only[Sem.run_bind,eR hag,Result.andThen,ZY,if_false,k1];rfl,k2⟩
theorem y9{t:TypeId}{i:Nat}{x ix:Operand}{x' i':bU}{b:ByteArray}{y:UInt8}(hx:bz x=some x')(hi:bz ix=some i')(hu:C.P.underlying t=some .string)
 (hr:HR C ρ F H w) (he:ER w F ρ e a.tmps) (hc:ev e x'=.str b) (h1:iD b.size (ev e i')=some i) (h:b.data[i]?=some y) :
 bJ C (do pure (.value (←Instr.index t (a.eval x) (a.eval ix)))) ρ F H w (.int .u8 y.toNat) H:=by
 have hv:=aZ hx he
 rw[hc]at hv
 obtain⟨k,j,k5,k6,k7,rfl⟩:=mA h1 (aZ hi he)
 have hb:b[j.toNat]?=some y:=by
  obtain⟨hlt,hv'⟩:=ZG.1 h
  have hlt':j.toNat<b.size:=hlt
  rw[getElem?_pos b j.toNat hlt']
  exact congrArg some hv'
 refine bJ.val hr (val:=.int .u8 y.toNat) ?_ (.int _ _)
 unfold Instr.index
 simp only[Sem.run_bind,k5,asIntOf,run_underlying hu,Result.andThen,jm hv]
 simp only[pure,Sem.run,Result.andThen,k6,if_true,hb]
theorem Ej{ats:Array TypeId}{t0 ty:TypeId}{x:Operand}{y:bU}{b:ByteArray}(hx:bz x=some y)(h0:ats[0]?=some t0)(hu:C.P.underlying t0=some .string)(hr:HR C ρ F H w)(he:ER w F ρ e a.tmps)(hc:ev e y=.str b) :
 bJ C (do pure (.value (←Builtin.len_ ats ty #[a.eval x]))) ρ F H w (.int .i64 b.size) H:=by
 have hv:=aZ hx he
 rw[hc]at hv
 refine bJ.val hr (val:=.int .i64 b.size) ?_ (.int _ _)
 unfold Builtin.len_
 simp only[h0]
 simp[run_underlying hu,jm hv,goInt]
theorem EF{n:Nat}{v:Value}(hr:HR C ρ F H w)(hc:cur H c=true)(h:oM c=some n)(hv:VR w F ρ c v):∃q cap,v=.slice q n cap:=by
 unfold oM at h
 split at h
 ·cases h
  cases hv
  exact⟨_,_,rfl⟩
 ·cases h
  obtain⟨l,z,L,ex,_,_,_,g1,g2⟩:=dV hr hc hv
  cases hvi:l.bB with
  |true=>obtain⟨q,rfl,_,rfl⟩:=g1 hvi;exact⟨_,_,rfl⟩
  |false=>obtain⟨_,q,rfl,_⟩:=g2 hvi;exact⟨_,_,rfl⟩
 ·cases h
theorem EB{ats:Array TypeId}{t0 el ty:TypeId}{x:Operand}{y:bU}{n:Nat}(hx:bz x=some y)(h0:ats[0]?=some t0)(hu:C.P.underlying t0=some (.slice el))(hr:HR C ρ F H w)(he:ER w F ρ e a.tmps)
 (hc:cur H (ev e y)=true) (h:oM (ev e y)=some n):bJ C (do pure (.value (←Builtin.len_ ats ty #[a.eval x]))) ρ F H w (.int .i64 n) H:=by
 obtain⟨q,cap,hq⟩:=EF hr hc h (aZ hx he)
 refine bJ.val hr (val:=.int .i64 n) ?_ (.int _ _)
 unfold Builtin.len_
 simp only[h0]
 simp[run_underlying hu,hq,goInt]
theorem Eo{ats:Array TypeId}{t0 el ty:TypeId}{x:Operand}{n:Nat}(h0:ats[0]?=some t0)(hu:C.P.underlying t0=some (.array n el))(hr:HR C ρ F H w) :
 bJ C (do pure (.value (←Builtin.len_ ats ty #[a.eval x]))) ρ F H w (.int .i64 n) H:=by
 refine bJ.val hr (val:=.int .i64 n) ?_ (.int _ _)
 unfold Builtin.len_
 simp only[h0]
 simp[run_underlying hu,goInt]
theorem zx{f:Int→Int→Int}{g:Value→Value→Sem Value}(hg:∀k x k2 y,g (.int k x) (.int k2 y)=pure (.int k (f x y))) :
 ∀(cs:List SV) (vs:List Value) (x:Int) (k:IntKind) (s:SV),cs.length=vs.length→(∀(j:Nat) c v,cs[j]?=some c→vs[j]?=some v→VR w F ρ c v)→foldI f x k cs=some s→
 ∃n,s=.int k n∧(vs.foldlM g (.int k x)).run C.P w=.ok (.int k n) w:=by
 intro cs
 induction cs with
 |nil=>
  intro vs x k s hn _ h
  simp[foldI]at h
  subst h
  cases vs with
  |nil=>exact⟨x,rfl,rfl⟩
  |cons _ _=>simp at hn
 |cons c cs ih=>
  intro vs x k s hn hv h
  cases vs with
  |nil=>simp at hn
  |cons v vs=>
   cases c<;>simp only[foldI]at h<;>(try (cases h;done))
   rename_i k2 y
   replace h:=aj h
   obtain⟨_,h⟩:=h
   have h0:=fL (hv 0 _ v rfl rfl)
   subst h0
   obtain⟨n,rfl,hrun⟩:=ih vs (f x y) k s (by simpa using hn) (fun j c v hc hv'=>hv (j+1) c v (by simpa using hc) (by simpa using hv')) h
   refine⟨n,rfl,?_⟩
   simp only[acq,Sem.run_bind,hg]
   exact hrun
theorem qT{f:Int→Int→Int}{g:Value→Value→Sem Value}(hg:∀k x k2 y,g (.int k x) (.int k2 y)=pure (.int k (f x y))){xs:Array Operand}{ys:List bU}(hx:iB xs=some ys)(he:ER w F ρ e a.tmps)
 (h:jU f (ys.map (ev e))=some s):∃k n x r,s=.int k n∧(xs.map a.eval).toList=x::r∧(r.foldlM g x).run C.P w=.ok (.int k n) w:=by
 obtain⟨h1,h2⟩:=iC hx he
 generalize ys.map (ev e)=cs at *
 cases cs with
 |nil=>simp[jU]at h
 |cons c cs=>
  cases c<;>simp only[jU]at h<;>(try (cases h;done))
  rename_i k x
  cases hl:(xs.map a.eval).toList with
  |nil=>simp at hl;subst hl;simp at h1
  |cons v vs=>
   have hg':∀j:Nat,(xs.map a.eval)[j]?=(v::vs)[j]?:=fun j=>by rw[←hl];simp
   have h0:=fL (h2 0 _ v rfl (by rw[hg'];rfl))
   subst h0
   have hlen:=congrArg List.length hl
   obtain⟨n,rfl,hrun⟩:=zx (C:=C) (w:=w) (F:=F) (ρ:=ρ) hg cs vs x k s (by simp at h1 hlen;omega) (fun j c v hc hv=>h2 (j+1) c v (by simpa using hc) (by rw[hg'];simpa using hv)) h
   exact⟨k,n,_,_,rfl,rfl,hrun⟩
theorem Hi{ats:Array TypeId}{ty:TypeId}{xs:Array Operand}{ys:List bU}(hx:iB xs=some ys)(hr:HR C ρ F H w)(he:ER w F ρ e a.tmps)
 (h:jU (fun a b=>if b>a then b else a) (ys.map (ev e))=some s):bJ C (do pure (.value (←Builtin.max_ ats ty (xs.map a.eval)))) ρ F H w s H:=by
 obtain⟨k,n,x,r,rfl,h1,h2⟩:=qT (C:=C) (g:=Builtin.max2) (fun _ _ _ _=>rfl) hx he h
 refine bJ.val hr ?_ (.int k n)
 unfold Builtin.max_
 simp only[h1]
 exact h2
theorem G8{ats:Array TypeId}{ty:TypeId}{xs:Array Operand}{ys:List bU}(hx:iB xs=some ys)(hr:HR C ρ F H w)(he:ER w F ρ e a.tmps)
 (h:jU (fun a b=>if b<a then b else a) (ys.map (ev e))=some s):bJ C (do pure (.value (←Builtin.min_ ats ty (xs.map a.eval)))) ρ F H w s H:=by
 obtain⟨k,n,x,r,rfl,h1,h2⟩:=qT (C:=C) (g:=Builtin.min2) (fun _ _ _ _=>rfl) hx he h
 refine bJ.val hr ?_ (.int k n)
 unfold Builtin.min_
 simp only[h1]
 exact h2
theorem ka{y n:Nat}{v:Value}{code:BoundsCode}(h:AY y c=some n)(hv:VR w F ρ c v):n≤y∧∀z,y≤z→(Instr.sliceBound v z code).run C.P w=.ok n w:=by
 unfold AY at h
 split at h
 ·rename_i k j
  replace h:=aj h
  obtain⟨hc,h⟩:=h
  cases h
  simp at hc
  refine⟨by omega,fun z hz=>?_⟩
  rw[fL hv]
  unfold Instr.sliceBound
  have:0≤j∧j≤(z:Int):=by omega
  simp only[Sem.run_bind,asIntOf,pure,Sem.run,Result.andThen,this,and_self,if_true]
 ·cases h
theorem fV{x:Option Operand}{y:Option bU}(h:fW x=some y)(he:ER w F ρ e a.tmps):(x=none∧y=none)∨∃p q,x=some p∧y=some q∧VR w F ρ (ev e q) (a.eval p):=by
 cases x with
 |none=>simp[fW]at h;exact .inl ⟨rfl,h.symm⟩
 |some p=>
  simp only[fW,Zb]at h
  obtain⟨q,h1,rfl⟩:=h
  exact .inr ⟨p,q,rfl,rfl,aZ h1 he⟩
theorem mX{isS:Bool}{n cap h l:Nat}{lo hi:Option Operand}{lo' hi':Option bU}(hlo:fW lo=some lo')(hhi:fW hi=some hi')(he:ER w F ρ e a.tmps)(hcap:n≤cap)
 (h1:gd n n (hi'.map (ev e))=some h) (h2:gd h 0 (lo'.map (ev e))=some l):l≤h∧h≤n∧(Instr.sliceBounds isS n cap (lo.map a.eval) (hi.map a.eval) none).run C.P w=.ok (l,h,cap) w:=by
 have a1:h≤n∧(match hi.map a.eval,(none:Option Value)with
  |some v,some _=>Instr.sliceBound v cap .slice3B
  |some v,none=>Instr.sliceBound v cap (if isS then .sliceAcap else .sliceAlen)
  |none,none=>pure n
  |none,some _=>stuck "Slice: max without high").run C.P w=.ok h w:=by
  rcases fV hhi he with⟨rfl,rfl⟩|⟨p,q,rfl,rfl,hv⟩
  ·simp[gd]at h1;subst h1;exact⟨Zp _,rfl⟩
  ·obtain⟨k1,k2⟩:=ka (C:=C) (code:=if isS then .sliceAcap else .sliceAlen) h1 hv
   exact⟨k1,k2 cap hcap⟩
 have a2:l≤h∧(match lo.map a.eval with
  |some v=>Instr.sliceBound v h (if(none:Option Value).isSome then .slice3C else .sliceB)
  |none=>pure 0).run C.P w=.ok l w:=by
  rcases fV hlo he with⟨rfl,rfl⟩|⟨p,q,rfl,rfl,hv⟩
  ·simp[gd]at h2;subst h2;exact⟨abc _,rfl⟩
  ·obtain⟨k1,k2⟩:=ka (C:=C) (code:=.sliceB) h2 hv
   exact⟨k1,k2 h (Zp _)⟩
 refine⟨a2.1,a1.1,?_⟩
 have b1:=a1.2
 have b2:=a2.2
 unfold Instr.sliceBounds
 simp only[Sem.run_bind,pure,Sem.run,Result.andThen_ok]at b1 b2⊢
 cases hi<;>cases lo<;>simp only[abx,ZQ]at b1 b2⊢ <;>simp_all [Sem.run,pure]
end
end
section
section
variable{C:Ctx}{ρ:Map}{F:Nat→Prop}{H H':ab}{w:World}{e:Env}{a:Act}{s c d:SV}
theorem yS{t:TypeId}{x:Operand}{y:bU}{lo hi:Option Operand}{lo' hi':Option bU}{b:ByteArray}(hx:bz x=some y)(hlo:fW lo=some lo')(hhi:fW hi=some hi')(hu:C.P.underlying t=some .string)
 (hr:HR C ρ F H w) (he:ER w F ρ e a.tmps) (hc:ev e y=.str b) (h:tf b (lo'.map (ev e)) (hi'.map (ev e))=some s) :
 bJ C (do pure (.value (←Instr.sliceAt t (a.eval x) (lo.map a.eval) (hi.map a.eval) ((none:Option Operand).map a.eval)))) ρ F H w s H:=by
 have hv:=aZ hx he
 rw[hc]at hv
 unfold tf at h
 simp only[Zd,Zb]at h
 obtain⟨h1,k1,l1,k2,rfl⟩:=h
 obtain⟨_,_,hrun⟩:=mX (C:=C) (w:=w) (isS:=false) hlo hhi he (Zp b.size) k1 k2
 refine bJ.val hr (val:=.string (b.extract l1 h1)) ?_ (.str _)
 unfold Instr.sliceAt
 simp only[Sem.run_bind,run_underlying hu,Result.andThen,Instr.slice,jm hv,abx,hrun]
 simp[Sem.run,pure,hrun]
theorem cO{A:Type}{L:List A}{h l i:Nat}{x:A}(hx:((L.take h).drop l)[i]?=some x):L[l+i]?=some x∧l+i<h:=by
 rw[ZT,ZC]at hx
 split at hx
 ·exact⟨hx,by assumption⟩
 ·cases hx
theorem orElse_some{A:Type}{x:Option A}{f:Unit→Option A}{s:A}(h:x.orElse f=some s):x=some s∨f ()=some s:=by
 cases x with
 |none=>exact .inr h
 |some y=>exact .inl h
theorem yw{t el:TypeId}{n:Nat}{x:Operand}{y:bU}{lo hi mx:Option Operand}{lo' hi' mx':Option bU}(hx:bz x=some y)(hlo:fW lo=some lo')(hhi:fW hi=some hi')(hmx:fW mx=some mx')
 (hu:C.P.underlying t=some (.slice el)) (hn:fD C.P el=some n) (hr:HR C ρ F H w) (he:ER w F ρ e a.tmps) (hc:dY H n (ev e y)=true)
 (h:im H (ev e y) (lo'.map (ev e)) (hi'.map (ev e)) (mx'.map (ev e))=some s) :
 bJ C (do pure (.value (←Instr.sliceAt t (a.eval x) (lo.map a.eval) (hi.map a.eval) (mx.map a.eval)))) ρ F H w s H:=by
 have hv:=aZ hx he
 generalize ev e y=c at *
 unfold im at h
 split at h
 ·rename_i b v off m hvv hh hm
  cases hmx':mx' with
  |some q=>rw[hmx']at hm;cases hm
  |none=>
   have hmn:mx=none:=by
    rcases fV hmx he with⟨e1,_⟩|⟨_,_,_,e2,_⟩
    ·exact e1
    ·rw[hmx']at e2;cases e2
   subst hmx' hmn
   split at h
   ·rename_i v0 z L ex hb0
    simp only[Zd,Zb]at h
    obtain⟨h1,k1,l1,k2,rfl⟩:=h
    obtain⟨l,z9,L9,ex9,hl,hb,hbr,g1,g2⟩:=dV hr (mb hc) hv
    rw[hb0]at hb
    cases hb
    have hb:=hb0
    have hzn:z=n:=by
     unfold dY at hc
     simp[hb]at hc
     exact hc
    subst hzn
    have hver:v=l.cw:=hbr.2.1.symm
    have hesz:l.bP=z:=hbr.2.2.1
    have hLc:L.length≤l.cap:=hbr.2.2.2.2.1
    have k1':gd (L.length-off) (L.length-off) (hi'.map (ev e))=some h1:=by rw[hh];exact k1
    have his:∃u,hi=some u:=by
     rcases fV hhi he with⟨_,e2⟩|⟨p,q,e1,_,_⟩
     ·rw[e2]at hh;cases hh
     ·exact⟨p,e1⟩
    obtain⟨u,rfl⟩:=his
    suffices hs:∃q len cap,a.eval x=.slice q len cap∧L.length-off≤cap∧(L.length-off≤cap→l1≤h1→h1≤L.length-off→VR w F ρ (.bp b v (off+l1) (h1-l1)) (.slice (if cap=l1 then q else q.map (·.add (l1*z))) (h1-l1) (cap-l1))) by
     obtain⟨q,len,cap,j1,j2,j3⟩:=hs
     obtain⟨p1,p2,hrun⟩:=mX (C:=C) (w:=w) (isS:=true) hlo hhi he j2 k1' k2
     refine bJ.val hr ?_ (j3 j2 p1 p2)
     unfold Instr.sliceAt
     have hrun':(Instr.sliceBounds true len cap (lo.map a.eval) (some (a.eval u)) none).run C.P w=.ok (l1,h1,cap) w:=hrun
     simp only[Sem.run_bind,run_underlying hu,Result.andThen,Instr.slice,j1,ZQ,abx,hrun',bO hn]
     rfl
    cases hvi:l.bB with
    |true=>
     obtain⟨q,hq,rfl,rfl⟩:=g1 hvi
     have hcap0:=hbr.2.2.2.2.2.2.1 hvi
     refine⟨q,0,0,hq,by omega,fun j2 p1 p2=>?_⟩
     have:h1=0:=by omega
     subst this
     have:l1=0:=by omega
     subst this
     exact .bp hl (aaY hver) rfl (fun _=>⟨fun _=>⟨q,rfl,rfl,rfl⟩,(fun hf=>by rw[hvi]at hf;cases hf)⟩)
    |false=>
     obtain⟨g3,q,hq,g4⟩:=g2 hvi
     refine⟨q,m,l.cap-off,hq,by omega,fun j2 p1 p2=>?_⟩
     refine .bp hl (aaY hver) rfl (fun _=>⟨(fun hf=>by rw[hvi]at hf;cases hf),fun _=>⟨by omega,_,by congr 1;omega,fun hlt=>?_⟩⟩)
     rw[if_neg (by omega),g4 (by omega)]
     simp[dc,hesz,aac,Zk]
   ·cases h
 ·cases h
theorem yM{t el:TypeId}{n:Nat}{x:Operand}{y:bU}{lo hi mx:Option Operand}{lo' hi' mx':Option bU}(hx:bz x=some y)(hlo:fW lo=some lo')(hhi:fW hi=some hi')(hmx:fW mx=some mx')
 (hu:C.P.underlying t=some (.slice el)) (hn:fD C.P el=some n) (hr:HR C ρ F H w) (he:ER w F ρ e a.tmps) (hc:dY H n (ev e y)=true) (hsome:mx'.isSome=true→hi'.isSome=true)
 (h:lV (ev e y) (lo'.map (ev e)) (hi'.map (ev e)) (mx'.map (ev e))=some s) :
 bJ C (do pure (.value (←Instr.sliceAt t (a.eval x) (lo.map a.eval) (hi.map a.eval) (mx.map a.eval)))) ρ F H w s H:=by
 have hv:=aZ hx he
 generalize ev e y=c at *
 suffices hs:∃q len cap l1 h1 m1,a.eval x=.slice q len cap∧(Instr.sliceBounds true len cap (lo.map a.eval) (hi.map a.eval) (mx.map a.eval)).run C.P w=.ok (l1,h1,m1) w∧
  VR w F ρ s (.slice (if m1=l1 then q else q.map (·.add (l1*n))) (h1-l1) (m1-l1)) by
  obtain⟨q,len,cap,l1,h1,m1,k1,k2,k3⟩:=hs
  refine bJ.val hr ?_ k3
  unfold Instr.sliceAt
  simp only[Sem.run_bind,run_underlying hu,Result.andThen,Instr.slice,k1,k2,bO hn]
  rfl
 cases hmx':mx' with
 |none=>
  have hmn:mx=none:=by
   rcases fV hmx he with⟨e1,_⟩|⟨_,_,_,e2,_⟩
   ·exact e1
   ·rw[hmx']at e2;cases e2
  subst hmx' hmn
  simp only[abx]at h⊢
  unfold lV at h
  split at h
  ·rename_i z L f
   simp only[Zd,Zb,gd,Zs]at h
   obtain⟨m,rfl,h1,k1,l1,k2,rfl⟩:=h
   generalize a.eval x=u at *
   cases hv with
   |aA V hcap hfull hz hat h1' hv=>
    rename_i q cap
    obtain⟨p1,p2,hrun⟩:=mX (C:=C) (w:=w) (isS:=true) hlo hhi he hcap k1 k2
    refine⟨q,_,cap,l1,h1,cap,rfl,hrun,?_⟩
    have hlen:((L.take h1).drop l1).length=h1-l1:=by simp;omega
    rw[←hlen]
    refine .aA (fun i j=>V (l1+i) j) (by rw[hlen];omega) (fun hf=>?_) (fun i cs hi=>hz _ cs (cO hi).1) ?_ (fun i j cs c hi hj=>h1' _ j cs c (cO hi).1 hj) (fun i j cs c hi hj=>hv _ j cs c (cO hi).1 hj)
    ·simp at hf
     rw[hlen,hfull hf.1,hf.2]
    ·by_cases hemp:(L.take h1).drop l1=[]
     ·exact .inl hemp
     ·right
      have hlt:l1<h1:=by
       have:0<((L.take h1).drop l1).length:=ab8.2 hemp
       omega
      rcases hat with h0|⟨B,o,ha,hF,hk⟩
      ·subst h0;simp at p2;omega
      ·subst ha
       have hne:L≠[]:=fun h=>by subst h;simp at p2;omega
       have hzn:z=n:=by
        unfold dY at hc
        simp at hc
        rcases hc with hc|hc
        ·exact hc
        ·exact absurd hc hne
       subst hzn
       refine⟨B,o+l1*z,?_,hF,fun i j cs c hi hj=>?_⟩
       ·rw[if_neg (by omega)];simp[dc]
       ·have:=hk _ j cs c (cO hi).1 hj
        rw[aac]at this
        rw[Zk o]
        exact this
  ·rename_i b cw off m
   simp only[Zd,Zb]at h
   obtain⟨h1,k1,l1,k2,rfl⟩:=h
   obtain⟨l,z,L,ex,hl,hb,hbr,g1,g2⟩:=dV hr (mb hc) hv
   have hzn:z=n:=by
    unfold dY at hc
    simp[hb]at hc
    exact hc
   subst hzn
   have hver:cw=l.cw:=hbr.2.1.symm
   have hesz:l.bP=z:=hbr.2.2.1
   cases hvi:l.bB with
   |true=>
    obtain⟨q,hq,rfl,rfl⟩:=g1 hvi
    obtain⟨p1,p2,hrun⟩:=mX (C:=C) (w:=w) (isS:=true) hlo hhi he (Zp 0) k1 k2
    have:h1=0:=by omega
    subst this
    have:l1=0:=by omega
    subst this
    exact⟨q,0,0,0,0,0,hq,hrun,.bp hl (aaY hver) rfl (fun _=>⟨fun _=>⟨q,rfl,rfl,rfl⟩,(fun hf=>by rw[hvi]at hf;cases hf)⟩)⟩
   |false=>
    obtain⟨g3,q,hq,g4⟩:=g2 hvi
    obtain⟨p1,p2,hrun⟩:=mX (C:=C) (w:=w) (isS:=true) hlo hhi he (show m≤l.cap-off by omega) k1 k2
    refine⟨q,m,l.cap-off,l1,h1,l.cap-off,hq,hrun,.bp hl (aaY hver) rfl (fun _=>⟨(fun hf=>by rw[hvi]at hf;cases hf),fun _=>⟨by omega,_,by congr 1;omega,fun hlt=>?_⟩⟩)⟩
    rw[if_neg (by omega),g4 (by omega)]
    simp[dc,hesz,aac,Zk]
  ·cases h
 |some mq=>
  obtain⟨mo,rfl,hmv⟩:∃mo,mx=some mo∧VR w F ρ (ev e mq) (a.eval mo):=by
   rcases fV hmx he with⟨_,e2⟩|⟨p,q,e1,e2,e3⟩
   ·rw[hmx']at e2;cases e2
   ·rw[hmx']at e2;cases e2;exact⟨p,e1,e3⟩
  subst hmx'
  simp only[ZQ]at h⊢
  have hb3:∀{n0 cap m h1 l1:Nat},n0≤cap→AY n0 (ev e mq)=some m→gd m n0 (hi'.map (ev e))=some h1→gd h1 0 (lo'.map (ev e))=some l1→hi'.isSome=true→
   l1≤h1∧h1≤m∧m≤n0∧(Instr.sliceBounds true n0 cap (lo.map a.eval) (hi.map a.eval) (some (a.eval mo))).run C.P w=.ok (l1,h1,m) w:=by
   intro n0 cap m h1 l1 hcap km kh kl hsome
   obtain⟨m1,m2⟩:=ka (C:=C) (code:=.slice3Acap) km hmv
   rcases fV hhi he with⟨_,rfl⟩|⟨hp,hq,rfl,rfl,hhv⟩
   ·cases hsome
   ·obtain⟨h3,h4⟩:=ka (C:=C) (code:=.slice3B) kh hhv
    have a2:l1≤h1∧(match lo.map a.eval with
     |some v=>Instr.sliceBound v h1 (if(some (a.eval mo)).isSome then .slice3C else .sliceB)
     |none=>pure 0).run C.P w=.ok l1 w:=by
     rcases fV hlo he with⟨rfl,rfl⟩|⟨p,q,rfl,rfl,hv⟩
     ·simp[gd]at kl;subst kl;exact⟨abc _,rfl⟩
     ·obtain⟨k1,k2⟩:=ka (C:=C) (code:=.slice3C) kl hv
      exact⟨k1,k2 h1 (Zp _)⟩
    refine⟨a2.1,h3,m1,?_⟩
    have b2:=a2.2
    have b1:=h4 m (Zp _)
    have b0:=m2 cap hcap
    unfold Instr.sliceBounds
    simp only[Sem.run_bind,pure,Sem.run,Result.andThen_ok]at b0 b1 b2⊢
    cases lo<;>simp only[abx,ZQ]at b2⊢ <;>simp_all [Sem.run,pure]
  have hsome:=hsome rfl
  unfold lV at h
  split at h
  ·rename_i z L f
   simp only[Zd,Zb,gd]at h
   obtain⟨m,km,h1,k1,l1,k2,rfl⟩:=h
   generalize a.eval x=u at *
   cases hv with
   |aA V hcap hfull hz hat h1' hv=>
    rename_i q cap
    obtain⟨p1,p2,p3,hrun⟩:=hb3 hcap km k1 k2 hsome
    refine⟨q,_,cap,l1,h1,m,rfl,hrun,?_⟩
    have hlen:((L.take h1).drop l1).length=h1-l1:=by simp;omega
    rw[←hlen]
    refine .aA (fun i j=>V (l1+i) j) (by rw[hlen];omega) (fun hf=>?_) (fun i cs hi=>hz _ cs (cO hi).1) ?_ (fun i j cs c hi hj=>h1' _ j cs c (cO hi).1 hj) (fun i j cs c hi hj=>hv _ j cs c (cO hi).1 hj)
    ·simp at hf
     rw[hlen,hf]
    ·by_cases hemp:(L.take h1).drop l1=[]
     ·exact .inl hemp
     ·right
      have hlt:l1<h1:=by
       have:0<((L.take h1).drop l1).length:=ab8.2 hemp
       omega
      rcases hat with h0|⟨B,o,ha,hF,hk⟩
      ·subst h0;simp at p3;omega
      ·subst ha
       have hne:L≠[]:=fun h=>by subst h;simp at p3;omega
       have hzn:z=n:=by
        unfold dY at hc
        simp at hc
        rcases hc with hc|hc
        ·exact hc
        ·exact absurd hc hne
       subst hzn
       refine⟨B,o+l1*z,?_,hF,fun i j cs c hi hj=>?_⟩
       ·rw[if_neg (by omega)];simp[dc]
       ·have:=hk _ j cs c (cO hi).1 hj
        rw[aac]at this
        rw[Zk o]
        exact this
  ·rename_i b cw off m0
   simp only[Zd,Zb,gd]at h
   obtain⟨m,km,h1,k1,l1,k2,h⟩:=h
   obtain⟨l,z,L,ex,hl,hb,hbr,g1,g2⟩:=dV hr (mb hc) hv
   have hsl:∃q cap,a.eval x=.slice q m0 cap∧m0≤cap:=by
    cases hvi:l.bB with
    |true=>obtain⟨q,hq,_,rfl⟩:=g1 hvi;exact⟨q,0,hq,Zp _⟩
    |false=>obtain⟨g3,q,hq,_⟩:=g2 hvi;exact⟨q,_,hq,by omega⟩
   obtain⟨q,cap,hq,hcap⟩:=hsl
   obtain⟨p1,p2,p3,hrun⟩:=hb3 hcap km k1 k2 hsome
   refine⟨q,m0,cap,l1,h1,m,hq,hrun,?_⟩
   replace h:=aaV h
   cases hml:m==l1 with
   |false=>rw[hml,Zu]at h;rw[←h];exact VR.undef _
   |true=>
   rw[hml,Zr]at h
   rw[←h]
   have hml:m=l1:=by simpa using hml
   have e1:h1-l1=0:=by omega
   have e2:m-l1=0:=by omega
   rw[e1,e2]
   exact VR.aA (L:=[]) (fun _ _=>undef) (Zp _) (fun _=>rfl) (by simp) (.inl rfl) (by simp) (by simp)
  ·cases h
end
end
section
section
variable{C:Ctx}{ρ:Map}{F:Nat→Prop}{H H':ab}{w:World}{e:Env}{a:Act}{s c d:SV}
theorem tM(off:Nat):∀(l:List Value) (k:Nat) (cells:Array Value),off+k+l.length≤cells.size→
 (l.zipIdx k).foldl (fun(cs:Array Value) (p:Value×Nat)=>cs.setIfInBounds (off+p.2) p.1) cells=ma cells (off+k) l
 |[],k,cells,_=>by simp[ma]
 |v::r,k,cells,h=>by
  simp only[Zw]at h
  rw[List.zipIdx_cons,aad,tM off r (k+1) _ (by simp;omega)]
  apply abu
  intro j
  rw[jv (by simp;omega),jv (by simp;omega)]
  simp only[Zw]
  by_cases e1:j<off+k
  ·have e2:j<off+(k+1):=by omega
   simp only[e1,e2,if_true]
   rw[Z0 (by omega)]
  ·by_cases e2:j=off+k
   ·subst e2
    have e3:off+k<off+(k+1):=by omega
    have e4:¬off+k<off+k:=by omega
    have e5:off+k<off+k+(r.length+1):=by omega
    simp only[e3,e4,e5,if_true,if_false]
    have:off+k<cells.size:=by omega
    simp[this]
   ·have a1:¬j<off+(k+1):=by omega
    simp only[a1,e1,if_false]
    by_cases e3:j<off+(k+1)+r.length
    ·have e4:j<off+k+(r.length+1):=by omega
     simp only[e3,e4,if_true]
     rw[show j-(off+k)=(j-(off+(k+1)))+1 by omega]
     simp
    ·have e4:¬j<off+k+(r.length+1):=by omega
     simp only[e3,e4,if_false]
     rw[Z0 (by omega)]
theorem rC{place:Nat→Option (Nat×Nat)}{cells:Array Value}{i off:Nat}{v:Value}{rest:List (Nat×Value)}(hp:place i=some (off,v.cells.size))(hle:off+v.cells.size≤cells.size) :
 Instr.fill place cells ((i,v)::rest)=Instr.fill place (ma cells off v.cells.toList) rest:=by
 have:(v.cells.zipIdx.foldl (fun cs (c,j)=>cs.setIfInBounds (off+j) c) cells)=ma cells off v.cells.toList:=by
  have:=tM off v.cells.toList 0 cells (by simpa using hle)
  rw[aaN]at this
  rw[←this,←Array.foldl_toList,Array.toList_zipIdx]
 simp only[Instr.fill,hp]
 rw[if_neg (by simp;omega),this]
theorem nu{place:Nat→Option (Nat×Nat)}:∀(qs:List (Nat×Operand)) (ps:List (Nat×Nat×bU)) (z r:List SV) (cells:Array Value),
 ps.length=qs.length→(∀(j:Nat) p q,qs[j]?=some q→ps[j]?=some p→place q.1=some (p.1,p.2.1)∧bz q.2=some p.2.2)→ER w F ρ e a.tmps→z.length=cells.size→bG w F ρ cells 0 z→gE (ev e) z ps=some r→
 ∃out,Instr.fill place cells (qs.map fun q=>(q.1,a.eval q.2))=some out∧r.length=out.size∧bG w F ρ out 0 r
 |[],[],z,r,cells,_,_,_,hz,hc,h=>by
  simp[gE]at h;subst h
  exact⟨cells,rfl,hz,hc⟩
 |[],_::_,_,_,_,hl,_,_,_,_,_=>by simp at hl
 |_::_,[],_,_,_,hl,_,_,_,_,_=>by simp at hl
 |q::qs,(off,n,x)::ps,z,r,cells,hl,hp,he,hz,hc,h=>by
  obtain⟨h1,h2⟩:=hp 0 _ _ rfl rfl
  simp only[gE,Zd]at h
  obtain⟨cs,hcs,h⟩:=h
  replace h:=aj h
  obtain⟨hb,h⟩:=h
  simp at hb
  obtain⟨hn,hle⟩:=hb
  obtain⟨k1,k2,_⟩:=gD hcs (aZ h2 he)
  have hsz:(ma cells off (a.eval q.2).cells.toList).size=cells.size:=iA (by simp;omega)
  have bH:=kG (at_:=0) hc k2 hn k1 hle (by omega)
  rw[aae]at bH
  obtain⟨out,o1,o2,o3⟩:=nu qs ps _ r (ma cells off (a.eval q.2).cells.toList) (by simpa using hl) (fun j p q hq hp'=>hp (j+1) p q (by simpa using hq) (by simpa using hp')) he
   (by rw[ik hn hle,hsz];exact hz) bH h
  refine⟨out,?_,o2,o3⟩
  simp only[ZO]
  rw[rC (by rw[h1,←k1,hn]) (by omega)]
  exact o1
theorem run_places{P:Program}{w:World}:∀(fs:List Field),(∀f∈fs,(fD P f.type).isSome=true)→Sem.run P (fs.mapM (fun(f:Field)=>(do pure (f.offset,←sizeOf f.type):Sem (Nat×Nat)))) w=.ok (fs.map fun(f:Field)=>(f.offset,(fD P f.type).getD 0)) w
 |[],_=>rfl
 |f::fs,h=>by
  obtain⟨n,hn⟩:=Option.isSome_iff_exists.1 (h f (by simp))
  have ih:=run_places (P:=P) (w:=w) fs (fun g hg=>h g (by simp[hg]))
  simp only[List.mapM_cons,Sem.run_bind,bO hn,Result.andThen,ZO,hn,aaC]
  simp only[pure,Sem.run,Result.andThen,Sem.run_bind]at ih⊢
  rw[ih]
theorem BS{t:TypeId}{qs:Array (Nat×Operand)}{z r:List SV}{ps:List (Nat×Nat×bU)}(hz:gQ C.P t=some z)(hp:wQ C.P t qs.toList=some ps)(hr:HR C ρ F H w)(he:ER w F ρ e a.tmps)
 (h:gE (ev e) z ps=some r):bJ C (do pure (.value (←Instr.build t (qs.map fun(i,x)=>(i,a.eval x))))) ρ F H w (.agg r) H:=by
 obtain⟨i,v,hi,hv,h1,h2⟩:=ga (w:=w) (F:=F) (ρ:=ρ) hz
 have fin:∀out:Array Value,r.length=out.size→bG w F ρ out 0 r→VR w F ρ (.agg r) (.agg out):=fun out o1 o2=>
  .agg o1 (fun j c hj=>let⟨_,_,_,h⟩:=o2 j c hj;h) (fun j c v hj hv=>by
   obtain⟨v',h3,h4,_⟩:=o2 j c hj
   rw[aae]at h3
   rw[h3]at hv;cases hv;exact h4)
 have hlist:(qs.map fun(i,x)=>(i,a.eval x)).toList=qs.toList.map fun q=>(q.1,a.eval q.2):=by simp
 unfold wQ at hp
 split at hp
 ·rename_i fs hu
  cases hall:fs.toList.all (fun f=>(fD C.P f.type).isSome)with
  |false=>rw[hall]at hp;simp at hp
  |true=>
   rw[hall]at hp
   simp only[aai,Zu]at hp
   obtain⟨p1,p2⟩:=dO hp
   have hpl:=run_places (P:=C.P) (w:=w) fs.toList (fun f hf=>ZA.1 hall f hf)
   obtain⟨out,o1,o2,o3⟩:=nu (place:=((fs.toList.map fun f=>(f.offset,(fD C.P f.type).getD 0)).toArray[·]?)) qs.toList ps z r v.cells p1 (fun j p q hq hp'=>by
    have:=p2 j q p hq hp'
    split at this
    ·rename_i f hf
     split at this
     ·rename_i n x hn hx
      cases this
      refine⟨?_,hx⟩
      simp[hf,hn]
     ·cases this
    ·cases this) he h1 h2 h
   refine bJ.val hr ?_ (fin out o2 o3)
   unfold Instr.build
   simp only[Sem.run_bind,dp hi hv,Result.andThen,run_underlying hu,Array.mapM_eq_mapM_toList]
   rw[Sem.run_map,hpl]
   simp only[Result.andThen,hlist,o1]
   rfl
 ·rename_i n el hu
  split at hp
  ·rename_i m hm
   obtain⟨p1,p2⟩:=dO hp
   obtain⟨out,o1,o2,o3⟩:=nu (place:=fun i=>some (i*m,m)) qs.toList ps z r v.cells p1 (fun j p q hq hp'=>by
    have:=p2 j q p hq hp'
    simp only[Zb]at this
    obtain⟨x,hx,rfl⟩:=this
    exact⟨rfl,hx⟩) he h1 h2 h
   refine bJ.val hr ?_ (fin out o2 o3)
   unfold Instr.build
   simp only[Sem.run_bind,dp hi hv,Result.andThen,run_underlying hu,bO hm,hlist,o1]
   rfl
  ·cases hp
 ·cases hp
end
end
section
section
variable{C:Ctx}{ρ:Map}{F:Nat→Prop}{H H':ab}{w:World}{e:Env}{a:Act}{s c d:SV}
def eo(w:World)(F:Nat→Prop)(ρ:Map)(vs:Array Value)(at_ z:Nat)(L:List (List SV)):Prop:=
 (∀(i:Nat) cs,L[i]?=some cs→cs.length=z)∧∀(i:Nat) cs,L[i]?=some cs→bG w F ρ vs (at_+i*z) cs
theorem jT(hr:HR C ρ F H w){L:List (List SV)}{z cap:Nat}{ex:Bool}{vs:Array Value}{ty:TypeId}{w':World}(hw:w'.heap=w.heap.push (.cells vs ty))(hcap:L.length≤cap)(hex:ex=true→cap=L.length)
 (hsz:cap*z≤vs.size) (hc:eo w F ρ vs 0 z L) (n:Nat) (hn:n≤L.length) (hout:w'.os=w.os∧w'.output=w.output:=by exact⟨rfl,rfl⟩) :
 dD C ρ F H w (.bp H.bl.length 0 0 n) (bH H (.arr 0 z L ex)) (.slice (some ⟨w.heap.size,0,none⟩) n cap) w':=by
 let l:Loc:={cg:=w.heap.size,base:=0,cap:=cap,bP:=z,cw:=0,bB:=false,arr:=true}
 have hh:∀B,B<w.heap.size→w'.heap[B]?=w.heap[B]?:=fun B hB=>by
  rw[hw];simp[aaQ,aaS hB]
 have hk:dy F w w':=fun B hB=>hh B (hr.gW B hB)
 have hle:ρ.le (ρ.put H.bl.length l):=fun b l' h=>⟨l',by rw[Map.bm _ _ (aaS (hr.jn b l' h))];exact h,.inl rfl⟩
 have hp:=hr.push (w':=w') (by rw[hw];simp) hh (.arr 0 z L ex) l (fun _=>⟨Zp _,by rw[hw];simp[l]⟩)
  ⟨rfl,rfl,rfl,hc.1,hcap,hex,(fun h=>by cases h),fun _=>⟨vs,ty,(0,0),by rw[hw];simp[l],fun o ho=>by simp,by simpa[l]using hsz,fun i cs hi=>by
   have:=hc.2 i cs hi
   exact this.mono hk (fun _ h=>h) hle⟩⟩ hout
 exact⟨_,F,.bp (l:=l) (Map.bF _ _ _) (Zp _) rfl (fun _=>⟨(fun h=>by cases h),fun _=>⟨by simp[l];omega,_,rfl,fun _=>by simp[l]⟩⟩),hp.1,hp.2⟩
theorem rU{z:Nat}:∀(qs:List (Nat×Operand)) (ps:List (Nat×bU)) (L r:List (List SV)) (cells:Array Value),
 ps.length=qs.length→(∀(j:Nat) p q,qs[j]?=some q→ps[j]?=some p→q.1=p.1∧bz q.2=some p.2)→ER w F ρ e a.tmps→L.length*z≤cells.size→eo w F ρ cells 0 z L→eJ (ev e) z L ps=some r→
 ∃out,Instr.fill (fun i=>some (i*z,z)) cells (qs.map fun q=>(q.1,a.eval q.2))=some out∧r.length=L.length∧out.size=cells.size∧eo w F ρ out 0 z r
 |[],[],L,r,cells,_,_,_,hz,hc,h=>by
  simp[eJ]at h;subst h
  exact⟨cells,rfl,rfl,rfl,hc⟩
 |[],_::_,_,_,_,hl,_,_,_,_,_=>by simp at hl
 |_::_,[],_,_,_,hl,_,_,_,_,_=>by simp at hl
 |q::qs,(i,x)::ps,L,r,cells,hl,hp,he,hz,hc,h=>by
  obtain⟨h1,h2⟩:=hp 0 _ _ rfl rfl
  simp only[eJ,Zd]at h
  obtain⟨cs,hcs,h⟩:=h
  replace h:=aj h
  obtain⟨hb,h⟩:=h
  simp at hb
  obtain⟨hn,hlt⟩:=hb
  simp only at h1 h2
  obtain⟨k1,k2,_⟩:=gD hcs (aZ h2 he)
  have hm:(i+1)*z≤L.length*z:=Z9 z hlt
  rw[aac,aaW]at hm
  have hle:i*z+(a.eval q.2).cells.size≤cells.size:=by omega
  have hsz:(ma cells (i*z) (a.eval q.2).cells.toList).size=cells.size:=iA (by simp;omega)
  have hrow:eo w F ρ (ma cells (i*z) (a.eval q.2).cells.toList) 0 z (L.set i cs):=by
   refine⟨fun j ds hj=>?_,fun j ds hj=>?_⟩
   ·by_cases e1:j=i
    ·subst e1;simp[hlt]at hj;subst hj;exact hn
    ·rw[Zg (Ne.symm e1)]at hj;exact hc.1 j ds hj
   ·by_cases e1:j=i
    ·subst e1
     simp[hlt]at hj
     subst hj
     obtain⟨old,hold⟩:∃o,L[j]?=some o:=⟨L[j],Zq hlt⟩
     have:=kG (at_:=0+j*z) (o:=0) (n:=z) (hc.2 j old hold) k2 hn k1 (by rw[hc.1 j old hold];omega) (by rw[hc.1 j old hold];omega)
     rw[aaN,aae]at this
     rw[aae]
     intro q' c' hq'
     refine this q' c' ?_
     have hlen:=(Y8.1 hq').1
     unfold fc
     rw[abr,ZZ,Zm hlen]
     exact hq'
    ·rw[Zg (Ne.symm e1)]at hj
     refine l7 (n:=0) (hc.2 j ds hj) (by simp;omega) ?_
     have hd:=hc.1 j ds hj
     simp only[abb]
     rcases acd e1 with hlt'|hlt'
     ·left
      have:(j+1)*z≤i*z:=Z9 z hlt'
      rw[aac,aaW]at this
      omega
     ·right
      have:(i+1)*z≤j*z:=Z9 z hlt'
      rw[aac,aaW]at this
      omega
  obtain⟨out,o1,o2,o3,o4⟩:=rU qs ps _ r (ma cells (i*z) (a.eval q.2).cells.toList) (by simpa using hl) (fun j p q hq hp'=>hp (j+1) p q (by simpa using hq) (by simpa using hp')) he
   (by rw[hsz];simpa using hz) hrow h
  refine⟨out,?_,by simpa using o2,o3.trans hsz,o4⟩
  simp only[ZO]
  rw[h1,rC (by rw[←k1,hn]) hle]
  exact o1
def cD(zs:Array Value)(n:Nat):Array Value:=(Array.range n).map fun i=>zs[i%zs.size]!
theorem jk{z n:Nat}{zs:Array Value}{zl:List SV}(hz:zl.length=z)(hzs:zl.length=zs.size)(hc:bG w F ρ zs 0 zl)(h0:0<z):eo w F ρ (cD zs (n*z)) 0 z (List.replicate n zl):=by
 refine⟨fun i cs hi=>?_,fun i cs hi=>?_⟩<;>rw[aa7]at hi<;>split at hi<;>(try (cases hi;done))<;>cases hi
 ·exact hz
 ·rename_i hlt
  intro j c hj
  have hjl:=(Y8.1 hj).1
  obtain⟨v,h1,h2,h3⟩:=hc j c hj
  have hm:(i+1)*z≤n*z:=Z9 z hlt
  rw[aac,aaW]at hm
  refine⟨v,?_,h2,h3⟩
  rw[aae]at h1⊢
  unfold cD
  have hmod:(i*z+j)%zs.size=j:=by
   rw[←hzs,hz,acu,Nat.add_mul_mod_self_right,acr (by omega)]
  simp only[Array.getElem?_map,Array.getElem?_range,show i*z+j<n*z by omega,if_true,ZQ,hmod]
  congr 1
  have hj':j<zs.size:=by omega
  rw[getElem!_pos zs j hj']
  rw[Z4 hj']at h1
  exact aaV h1
theorem yI{t el:TypeId}{n z:Nat}{qs:Array (Nat×Operand)}{zl:List SV}{ps:List (Nat×bU)}{L:List (List SV)}(he0:kW C.P t=some el)(hsz:fD C.P el=some (z+1))(hz:gQ C.P el=some zl)
 (hp:bN (qs.toList.map fun p=>(bz p.2).map fun x=>(p.1,x))=some ps) (hlim:n*(z+1)≤16777216) (hzl:zl.length=z+1) (hr:HR C ρ F H w) (he:ER w F ρ e a.tmps)
 (h:eJ (ev e) (z+1) (List.replicate n zl) ps=some L):bJ C (do pure (.value (←Instr.buildSlice t n (qs.map fun(i,x)=>(i,a.eval x))))) ρ F H w (.bp H.bl.length 0 0 n) (bH H (.arr 0 (z+1) L true)):=by
 obtain⟨i,v,hi,hv,h1,h2⟩:=ga (w:=w) (F:=F) (ρ:=ρ) hz
 have hu:C.P.underlying t=some (.slice el):=by
  unfold kW at he0
  split at he0
  ·cases he0;assumption
  ·cases he0
 have hlist:(qs.map fun(i,x)=>(i,a.eval x)).toList=qs.toList.map fun q=>(q.1,a.eval q.2):=by simp
 obtain⟨p1,p2⟩:=dO hp
 have hzr:(cD v.cells (n*(z+1))).size=n*(z+1):=by simp[cD]
 obtain⟨out,o1,o2,o3,o4⟩:=rU qs.toList ps (List.replicate n zl) L (cD v.cells (n*(z+1))) p1 (fun j p q hq hp'=>by
  have:=p2 j q p hq hp'
  simp only[Zb]at this
  obtain⟨x,hx,rfl⟩:=this
  exact⟨rfl,hx⟩) he (by rw[hzr];simp) (jk hzl h1 h2 (Nat.succ_pos z)) h
 have hlen:L.length=n:=by simpa using o2
 refine bJ.so (w':={w with heap:=w.heap.push (.cells out el)}) ?_ (jT hr rfl (Zp L.length) (fun _=>rfl) (by rw[o3,hzr,hlen];exact Zp _) o4 n (by omega))
 have hlim':¬n*(z+1)>2 ^ 24:=by omega
 unfold Instr.buildSlice
 simp only[Sem.run_bind,run_underlying hu,Result.andThen,bO hsz,if_neg hlim']
 by_cases h0:n*(z+1)=0
 ·have hzz:(Array.range (n*(z+1))).map (fun x=>(#[]:Array Value)[x%(#[]:Array Value).size]!)=cD v.cells (n*(z+1)):=by
   unfold cD;rw[h0];simp
  simp only[h0,if_true,pure,Sem.run,Result.andThen,Sem.run_bind]
  rw[h0]at hzz
  rw[h0]at o1
  simp only[hzz,hlist,o1]
  simp[newRow,newObj,Sem.run,hlen]
 ·simp only[h0,if_false,Sem.run_bind,dp hi hv,Result.andThen,pure,Sem.run]
  have hzz:(Array.range (n*(z+1))).map (fun x=>v.cells[x%v.cells.size]!)=cD v.cells (n*(z+1)):=rfl
  simp only[hzz,hlist,o1]
  simp[newRow,newObj,Sem.run,hlen]
end
end
section
section
variable{C:Ctx}{ρ:Map}{F:Nat→Prop}{H H':ab}{w:World}{e:Env}{a:Act}{s c d:SV}
theorem q9{w':World}(h:w'.heap=w.heap)(ad:Addr):w'.cell? ad=w.cell? ad:=by simp[World.cell?,h]
theorem mZ{vs:Array Value}{at_ z:Nat}:eo w F ρ vs at_ z []:=⟨by simp,by simp⟩
theorem ya{vs:Array Value}{z:Nat}{X:List (List SV)}(h:eo w F ρ vs 0 z X)(hn:vs.size=X.length*z):∀v∈vs.toList,jx v=true:=by
 intro v hv
 obtain⟨j,hj,rfl⟩:=List.mem_iff_getElem.1 hv
 simp at hj
 have hz:0<z:=by
  rcases Nat.eq_zero_or_pos z with h0|h0
  ·subst h0;omega
  ·exact h0
 have hi:j/z<X.length:=by
  apply Nat.div_lt_of_lt_mul
  rw[ab0];omega
 have hx:X[j/z]?=some X[j/z]:=Zq hi
 have hl:=h.1 _ _ hx
 have hm:j%z<(X[j/z]).length:=by rw[hl];exact acB _ hz
 obtain⟨v',h1,h2,h3⟩:=h.2 _ _ hx (j%z) _ (Zq hm)
 have:0+j/z*z+j%z=j:=by
  rw[aae,ab0];exact Nat.div_add_mod j z
 rw[this,Z4 (by omega)]at h1
 have:v'=vs.toList[j]:=by simpa using(aaV h1).symm
 rw[←this]
 exact h2.one h3
def D2(C:Ctx)(w:World)(F:Nat→Prop)(H:ab)(ρ ρ1:Map)(c:SV):Prop:=∀b cw off n l x,c=.bp b cw off n→ρ b=some l→bk H b=some x→x.live=true→BR C w F ρ1 l x
theorem ew(hr:HR C ρ F H w):D2 C w F H ρ ρ c:=fun b cw off n l x _ hl hb hx=>by
 obtain⟨l',h1,h2⟩:=hr.live b x hb hx
 rw[hl]at h1;cases h1
 exact h2
theorem kn(hr:HR C ρ F H w){z:Nat}(hz:0<z){X:List (List SV)}{v:Value}(hv:VR w F ρ c v)(h:nr z H c=some X) :
 ∃q cap cells,v=.slice q X.length cap∧(∀w':World,w'.heap=w.heap→(Builtin.firstCells z X.length v).run C.P w'=.ok cells w')∧cells.size=X.length*z∧∀ρ1:Map,D2 C w F H ρ ρ1 c→eo w F ρ1 cells 0 z X:=by
 unfold nr at h
 split at h
 ·rename_i z' L f
  replace h:=aj h
  obtain⟨hc,h⟩:=h
  have h':L=X:=aaV h
  subst h'
  clear h
  cases hv with
  |aA V hcap hfull hz' hat h1 hv=>
   rename_i q cap
   rcases hat with h0|⟨B,o,ha,hF,hk⟩
   ·subst h0
    refine⟨q,cap,#[],rfl,fun w' hw=>?_,by simp,fun _ _=>mZ⟩
    cases q with
    |none=>rfl
    |some q=>simp only[Builtin.firstCells,Zx,abJ];rfl
   ·subst ha
    by_cases h0:L=[]
    ·subst h0
     exact⟨_,cap,#[],rfl,fun w' hw=>by simp only[Builtin.firstCells,Zx,abJ];rfl,by simp,fun _ _=>mZ⟩
    ·have hzz:z'=z:=by
      simp at hc
      rcases hc with hc|hc
      ·exact hc
      ·exact absurd hc h0
     subst hzz
     refine⟨_,cap,((List.range (L.length*z')).map fun j=>V (j/z') (j%z')).toArray,rfl,fun w' hw=>?_,by simp,fun ρ1 _=>⟨fun i cs hi=>hz' i cs hi,fun i cs hi j c hj=>?_⟩⟩
     ·simp only[Builtin.firstCells]
      refine run_loadCells w' _ _ _ (fun j hj=>?_)
      rw[dc,q9 hw]
      have hi:j/z'<L.length:=Nat.div_lt_of_lt_mul (by rw[ab0];exact hj)
      have hx:L[j/z']?=some L[j/z']:=Zq hi
      have hm:j%z'<(L[j/z']).length:=by rw[hz' _ _ hx];exact acB _ hz
      have:=hk _ _ _ _ hx (Zq hm)
      rw[Zk,ab0,Nat.div_add_mod]at this
      exact this
     ·have hil:=(Y8.1 hi).1
      have hjl:=(Y8.1 hj).1
      rw[hz' i cs hi]at hjl
      have hm:(i+1)*z'≤L.length*z':=Z9 z' hil
      rw[aac,aaW]at hm
      refine⟨V i j,?_,(hv i j cs c hi hj).mono (fun _ _=>rfl) (fun _ h=>h) (j0 _),h1 i j cs c hi hj⟩
      have e1:(i*z'+j)/z'=i:=by
       rw[acu,Nat.add_mul_div_right _ _ hz,Nat.div_eq_of_lt hjl,aae]
      have e2:(i*z'+j)%z'=j:=by rw[acu,Nat.add_mul_mod_self_right,acr hjl]
      rw[aae]
      have hlt:i*z'+j<L.length*z':=by omega
      simp only[aaT,aat,aa0 hlt,ZQ,e1,e2]
 ·rename_i b cw off n
  split at h
  ·rename_i ver' z' L ex hb
   replace h:=aj h
   obtain⟨hc,h⟩:=h
   simp at hc
   obtain⟨⟨rfl,rfl⟩,hle⟩:=hc
   cases h
   obtain⟨l,z2,L2,ex2,hl,hb2,hbr,g1,g2⟩:=dV hr (by unfold cur;simp[hb]) hv
   rw[hb]at hb2;cases hb2
   have hlen:((L.drop off).take n).length=n:=by simp;omega
   cases hvi:l.bB with
   |true=>
    obtain⟨q,rfl,rfl,rfl⟩:=g1 hvi
    simp only[abr,Zx,abJ]
    refine⟨q,0,#[],rfl,fun w' hw=>?_,by simp,fun _ _=>mZ⟩
    cases q with
    |none=>rfl
    |some q=>simp only[Builtin.firstCells,abJ];rfl
   |false=>
    obtain⟨g3,q,rfl,g4⟩:=g2 hvi
    obtain⟨h1,h2,h3,h4,h5,h6,h7,h8⟩:=hbr
    obtain⟨vs,ty,fz,k1,k2,k3,k4⟩:=h8 hvi
    rw[hlen]
    by_cases hn0:n=0
    ·subst hn0
     simp only[abr]
     refine⟨q,_,#[],rfl,fun w' hw=>?_,by simp,fun _ _=>mZ⟩
     cases q with
     |none=>rfl
     |some q=>simp only[Builtin.firstCells,abJ];rfl
    ·have:=g4 (by omega)
     subst this
     have hm:(off+n)*z'≤l.cap*z':=Z9 z' g3
     rw[aac]at hm
     refine⟨_,_,vs.extract (l.base+off*z') (l.base+off*z'+n*z'),rfl,fun w' hw=>?_,by simp;omega,fun ρ1 hρ1=>⟨fun i cs hi=>?_,fun i cs hi=>?_⟩⟩
     ·simp only[Builtin.firstCells,h3]
      rw[run_loadCells w' _ _ (fun j=>vs.getD (l.base+off*z'+j) undef) (fun j hj=>by
       rw[dc,q9 hw,my k1]
       have:l.base+off*z'+j<vs.size:=by omega
       simp[this])]
      congr 1
      apply Array.ext
      ·simp;omega
      ·intro j h1 h2
       simp at h1
       have:l.base+off*z'+j<vs.size:=by omega
       simp[this]
     ·obtain⟨e1,_⟩:L[off+i]?=some cs∧True:=by
       rw[ZC]at hi
       split at hi
       ·rw[ZT]at hi;exact⟨hi,trivial⟩
       ·cases hi
      exact h4 _ cs e1
     ·obtain⟨e1,e2⟩:L[off+i]?=some cs∧i<n:=by
       rw[ZC]at hi
       split at hi
       ·rw[ZT]at hi;exact⟨hi,by assumption⟩
       ·cases hi
      intro j c hj
      have hjl:=(Y8.1 hj).1
      rw[h4 _ cs e1]at hjl
      obtain⟨_,_,_,_,_,_,_,h9⟩:=hρ1 b _ _ _ l _ rfl hl hb rfl
      obtain⟨vs2,ty2,fz2,m1,m2,m3,m4⟩:=h9 hvi
      rw[k1]at m1;cases m1
      obtain⟨v',p1,p2⟩:=m4 _ cs e1 j c hj
      refine⟨v',?_,p2⟩
      have hm2:(i+1)*z'≤n*z':=Z9 z' e2
      rw[aac,aaW]at hm2
      rw[abT,if_pos (by omega)]
      rw[aac]at p1
      rw[show l.base+off*z'+(0+i*z'+j)=l.base+(off*z'+i*z')+j by omega]
      exact p1
  ·cases h
 ·cases h
end
end
section
section
variable{C:Ctx}{ρ:Map}{F:Nat→Prop}{H H':ab}{w:World}{e:Env}{a:Act}{s c d:SV}
structure Ed(P:Program)(ats:Array TypeId)(el:TypeId)(z:Nat)(i:TypeInfo)(zv:Value):Prop where
 t0:∃t,ats[0]?=some t∧P.underlying t=some (.slice el)
 t1:∃t el',ats[1]?=some t∧P.underlying t=some (.slice el')
 inf:P.info? el=some i
 size:i.size=z
 zero:i.zero=some zv
 XY:zv.cells.size=z
 BO:0<z
 Yh:0<i.bytes
theorem Ed.fD{P:Program}{ats:Array TypeId}{el:TypeId}{z:Nat}{i:TypeInfo}{zv:Value}(h:Ed P ats el z i zv):fD P el=some z:=by
 unfold Go.Sh.fD;rw[h.inf];simp[h.size]
theorem run_append_fits{P:Program}{ats:Array TypeId}{el:TypeId}{z:Nat}{i:TypeInfo}{zv:Value}(hT:Ed P ats el z i zv){ty:TypeId}{base q:Option Addr}{sl sc m mc:Nat}{cells:Array Value}
 (hx:(Builtin.firstCells z m (.slice q m mc)).run P w=.ok cells w) (hfit:sl+m≤sc) {w':World} (hst:∀ad,base=some ad→(storeCells (ad.add (sl*z)) cells.toList).run P w=.ok () w') (hno:base=none→w'=w) :
 (Builtin.append_ ats ty #[.slice base sl sc,.slice q m mc]).run P w=.ok (.slice base (sl+m) sc) w':=by
 obtain⟨t0,h0,hu0⟩:=hT.t0
 obtain⟨t1,el',h1,hu1⟩:=hT.t1
 unfold Builtin.append_
 simp only[h0,h1,aaT,aax,abN,Sem.run_bind,run_underlying hu0,run_underlying hu1,Result.andThen,bO hT.fD]
 simp only[pure,Sem.run,Result.andThen,Builtin.lenOf,ZY,if_false,hfit,if_true,Sem.run_bind,aaF]
 rw[hx]
 cases base with
 |none=>simp only[hno rfl];rfl
 |some ad=>simp only[hst ad rfl,Sem.run_bind,Result.andThen];rfl
theorem nv{P:Program}{ats:Array TypeId}{el:TypeId}{z:Nat}{i:TypeInfo}{zv:Value}(hT:Ed P ats el z i zv){ty:TypeId}{base q:Option Addr}{sl sc m mc:Nat}{cells old:Array Value}
 (hx:∀w',w'.heap=w.heap→(Builtin.firstCells z m (.slice q m mc)).run P w'=.ok cells w') (ho:∀w',w'.heap=w.heap→(Builtin.firstCells z sl (.slice base sl sc)).run P w'=.ok old w') (hfit:¬sl+m≤sc) (hb:(sl+m)*i.bytes≤ch) :
 ∃nc w' vs ty',sl+m≤nc∧(w'.heap=w.heap.push (.cells vs ty')∧w'.os=w.os∧w'.output=w.output)∧(∃rest,vs=old++cells++rest∧rest.size=(nc-(sl+m))*z)∧
  (Builtin.append_ ats ty #[.slice base sl sc,.slice q m mc]).run P w=.ok (.slice (some ⟨w.heap.size,0,none⟩) (sl+m) nc) w':=by
 obtain⟨t0,h0,hu0⟩:=hT.t0
 obtain⟨t1,el',h1,hu1⟩:=hT.t1
 have hbp:=hT.Yh
 have hml:ch=1099511627776:=rfl
 have g1:¬Builtin.nextslicecap (sl+m) sc*i.bytes>2 ^ 48:=by
  have:=growslice_fits (need:=sl+m) (old:=sc) (bytes:=i.bytes) (by omega) (by omega)
  omega
 have hle:sl+m≤(sl+m)*i.bytes:=Nat.le_mul_of_pos_right _ hbp
 have g2:¬(9223372036854775807<((sl:Int)+(m:Int))):=by omega
 have g1':¬(281474976710656<Builtin.nextslicecap (sl+m) sc*i.bytes):=by omega
 refine⟨grownCap w (sl+m) sc el,w.drew.alloc (.cells (old++cells++Builtin.zeroCells zv.cells (grownCap w (sl+m) sc el-(sl+m))) el),_,el,?_,⟨rfl,rfl,rfl⟩,⟨_,rfl,by simp[Builtin.zeroCells,hT.XY]⟩,?_⟩
 ·show sl+m≤(sl+m)+_%_
  omega
 ·have hf:=hx w.drew rfl
  have hfo:=ho w.drew rfl
  have hi:=hT.inf
  have hsz:=hT.size
  have hz:=hT.zero
  simp[Builtin.append_,h0,h1,run_underlying hu0,run_underlying hu1,sizeOf,typeInfo,zeroValue,hi,hz,hsz,Builtin.lenOf,hfit,g2,g1',Question.forced,hf,hfo,newRow,grownCap]
end
end
section
section
variable{C:Ctx}{ρ:Map}{F:Nat→Prop}{H H':ab}{w:World}{e:Env}{a:Act}{s c d:SV}
theorem l6{vs ws:Array Value}{at_:Nat}{cs:List SV}(hc:bG w F ρ vs at_ cs):bG w F ρ (vs++ws) at_ cs:=by
 intro j c hj
 obtain⟨v,h1,h2⟩:=hc j c hj
 have:=(ZG.1 h1).1
 exact⟨v,by rw[abB this];exact h1,h2⟩
theorem vj{vs ws:Array Value}{at_:Nat}{cs:List SV}(hc:bG w F ρ ws at_ cs):bG w F ρ (vs++ws) (vs.size+at_) cs:=by
 intro j c hj
 obtain⟨v,h1,h2⟩:=hc j c hj
 refine⟨v,?_,h2⟩
 rw[Array.getElem?_append_right (by omega),show vs.size+at_+j-vs.size=at_+j by omega]
 exact h1
theorem ua{vs ws rest:Array Value}{z:Nat}{Y X:List (List SV)}(hy:eo w F ρ vs 0 z Y)(hs:vs.size=Y.length*z)(hx:eo w F ρ ws 0 z X):eo w F ρ (vs++ws++rest) 0 z (Y++X):=by
 refine⟨fun i cs hi=>?_,fun i cs hi=>?_⟩<;>rw[aar]at hi<;>split at hi
 ·exact hy.1 i cs hi
 ·exact hx.1 _ cs hi
 ·exact l6 (l6 (hy.2 i cs hi))
 ·rename_i hge
  have:=l6 (ws:=rest) (vj (vs:=vs) (hx.2 _ cs hi))
  rw[hs,aae,←aac,show Y.length+(i-Y.length)=i by omega]at this
  rwa [aae]
theorem tX{vs xs:Array Value}{z base off cap:Nat}{L X:List (List SV)}(hL:∀(i:Nat) cs,L[i]?=some cs→cs.length=z)(hc:∀(i:Nat) cs,L[i]?=some cs→bG w F ρ vs (base+i*z) cs)(hx:eo w F ρ xs 0 z X)(hn:xs.size=X.length*z)
 (ho:off≤L.length) (hfit:off+X.length≤cap) (hLc:L.length≤cap) (hsz:base+cap*z≤vs.size) :
 eo w F ρ (ma vs (base+off*z) xs.toList) base z (L.take off++X++L.drop (off+X.length)):=by
 have hm:(off+X.length)*z≤cap*z:=Z9 z hfit
 rw[aac]at hm
 have hle:base+off*z+xs.toList.length≤vs.size:=by simp;omega
 have ht:(L.take off).length=off:=by simp;omega
 have key:∀(i:Nat) cs,(L.take off++X++L.drop (off+X.length))[i]?=some cs→(off≤i∧i<off+X.length∧X[i-off]?=some cs)∨((i<off∨off+X.length≤i)∧L[i]?=some cs):=by
  intro i cs hi
  rw[Za,aar,ht]at hi
  split at hi
  ·rename_i hlt
   rw[ZC,if_pos hlt]at hi
   exact .inr ⟨.inl hlt,hi⟩
  ·rename_i hge
   rw[aar]at hi
   split at hi
   ·exact .inl ⟨by omega,by omega,hi⟩
   ·rename_i h2
    rw[ZT,show off+X.length+(i-off-X.length)=i by omega]at hi
    exact .inr ⟨.inr (by omega),hi⟩
 refine⟨fun i cs hi=>?_,fun i cs hi=>?_⟩
 ·rcases key i cs hi with⟨_,_,h⟩|⟨_,h⟩
  ·exact hx.1 _ cs h
  ·exact hL i cs h
 ·rcases key i cs hi with⟨h1,h2,h⟩|⟨h1,h⟩
  ·intro j c hj
   have hjl:=(Y8.1 hj).1
   rw[hx.1 _ cs h]at hjl
   obtain⟨v,p1,p2⟩:=hx.2 _ cs h j c hj
   refine⟨v,?_,p2⟩
   have hp:=(ZG.1 p1).1
   have e1:i*z=off*z+(i-off)*z:=by rw[←aac];congr 1;omega
   rw[jv hle,if_neg (by omega),if_pos (by simp;omega),abY]
   rw[show base+i*z+j-(base+off*z)=0+(i-off)*z+j by omega]
   exact p1
  ·refine l7 (n:=0) (hc i cs h) hle ?_
   rw[hL i cs h]
   simp only[abb,hn]
   rcases h1 with h1|h1
   ·left
    have:(i+1)*z≤off*z:=Z9 z h1
    rw[aac,aaW]at this
    omega
   ·right
    have:(off+X.length)*z≤i*z:=Z9 z h1
    rw[aac]at this
    omega
theorem CD{vs:Array Value}{z at_ N:Nat}{X:List (List SV)}(h:eo w F ρ vs at_ z X)(hN:SV.refs.au X.flatten≤N):eo w F (ρ.cut N) vs at_ z X:=by
 refine⟨h.1,fun i cs hi j c hj=>?_⟩
 obtain⟨v,h1,h2,h3⟩:=h.2 i cs hi j c hj
 have hm:c∈X.flatten:=abH.2 ⟨cs,Zj hi,Zj hj⟩
 obtain⟨m,hm⟩:=ZH hm
 exact⟨v,h1,h2.cut N (eL hN m c hm),h3⟩
def wx(ρ ρ1:Map)(r:Nat):Prop:=ρ1=ρ∨∃N,r≤N∧ρ1=ρ.cut N
theorem nw{vs:Array Value}{z at_:Nat}{X:List (List SV)}{ρ1:Map}(h:eo w F ρ vs at_ z X)(hN:wx ρ ρ1 (SV.refs.au X.flatten)):eo w F ρ1 vs at_ z X:=by
 rcases hN with rfl|⟨N,hN,rfl⟩
 ·exact h
 ·exact CD h hN
theorem jB{ats:Array TypeId}{el:TypeId}{z:Nat}{i:TypeInfo}{zv:Value}(hT:Ed C.P ats el z i zv){ty:TypeId}(hr:HR C ρ F H w){Y X:List (List SV)}{sv xv:Value}{base:Option Addr}{sc:Nat}(hsv:VR w F ρ s sv)(hxv:VR w F ρ c xv)
 (hY:nr z H s=some Y) (hX:nr z H c=some X) (he:sv=.slice base Y.length sc) (hg:¬Y.length+X.length≤sc) (hb:(Y.length+X.length)*i.bytes≤ch) :
 ∃nc w' vs ty',Y.length+X.length≤nc∧(w'.heap=w.heap.push (.cells vs ty')∧w'.os=w.os∧w'.output=w.output)∧nc*z≤vs.size∧(∀ρ1:Map,D2 C w F H ρ ρ1 s→wx ρ ρ1 (SV.refs.au X.flatten)→eo w F ρ1 vs 0 z (Y++X))∧
  (Builtin.append_ ats ty #[sv,xv]).run C.P w=.ok (.slice (some ⟨w.heap.size,0,none⟩) (Y.length+X.length) nc) w':=by
 obtain⟨q,mc,cells,rfl,k1,k2,k3⟩:=kn hr hT.BO hxv hX
 obtain⟨q',mc',old,h1,j1,j2,j3⟩:=kn hr hT.BO hsv hY
 subst he
 cases h1
 obtain⟨nc,w',vs,ty',g1,g2,⟨rest,g3,g4⟩,g5⟩:=nv hT (ty:=ty) k1 j1 hg hb
 refine⟨nc,w',vs,ty',g1,g2,?_,?_,g5⟩
 ·rw[g3]
  simp only[Array.size_append,j2,k2,g4]
  rw[←aac,←aac]
  exact Z9 z (by omega)
 ·intro ρ1 h1 h2
  rw[g3];exact ua (j3 ρ1 h1) j2 (nw (k3 ρ (ew hr)) h2)
theorem tw(hr:HR C ρ F H w){b cw z:Nat}{L L':List (List SV)}{ex:Bool}{l:Loc}{refs:Nat}(hb:bk H b=some (.arr cw z L ex))(hl:ρ b=some l)(hbr:BR C w F ρ l (.arr cw z L ex))
 (hH:cp H b (.arr (cw+1) z L' false) refs=some H') {w':World} {l':Loc} (hv':l'.cw=cw+1) (ha:l'.arr=true) (hs:w.heap.size≤w'.heap.size) (hh:∀B,B<w.heap.size→(l.bB=false→B≠l.cg)→w'.heap[B]?=w.heap[B]?)
 (hl':l'.bB=false→(l.bB=false∧l'.cg=l.cg)∨(w.heap.size≤l'.cg∧l'.cg<w'.heap.size))
 (hy:∀ρ1:Map,wx ρ ρ1 refs→BR C w F ρ1 l (.arr cw z L ex)→BR C w' F (ρ1.put b l') l' (.arr (cw+1) z L' false)) {off n:Nat} {val:Value} (hone:jx val=true)
 (hval:(l'.bB=true→∃a,val=.slice a 0 0∧off=0∧n=0)∧
  (l'.bB=false→off+n≤l'.cap∧∃a,val=.slice a n (l'.cap-off)∧(off<l'.cap→a=some ⟨l'.cg,l'.base+off*l'.bP,none⟩))) (hout:w'.os=w.os∧w'.output=w.output:=by exact⟨rfl,rfl⟩) :
 dD C ρ F H w (.bp b (cw+1) off n) H' val w':=by
 obtain⟨p1,p2⟩:=hr.set (w':=w') hH hb rfl hl hs hh hl' (.inr ⟨hbr.1,by have:=hbr.2.1;omega⟩) (fun _=>hy ρ (.inl rfl) hbr) (fun _ N hN hbN h=>by
  have:=hy (ρ.cut N) (.inr ⟨N,hN,rfl⟩) h
  have e:(ρ.put b l').cut N=(ρ.cut N).put b l':=by
   funext b'
   unfold Map.cut Map.put
   by_cases e:b'=b
   ·subst e;simp[hbN]
   ·simp[e]
  rw[e];exact this) (hout:=hout)
 exact⟨_,F,.bp (Map.bF _ _ _) (by omega) hone (fun _=>hval),p1,p2⟩
theorem ic{ats:Array TypeId}{el:TypeId}{z:Nat}{i:TypeInfo}{zv:Value}(hT:Ed C.P ats el z i zv){ty:TypeId}(hr:HR C ρ F H w){xv:Value}{base:Option Addr}{sl sc:Nat}(hxv:VR w F ρ c xv)
 (hX:nr z H c=some []) (hg:sl≤sc):(Builtin.append_ ats ty #[.slice base sl sc,xv]).run C.P w=.ok (.slice base sl sc) w:=by
 obtain⟨q,mc,cells,rfl,k1,k2,k3⟩:=kn hr hT.BO hxv hX
 have h0:cells= #[]:=aa4 (by simpa using k2)
 subst h0
 have:=run_append_fits hT (ty:=ty) (base:=base) (k1 w rfl) (by simpa using hg) (w':=w) (fun ad _=>rfl) (fun _=>rfl)
 simpa using this
theorem mL{ats:Array TypeId}{el:TypeId}{z:Nat}{i:TypeInfo}{zv:Value}(hT:Ed C.P ats el z i zv){ty:TypeId}(hr:HR C ρ F H w){X:List (List SV)}{xv:Value}{b v off n:Nat}{L:List (List SV)}{ex:Bool}{l:Loc}
 (hxv:VR w F ρ c xv) (hX:nr z H c=some X) (hb:bk H b=some (.arr v z L ex)) (hl:ρ b=some l) (hbr:BR C w F ρ l (.arr v z L ex)) (hvi:l.bB=false) (hle:off+n≤L.length) (hfit:off+n+X.length≤l.cap) :
 ∃vs' ty' fz,(Builtin.append_ ats ty #[.slice (some ⟨l.cg,l.base+off*z,none⟩) n (l.cap-off),xv]).run C.P w=.ok (.slice (some ⟨l.cg,l.base+off*z,none⟩) (n+X.length) (l.cap-off)) (eV w l.cg vs' ty' fz)∧
  ko fz vs'.size∧l.base+l.cap*z≤vs'.size∧(∀ρ1:Map,BR C w F ρ1 l (.arr v z L ex)→wx ρ ρ1 (SV.refs.au X.flatten)→eo (eV w l.cg vs' ty' fz) F ρ1 vs' l.base z (L.take (off+n)++X++L.drop (off+n+X.length)))∧(eV w l.cg vs' ty' fz).heap[l.cg]?=some (.cells vs' ty' fz):=by
 obtain⟨q,mc,cells,rfl,k1,k2,k3⟩:=kn hr hT.BO hxv hX
 obtain⟨h1,h2,h3,h4,h5,h6,h7,h8⟩:=hbr
 obtain⟨vs,ty',fz,g1,g2,g3,g4⟩:=h8 hvi
 have hm:(off+n+X.length)*z≤l.cap*z:=Z9 z hfit
 rw[aac]at hm
 have hsz:(ma vs (l.base+(off+n)*z) cells.toList).size=vs.size:=iA (by simp;omega)
 have hlt:l.cg<w.heap.size:=(ZG.1 g1).1
 have hst:=dN (P:=C.P) l.cg (l.base+(off+n)*z) ty' fz cells.toList 0 vs w g1 g2 (by simp;omega) (fun x hx=>ya (k3 ρ (ew hr)) k2 x hx)
 refine⟨ma vs (l.base+(off+n)*z) cells.toList,ty',fz,?_,by rw[hsz];exact g2,by rw[hsz];exact g3,?_,iO hlt⟩
 ·refine run_append_fits hT (k1 w rfl) (by omega) (fun ad hd=>?_) (fun h=>by cases h)
  cases hd
  rw[dc,show l.base+off*z+n*z=l.base+(off+n)*z by rw[aac];omega]
  exact hst
 ·intro ρ1 hb1 hc1
  obtain⟨_,_,_,_,_,_,_,q8⟩:=hb1
  obtain⟨vs2,ty2,fz2,m1,m2,m3,m4⟩:=q8 hvi
  rw[g1]at m1;cases m1
  have:=tX (xs:=cells) h4 m4 (nw (k3 ρ (ew hr)) hc1) k2 hle hfit h5 g3
  have hk:dy F w (eV w l.cg (ma vs (l.base+(off+n)*z) cells.toList) ty' fz):=jw hr hb rfl hl hvi
  exact⟨this.1,fun j cs hj=>(this.2 j cs hj).mono hk (fun _ h=>h) (Map.le_refl _)⟩
theorem zq{ats:Array TypeId}{el:TypeId}{z:Nat}{i:TypeInfo}{zv:Value}(hT:Ed C.P ats el z i zv){ty:TypeId}(hr:HR C ρ F H w){X:List (List SV)}{sv xv:Value}(hsv:VR w F ρ s sv)(hxv:VR w F ρ c xv)
 (hX:nr z H c=some X) (h:gn z i.bytes H s X=some (d,H')):∃val w',(Builtin.append_ ats ty #[sv,xv]).run C.P w=.ok val w'∧dD C ρ F H w d H' val w':=by
 have hz:=hT.BO
 unfold gn at h
 split at h
 ·rename_i z0 L f
  replace h:=aj h
  obtain⟨hb,h⟩:=h
  replace hb:=ZE hb
  cases hsv with
  |aA V hcap hfull hz' hat h1 hv=>
   rename_i q cap
   split at h
   ·replace h:=aj h
    obtain⟨hf,h⟩:=h
    simp only[Zs,Zy]at h
    obtain⟨rfl,rfl⟩:=h
    have hc0:cap=0:=hfull hf
    subst hc0
    cases X with
    |nil=>
     refine⟨_,w,ic hT hr hxv hX (Zp _),?_⟩
     let l:Loc:={cg:=0,base:=0,cap:=0,bP:=z,cw:=0,bB:=true,arr:=true}
     have hp:=hr.push (w':=w) (Zp _) (fun _ _=>rfl) (.arr 0 z [] false) l (fun h=>by cases h) ⟨rfl,rfl,rfl,by simp,Zp _,(fun h=>by cases h),fun _=>rfl,fun h=>by cases h⟩
     exact⟨_,F,.bp (l:=l) (Map.bF _ _ _) (Zp _) rfl (fun _=>⟨fun _=>⟨q,rfl,rfl,rfl⟩,fun h=>by cases h⟩),hp.1,hp.2⟩
    |cons x X=>
     obtain⟨nc,w',vs,ty',g1,g2,g3,g4,g5⟩:=jB hT (ty:=ty) hr (.aA V hcap hfull hz' hat h1 hv) hxv (Y:=[]) (by simp[nr]) hX rfl (by simp) hb
     refine⟨_,w',g5,?_⟩
     have:=jT hr (ex:=false) (hout:=g2.2) g2.1 (by simpa using g1) (fun h=>by cases h) g3 (g4 ρ (ew hr) (.inl rfl)) (x::X).length (by simp)
     simpa using this
   ·simp only[Zs,Zy]at h
    obtain⟨rfl,rfl⟩:=h
    exact⟨_,w,ic hT hr hxv hX hcap,dD.same hr (.aA V hcap hfull hz' hat h1 hv)⟩
   ·rename_i hne1 hne2
    replace h:=aj h
    obtain⟨hf,h⟩:=h
    simp only[Zh,aah]at hf
    obtain⟨hf,rfl⟩:=hf
    simp only[Zs,Zy]at h
    obtain⟨rfl,rfl⟩:=h
    have hc0:=hfull hf
    have hX0:0<X.length:=by
     cases X with
     |nil=>exact absurd rfl hne2
     |cons _ _=>simp
    obtain⟨nc,w',vs,ty',g1,g2,g3,g4,g5⟩:=jB hT (ty:=ty) hr (.aA V hcap hfull hz' hat h1 hv) hxv (Y:=L) (by simp[nr]) hX rfl (by omega) hb
    refine⟨_,w',g5,?_⟩
    have:=jT hr (ex:=false) (hout:=g2.2) g2.1 (by simpa using g1) (fun h=>by cases h) g3 (g4 ρ (ew hr) (.inl rfl)) (L.length+X.length) (by simp)
    simpa using this
 ·rename_i b v off n
  replace h:=aj h
  obtain⟨hb,h⟩:=h
  replace hb:=ZE hb
  split at h
  ·rename_i v' z' L ex hg
   replace h:=aj h
   obtain⟨hc,h⟩:=h
   simp only[Zh,aah,Ze]at hc
   obtain⟨⟨rfl,rfl⟩,hle⟩:=hc
   have hY:nr z' H (.bp b v off n)=some ((L.drop off).take n):=by
    simp[nr,hg,hle]
   have hYl:((L.drop off).take n).length=n:=by simp;omega
   obtain⟨l,z2,L2,ex2,hl,hb2,hbr,g1,g2⟩:=dV hr (by unfold cur;simp[hg]) hsv
   rw[hg]at hb2;cases hb2
   have hbr':=hbr
   obtain⟨b1,b2,b3,b4,b5,b6,b7,b8⟩:=hbr'
   obtain⟨base,sc,hse,hsc⟩:∃base sc,sv=.slice base n sc∧n≤sc:=by
    cases hvi:l.bB with
    |true=>obtain⟨q,p1,p2,p3⟩:=g1 hvi;exact⟨q,0,by rw[p1,p3],by omega⟩
    |false=>obtain⟨p1,q,p2,p3⟩:=g2 hvi;exact⟨q,_,p2,by omega⟩
   cases hi:(!ex&&off==0&&n==L.length)with
   |true=>
    rw[hi]at h
    simp only[Zh,aah,ZK]at hi
    obtain⟨⟨he0,rfl⟩,hn⟩:=hi
    simp only[Zr,Zb,Zy]at h
    obtain⟨H1,hH,rfl,rfl⟩:=h
    have hY':(L.drop 0).take n=L:=by rw[hn];simp
    rw[hY']at hY hYl
    have hLX:∀(j:Nat) cs,(L++X)[j]?=some cs→cs.length=z':=fun j cs hj=>by
     rw[aar]at hj
     obtain⟨q,mc,cells,_,_,_,k3⟩:=kn hr hz hxv hX
     split at hj
     ·exact b4 j cs hj
     ·exact(k3 ρ (ew hr)).1 _ cs hj
    have hle':∀(ρ1:Map) (l':Loc),wx ρ ρ1 (SV.refs.au X.flatten)→l'.cw=v+1→ρ1.le (ρ1.put b l'):=fun ρ1 l' hc hv' b' l1 h1=>by
     have h2:ρ b'=some l1:=by
      rcases hc with rfl|⟨N,_,rfl⟩
      ·exact h1
      ·unfold Map.cut at h1
       split at h1
       ·exact h1
       ·cases h1
     by_cases e:b'=b
     ·subst e;rw[hl]at h2;cases h2;exact⟨_,Map.bF _ _ _,.inr ⟨b1,by omega⟩⟩
     ·exact⟨l1,by rw[Map.bm _ _ e];exact h1,.inl rfl⟩
    by_cases hX0:X=[]
    ·subst hX0
     subst hse
     refine⟨_,w,ic hT hr hxv hX hsc,?_⟩
     rw[ZW]at hH
     refine tw hr hg hl hbr hH (w':=w) (l':={l with cw:=v+1}) rfl b1 (Zp _) (fun _ _ _=>rfl) (fun h=>.inl ⟨h,rfl⟩) (fun ρ1 hρ1 hbr1=>⟨b1,rfl,b3,b4,b5,(fun h=>by cases h),b7,fun h=>?_⟩) rfl ⟨fun h=>?_,fun h=>?_⟩
     ·obtain⟨vs,ty',fz,e1,e2,e3,e4⟩:=hbr1.2.2.2.2.2.2.2 h
      exact⟨vs,ty',fz,e1,e2,e3,fun j cs hj=>(e4 j cs hj).mono (fun _ _=>rfl) (fun _ h=>h) (hle' ρ1 _ hρ1 rfl)⟩
     ·obtain⟨q,p1,p2,p3⟩:=g1 h
      exact⟨q,by rw[p1],p2,by simpa using p3⟩
     ·obtain⟨p1,q,p2,p3⟩:=g2 h
      exact⟨by simpa using p1,q,by simpa using p2,by simpa using p3⟩
    ·have hXp:0<X.length:=by
      cases X with
      |nil=>exact absurd rfl hX0
      |cons _ _=>simp
     by_cases hfit:l.bB=false∧n+X.length≤l.cap
     ·obtain⟨hvi,hfit⟩:=hfit
      obtain⟨p1,q,p2,p3⟩:=g2 hvi
      have:=p3 (by omega)
      subst this
      rw[p2,b3]
      obtain⟨vs',ty',fz,e1,e2,e3,e4,e5⟩:=mL hT (ty:=ty) hr hxv hX hg hl hbr hvi hle (by omega)
      refine⟨_,_,e1,?_⟩
      have hc:L.take (0+n)++X++L.drop (0+n+X.length)=L++X:=by
       rw[aae,hn,aaj,aaO (by omega),ZW]
      refine tw hr hg hl hbr hH (l':={l with cw:=v+1}) rfl b1 (by rw[ry];exact Zp _) (fun B _ hB=>gG (hB hvi)) (fun h=>.inl ⟨h,rfl⟩) (fun ρ1 hρ1 hbr1=>⟨b1,rfl,b3,hLX,by simp;omega,(fun h=>by cases h),b7,fun h=>?_⟩) rfl ⟨fun h=>?_,fun h=>?_⟩
      ·have e6:=e4 ρ1 hbr1 hρ1
       rw[hc]at e6
       exact⟨vs',ty',fz,e5,e2,e3,fun j cs hj=>(e6.2 j cs hj).mono (fun _ _=>rfl) (fun _ h=>h) (hle' ρ1 _ hρ1 rfl)⟩
      ·simp[hvi]at h
      ·exact⟨by simpa using hfit,_,rfl,fun _=>by simp[b3]⟩
     ·have hg':¬L.length+X.length≤sc:=by
       cases hvi:l.bB with
       |true=>obtain⟨q,p1,p2,p3⟩:=g1 hvi;rw[p1]at hse;cases hse;omega
       |false=>obtain⟨p1,q,p2,p3⟩:=g2 hvi;rw[p2]at hse;cases hse;have:¬n+X.length≤l.cap:=fun h=>hfit ⟨hvi,h⟩;omega
      obtain⟨nc,w',vs,ty',e1,e2,e3,e4,e5⟩:=jB hT (ty:=ty) hr hsv hxv hY hX (by rw[hse,hn]) hg' (by rw[←hn];exact hb)
      refine⟨_,w',e5,?_⟩
      have hkeep:∀B,B<w.heap.size→w'.heap[B]?=w.heap[B]?:=fun B hB=>by
       rw[e2.1];simp[aaQ,aaS hB]
      rw[hn]
      refine tw hr hg hl hbr hH (hout:=e2.2) (l':={cg:=w.heap.size,base:=0,cap:=nc,bP:=z',cw:=v+1,bB:=false,arr:=true}) rfl rfl (by rw[e2.1];simp) (fun B hB _=>hkeep B hB) (fun _=>.inr ⟨Zp _,by rw[e2.1];simp⟩)
       (fun ρ1 hρ1 hbr1=>⟨rfl,rfl,rfl,hLX,by simpa using e1,(fun h=>by cases h),(fun h=>by cases h),fun _=>?_⟩) rfl ⟨fun h=>(by cases h),fun _=>⟨by simpa using e1,_,rfl,fun _=>by simp⟩⟩
      have e6:=e4 ρ1 (fun b' _ _ _ l2 x hs h1 h2 _=>by cases hs;rw[hl]at h1;cases h1;rw[hg]at h2;cases h2;exact hbr1) hρ1
      exact⟨vs,ty',(0,0),by rw[e2.1];simp,fun o ho=>by simp,by simpa using e3,fun j cs hj=>(e6.2 j cs hj).mono (fun B hB=>hkeep B (hr.gW B hB)) (fun _ h=>h) (hle' ρ1 _ hρ1 rfl)⟩
   |false=>
    rw[hi]at h
    simp only[Zu]at h
    cases hfit:decide (off+n+X.length≤L.length)with
    |true=>
     rw[hfit]at h
     replace hfit:=ZE hfit
     simp only[Zr,Zb,Zy]at h
     obtain⟨H1,hH,rfl,rfl⟩:=h
     by_cases hX0:X=[]
     ·subst hX0
      subst hse
      refine⟨_,w,ic hT hr hxv hX hsc,?_⟩
      rw[ZW,Zx,aaN,aaa]at hH
      obtain⟨p1,p2⟩:=hr.set (w':=w) (l':=l) hH hg rfl hl (Zp _) (fun _ _ _=>rfl) (fun h=>.inl ⟨h,rfl⟩) (.inl rfl) (fun _=>by rw[bW hl];exact hbr) (fun _ N _ _ h=>by rw[bW hl];exact h)
      rw[bW hl]at p1 p2
      exact⟨ρ,F,hsv,p1,p2⟩
     ·have hXp:0<X.length:=by
       cases X with
       |nil=>exact absurd rfl hX0
       |cons _ _=>simp
      have hvi:l.bB=false:=by
       cases hvi:l.bB with
       |true=>have:=b7 hvi;omega
       |false=>rfl
      obtain⟨p1,q,p2,p3⟩:=g2 hvi
      have:=p3 (by omega)
      subst this
      rw[p2,b3]
      obtain⟨vs',ty',fz,e1,e2,e3,e4,e5⟩:=mL hT (ty:=ty) hr hxv hX hg hl hbr hvi hle (by omega)
      refine⟨_,_,e1,?_⟩
      have hlen:(L.take (off+n)++X++L.drop (off+n+X.length)).length=L.length:=by simp;omega
      obtain⟨r1,r2⟩:=ku (vs':=vs') (ty:=ty') (fz:=fz) hr hH hg rfl hl hvi (fun _ ρ1 hρ1 hbr1=>⟨b1,b2,b3,(e4 ρ1 hbr1 hρ1).1,by rw[hlen];exact b5,by rw[hlen];exact b6,b7,fun _=>⟨vs',ty',fz,e5,e2,e3,(e4 ρ1 hbr1 hρ1).2⟩⟩)
      exact⟨ρ,F,.bp hl (by omega) rfl (fun _=>⟨fun h=>(by rw[hvi]at h;cases h),fun _=>⟨by omega,_,rfl,fun _=>by rw[b3]⟩⟩),r1,r2⟩
    |false=>
     rw[hfit]at h
     replace hfit:=aak hfit
     simp only[Zu]at h
     replace h:=aj h
     obtain⟨hex,h⟩:=h
     simp only[Zs,Zy]at h
     obtain⟨rfl,rfl⟩:=h
     have hcap:=b6 hex
     have hg':¬((L.drop off).take n).length+X.length≤sc:=by
      rw[hYl]
      cases hvi:l.bB with
      |true=>obtain⟨q,p1,p2,p3⟩:=g1 hvi;rw[p1]at hse;cases hse;have:=b7 hvi;omega
      |false=>obtain⟨p1,q,p2,p3⟩:=g2 hvi;rw[p2]at hse;cases hse;omega
     obtain⟨nc,w',vs,ty',e1,e2,e3,e4,e5⟩:=jB hT (ty:=ty) hr hsv hxv hY hX (by rw[hse,hYl]) hg' (by rw[hYl];exact hb)
     refine⟨_,w',e5,?_⟩
     rw[hYl]
     exact jT hr (ex:=false) (hout:=e2.2) e2.1 (by simpa using e1) (fun h=>by cases h) e3 (e4 ρ (ew hr) (.inl rfl)) _ (by rw[Y9,hYl];exact Zp _)
  ·cases h
 ·cases h
end
end
section
section
variable{C:Ctx}{ρ:Map}{F:Nat→Prop}{H H':ab}{w:World}{e:Env}{a:Act}{s c d:SV}
theorem wrap_small{n:Int}(h0:0≤n)(h1:n≤ch):IntKind.i64.wrap n=n:=by
 have:ch=1099511627776:=rfl
 rw[IntKind.wrap_i64];omega
theorem wK{t el:TypeId}{i:TypeInfo}{z:List SV}(hu:C.P.underlying t=some (.slice el))(hi:C.P.info? el=some i)(hz:gQ C.P el=some z)(hzl:z.length=i.size)(h0:0<i.size)(hbp:0<i.bytes)(hr:HR C ρ F H w)
 {lv cv:Value} {ls cs:SV} (hl:VR w F ρ ls lv) (hc:VR w F ρ cs cv) (h:mF i.size z i.bytes H ls cs=some (d,H')):∃val w',(Instr.makeSlice t lv cv).run C.P w=.ok val w'∧dD C ρ F H w d H' val w':=by
 unfold mF at h
 split at h
 ·rename_i l c
  replace h:=aj h
  obtain⟨hb,h⟩:=h
  simp only[Zh,Ze]at hb
  obtain⟨⟨h1,h2⟩,h3⟩:=hb
  simp only[Zs,Zy]at h
  obtain⟨rfl,rfl⟩:=h
  obtain rfl:=fL hl
  obtain rfl:=fL hc
  obtain⟨i',v,hi',hv,k1,k2⟩:=ga (w:=w) (F:=F) (ρ:=ρ) hz
  rw[hi]at hi';cases hi'
  have hzr:(cD v.cells (c.toNat*i.size)).size=c.toNat*i.size:=by simp[cD]
  have hrow:=jk (n:=c.toNat) hzl k1 k2 h0
  refine⟨.slice (some ⟨w.heap.size,0,none⟩) l.toNat c.toNat,{w with heap:=w.heap.push (.cells (cD v.cells (c.toNat*i.size)) el)},?_,jT hr rfl (by simp) (fun _=>by simp) (by rw[hzr];exact Zp _) hrow l.toNat (by simp;omega)⟩
  have hm:c≤c*i.bytes:=by
   have:c*1≤c*i.bytes:=aaD (by omega) (by omega)
   omega
  have hml:(ch:Int)=1099511627776:=rfl
  have wl:IntKind.i64.wrap l=l:=wrap_small h1 (by omega)
  have wc:IntKind.i64.wrap c=c:=wrap_small (by omega) (by omega)
  have n1:¬c<0:=by omega
  have n2:¬(281474976710656<(i.bytes:Int)*c):=by rw[acv];omega
  have n3:¬l<0:=by omega
  have n4:¬c<l:=by omega
  by_cases hn:c.toNat*i.size=0
  ·have hzz:(Array.range (c.toNat*i.size)).map (fun x=>(#[]:Array Value)[x%(#[]:Array Value).size]!)=cD v.cells (c.toNat*i.size):=by
    unfold cD;rw[hn];simp
   have hask:∀w:World,(askRoom (c.toNat*i.bytes)).run C.P w=.ok () w:=fun w=>by unfold askRoom;split<;>rfl
   unfold Instr.makeSlice
   simp only[Sem.run_bind,run_underlying hu,Result.andThen,run_typeInfo _ hi,asInt,asIntOf,pure,Sem.run,wl,wc,hask]
   simp[n1,n2,n3,n4,hask,sizeOf,typeInfo,hi,newRow,hn]
   have hr0:Array.range 0= #[]:=aa4 (by simp)
   simp[cD,hr0]
  ·have hask:∀w:World,(askRoom (c.toNat*i.bytes)).run C.P w=.ok () w:=fun w=>by unfold askRoom;split<;>rfl
   unfold Instr.makeSlice
   simp only[Sem.run_bind,run_underlying hu,Result.andThen,run_typeInfo _ hi,asInt,asIntOf,pure,Sem.run,wl,wc,hask]
   simp[n1,n2,n3,n4,hask,sizeOf,typeInfo,hi,newRow,hn,zeroValue,hv,cD]
 ·cases h
end
end
section
section
variable{C:Ctx}{ρ:Map}{F:Nat→Prop}{H H':ab}{w:World}{e:Env}{a:Act}{s c d:SV}
theorem il:∀(sh:List LK) (x y:List SV) (r:Bool),bw sh x y=some r→x.length=sh.length∧y.length=sh.length
 |[],x,y,r,h=>by
  unfold bw at h
  split at h<;>first|(simp;done)|(simp_all;done)
 |k::sh,x,y,r,h=>by
  unfold bw at h
  split at h
  ·rename_i h1;cases h1
  ·rename_i sh' k1 p1 x' k2 p2 y' h1
   cases h1
   replace h:=aj h
   simp only[Zb]at h
   obtain⟨_,r',h2,_⟩:=h
   have:=il sh x' y' r' h2
   simp[this]
  ·rename_i sh' p1 x' p2 y' h1
   cases h1
   simp only[Zb]at h
   obtain⟨r',h2,_⟩:=h
   have:=il sh x' y' r' h2
   simp[this]
  ·rename_i sh' p1 x' p2 y' h1
   cases h1
   simp only[Zb]at h
   obtain⟨r',h2,_⟩:=h
   have:=il sh x' y' r' h2
   simp[this]
  ·cases h
theorem j9{k:LK}{c d:SV}{r:Bool}(h:bw [k] [c] [d]=some r):(∃q p p',k=.i∧c=.int q p∧d=.int q p'∧r=decide (p=p'))∨(∃p p',k=.b∧c=.bool p∧d=.bool p'∧r=(p==p'))∨
 (∃p p',k=.s∧c=.str p∧d=.str p'∧r=decide (p=p')):=by
 unfold bw at h
 split at h
 ·simp_all
 ·rename_i sh q p x q2 p2 y h1 h2 h3
  cases h1;cases h2;cases h3
  replace h:=aj h
  simp only[Zb]at h
  obtain⟨hk,r',h3,rfl⟩:=h
  have:r'=true:=by simpa[bw]using h3.symm
  subst this
  have:q=q2:=by simpa using hk
  subst this
  exact .inl ⟨_,_,_,rfl,rfl,rfl,by simp⟩
 ·rename_i sh p x p2 y h1 h2 h3
  cases h1;cases h2;cases h3
  simp only[Zb]at h
  obtain⟨r',h3,rfl⟩:=h
  have:r'=true:=by simpa[bw]using h3.symm
  subst this
  exact .inr (.inl ⟨_,_,rfl,rfl,rfl,by simp⟩)
 ·rename_i sh p x p2 y h1 h2 h3
  cases h1;cases h2;cases h3
  simp only[Zb]at h
  obtain⟨r',h3,rfl⟩:=h
  have:r'=true:=by simpa[bw]using h3.symm
  subst this
  exact .inr (.inr ⟨_,_,rfl,rfl,rfl,by simp⟩)
 ·cases h
theorem yV{A:Type}{c:Bool}{x:Option A}{y:A}(h:(bif c then none else x)=some y):c=false∧x=some y:=by
 cases c with
 |true=>cases h
 |false=>exact⟨rfl,h⟩
theorem eg:∀(s1 s2:List LK) (x y:List SV) (r:Bool),bw (s1++s2) x y=some r→
 ∃r1 r2,bw s1 (x.take s1.length) (y.take s1.length)=some r1∧bw s2 (x.drop s1.length) (y.drop s1.length)=some r2∧r=(r1&&r2)
 |[],s2,x,y,r,h=>⟨true,r,by simp[bw],by simpa using h,by simp⟩
 |k::s1,s2,x,y,r,h=>by
  simp only[Z5]at h
  unfold bw at h
  split at h
  ·rename_i h1;cases h1
  ·rename_i sh' k1 p1 x' k2 p2 y' h1
   cases h1
   replace h:=aj h
   simp only[Zb]at h
   obtain⟨hk,r',h2,rfl⟩:=h
   obtain⟨r1,r2,h3,h4,rfl⟩:=eg s1 s2 x' y' r' h2
   exact⟨decide (p1=p2)&&r1,r2,by simp[bw,hk,h3],by simpa using h4,by simp[acD]⟩
  ·rename_i sh' p1 x' p2 y' h1
   cases h1
   simp only[Zb]at h
   obtain⟨r',h2,rfl⟩:=h
   obtain⟨r1,r2,h3,h4,rfl⟩:=eg s1 s2 x' y' r' h2
   exact⟨(p1==p2)&&r1,r2,by simp[bw,h3],by simpa using h4,by simp[acD]⟩
  ·rename_i sh' p1 x' p2 y' h1
   cases h1
   simp only[Zb]at h
   obtain⟨r',h2,rfl⟩:=h
   obtain⟨r1,r2,h3,h4,rfl⟩:=eg s1 s2 x' y' r' h2
   exact⟨decide (p1=p2)&&r1,r2,by simp[bw,h3],by simpa using h4,by simp[acD]⟩
  ·cases h
def Dj(P:Program)(w:World)(F:Nat→Prop)(ρ:Map)(dd:Nat)(t:TypeId)(sh:List LK):Prop:=
 ∀(xs ys:Array Value) (cs ds:List SV) (r:Bool) (o:Nat),bG w F ρ xs o cs→bG w F ρ ys o ds→bw sh cs ds=some r→fD P t=some sh.length→
  ∃u v,(part t xs o).run P w=.ok u w∧(part t ys o).run P w=.ok v w∧(Op.equalIn dd t u v).run P w=.ok r w
theorem kK{vs:Array Value}{o i n:Nat}{cs:List SV}(h:bG w F ρ vs o cs):bG w F ρ vs (o+i) ((cs.drop i).take n):=by
 intro j c hj
 rw[ZC]at hj
 split at hj
 ·rw[ZT]at hj
  obtain⟨v,h1,h2,h3⟩:=h _ c hj
  exact⟨v,by rw[Zk];exact h1,h2,h3⟩
 ·cases hj
theorem lj{vs:Array Value}{o n:Nat}{cs:List SV}(h:bG w F ρ vs o cs)(hn:cs.length≤n):bG w F ρ (vs.extract o (o+n)) 0 cs:=by
 intro j c hj
 obtain⟨v,h1,h2,h3⟩:=h j c hj
 have hlt:=(Y8.1 hj).1
 have hlt':=(ZG.1 h1).1
 refine⟨v,?_,h2,h3⟩
 rw[aae,abT,if_pos (by omega)]
 exact h1
theorem vS{P:Program}{t:TypeId}{k k2:IntKind}{p q:Int}{dd:Nat}{q0:IntKind}(hu:P.underlying t=some (.int q0))(hk:k=k2):(Op.equalIn (dd+1) t (.int k p) (.int k2 q)).run P w=.ok (decide (p=q)) w:=by
 subst hk
 simp only[Op.equalIn,Sem.run_bind,run_underlying hu,Result.andThen_ok]
 simp only[if_true,Sem.run_pure]
 congr 1
theorem rL{P:Program}{t:TypeId}{vs:Array Value}{o:Nat}{v:Value}(hag:iZ P t=some false)(h:vs[o]?=some v):(part t vs o).run P w=.ok v w:=by
 unfold part
 simp only[Sem.run_bind,eR hag,Result.andThen,ZY,if_false,h]
 rfl
theorem vz{P:Program}{t:TypeId}{vs:Array Value}{o n:Nat}(hag:iZ P t=some true)(hsz:fD P t=some n):(part t vs o).run P w=.ok (.agg (vs.extract o (o+n))) w:=by
 unfold part
 simp only[Sem.run_bind,eR hag,Result.andThen,if_true,bO hsz]
 rfl
def Ba(P:Program)(dd:Nat)(acc:List LK)(f:Field):Option (List LK):=
 bif f.name != "_" &&f.offset==acc.length then(eG P dd f.type).bind fun sh=>bif (fD P f.type)==some sh.length then some (acc++sh)else none else none
theorem jo{P:Program}{dd d2:Nat}(ih:∀t sh,eG P dd t=some sh→Dj P w F ρ d2 t sh):∀(fs:List Field) (acc sh:List LK) (xs ys:Array Value) (cs ds:List SV) (r:Bool),
 fs.foldlM (Ba P dd) acc=some sh→∃rest,sh=acc++rest∧
 (bG w F ρ xs acc.length cs→bG w F ρ ys acc.length ds→bw rest cs ds=some r→(Op.eqFields d2 xs ys fs).run P w=.ok r w)
 |[],acc,sh,xs,ys,cs,ds,r,h=>by
  simp at h
  subst h
  refine⟨[],by simp,fun hx hy hr=>?_⟩
  have:r=true:=by
   unfold bw at hr
   split at hr<;>simp_all
  subst this
  rfl
 |f::fs,acc,sh,xs,ys,cs,ds,r,h=>by
  rw[acq]at h
  simp only[bind,Zd]at h
  obtain⟨acc',h1,h2⟩:=h
  unfold Ba at h1
  replace h1:=aj h1
  obtain⟨hc,h1⟩:=h1
  simp only[Zh,bne_iff_ne,aah]at hc
  simp only[Zd]at h1
  obtain⟨shf,h3,h1⟩:=h1
  replace h1:=aj h1
  obtain⟨h4,h1⟩:=h1
  cases h1
  have h4:fD P f.type=some shf.length:=by simpa using h4
  obtain⟨rest,hrest,_⟩:=jo ih fs (acc++shf) sh xs ys [] [] true h2
  refine⟨shf++rest,by rw[hrest];simp,fun hx hy hr=>?_⟩
  obtain⟨r1,r2,k1,k2,rfl⟩:=eg _ _ _ _ _ hr
  have hx1:=kK (i:=0) (n:=shf.length) hx
  have hy1:=kK (i:=0) (n:=shf.length) hy
  simp only[aaN,abi]at hx1 hy1
  obtain⟨u,v,g1,g2,g3⟩:=ih f.type shf h3 xs ys _ _ r1 acc.length hx1 hy1 k1 h4
  obtain⟨rest',hrest',hrec⟩:=jo ih fs (acc++shf) sh xs ys (cs.drop shf.length) (ds.drop shf.length) r2 h2
  have:rest'=rest:=List.append_cancel_left (hrest'.symm.trans hrest)
  subst this
  have hx2:bG w F ρ xs (acc++shf).length (cs.drop shf.length):=by
   intro j c hj
   rw[ZT]at hj
   obtain⟨v,q1,q2,q3⟩:=hx _ c hj
   exact⟨v,by rw[Y9,Zk];exact q1,q2,q3⟩
  have hy2:bG w F ρ ys (acc++shf).length (ds.drop shf.length):=by
   intro j c hj
   rw[ZT]at hj
   obtain⟨v,q1,q2,q3⟩:=hy _ c hj
   exact⟨v,by rw[Y9,Zk];exact q1,q2,q3⟩
  have:=hrec hx2 hy2 k2
  simp only[Op.eqFields,ne_eq,hc.1,not_false_eq_true,if_true,Sem.run_bind,hc.2,g1,g2,g3,Result.andThen_ok]
  cases r1 with
  |true=>simpa using this
  |false=>simp
theorem ob{P:Program}{d2:Nat}{t:TypeId}{sh:List LK}(ih:Dj P w F ρ d2 t sh)(hsz:fD P t=some sh.length):∀(n i:Nat) (xs ys:Array Value) (cs ds:List SV) (r:Bool),
 bG w F ρ xs (i*sh.length) cs→bG w F ρ ys (i*sh.length) ds→bw (List.replicate n sh).flatten cs ds=some r→(Op.eqItems d2 t sh.length xs ys (List.range' i n)).run P w=.ok r w
 |0,i,xs,ys,cs,ds,r,hx,hy,hr=>by
  have:r=true:=by
   simp only[aa1,List.flatten_nil]at hr
   unfold bw at hr
   split at hr<;>simp_all
  subst this
  rfl
 |n+1,i,xs,ys,cs,ds,r,hx,hy,hr=>by
  rw[aaR,abU]at hr
  obtain⟨r1,r2,k1,k2,rfl⟩:=eg _ _ _ _ _ hr
  have hx1:=kK (i:=0) (n:=sh.length) hx
  have hy1:=kK (i:=0) (n:=sh.length) hy
  simp only[aaN,abi]at hx1 hy1
  obtain⟨u,v,g1,g2,g3⟩:=ih xs ys _ _ r1 _ hx1 hy1 k1 hsz
  have hx2:bG w F ρ xs ((i+1)*sh.length) (cs.drop sh.length):=by
   intro j c hj
   rw[ZT]at hj
   obtain⟨v,q1,q2,q3⟩:=hx _ c hj
   exact⟨v,by rw[aac,aaW,Zk];exact q1,q2,q3⟩
  have hy2:bG w F ρ ys ((i+1)*sh.length) (ds.drop sh.length):=by
   intro j c hj
   rw[ZT]at hj
   obtain⟨v,q1,q2,q3⟩:=hy _ c hj
   exact⟨v,by rw[aac,aaW,Zk];exact q1,q2,q3⟩
  have:=ob ih hsz n (i+1) xs ys _ _ r2 hx2 hy2 k2
  simp only[List.range'_succ,Op.eqItems,Sem.run_bind,g1,g2,g3,Result.andThen_ok]
  cases r1 with
  |true=>simpa using this
  |false=>simp
theorem qV{P:Program}{dd D:Nat}{t:TypeId}{sh:List LK}(ih:∀t sh,eG P dd t=some sh→Dj P w F ρ (D+dd) t sh)(h:eG P (dd+1) t=some sh)(hag:iZ P t=some true){xs ys:Array Value}{cs ds:List SV}{r:Bool}
 (hx:bG w F ρ xs 0 cs) (hy:bG w F ρ ys 0 ds) (hr:bw sh cs ds=some r):(Op.equalIn (D+dd+1) t (.agg xs) (.agg ys)).run P w=.ok r w:=by
 unfold eG at h
 split at h
 ·rename_i hu;simp[iZ,hu]at hag
 ·rename_i hu;simp[iZ,hu]at hag
 ·rename_i hu;simp[iZ,hu]at hag
 ·rename_i fs hu
  replace h:=yV h
  obtain⟨hs,h⟩:=h
  have hf:P.fieldsOf t=fs:=by simp[Program.fieldsOf,hu]
  rw[run_equalIn_struct w (D+dd) t xs ys (by rw[hf];exact hu) hs,hf]
  obtain⟨rest,h1,h2⟩:=jo ih fs.toList [] sh xs ys cs ds r h
  simp only[ZZ]at h1
  subst h1
  exact h2 hx hy hr
 ·rename_i n e hu
  simp only[Zd]at h
  obtain⟨she,h1,h⟩:=h
  replace h:=aj h
  obtain⟨h2,h⟩:=h
  cases h
  have h2:fD P e=some she.length:=by simpa using h2
  have h3:=h2
  unfold fD at h3
  simp only[Zb]at h3
  obtain⟨i,hi,hi2⟩:=h3
  have hcells:P.cellsOf e=she.length:=by simp[Program.cellsOf,hi,hi2]
  rw[run_equalIn_array w (D+dd) xs ys hu hi,hcells,ab5]
  exact ob (ih e she h1) h2 n 0 xs ys cs ds r (by simpa using hx) (by simpa using hy) hr
 ·cases h
theorem KR{P:Program}:∀(dd:Nat) (D:Nat) (t:TypeId) (sh:List LK),eG P dd t=some sh→Dj P w F ρ (D+dd) t sh
 |0,_,_,_,h=>by simp[eG]at h
 |dd+1,D,t,sh,h=>by
  intro xs ys cs ds r o hx hy hr hsz
  have hlen:=il sh cs ds r hr
  have leaf:iZ P t=some false→∀k,sh=[k]→(∀u v,∀c d,VR w F ρ c u→VR w F ρ d v→bw [k] [c] [d]=some r→(Op.equalIn (D+dd+1) t u v).run P w=.ok r w)→
   ∃u v,(part t xs o).run P w=.ok u w∧(part t ys o).run P w=.ok v w∧(Op.equalIn (D+dd+1) t u v).run P w=.ok r w:=by
   intro hag k hk hgo
   subst hk
   obtain⟨c,rfl⟩:∃c,cs=[c]:=aaZ.1 hlen.1
   obtain⟨d,rfl⟩:∃d,ds=[d]:=aaZ.1 hlen.2
   obtain⟨u,u1,u2,_⟩:=hx 0 c rfl
   obtain⟨v,v1,v2,_⟩:=hy 0 d rfl
   exact⟨u,v,rL hag u1,rL hag v1,hgo u v c d u2 v2 hr⟩
  have agg:iZ P t=some true→∃u v,(part t xs o).run P w=.ok u w∧(part t ys o).run P w=.ok v w∧(Op.equalIn (D+dd+1) t u v).run P w=.ok r w:=fun hag=>
   ⟨_,_,vz hag hsz,vz hag hsz,qV (fun t sh h=>KR dd D t sh h) h hag (lj hx (by omega)) (lj hy (by omega)) hr⟩
  rw[←Zk]
  unfold eG at h
  split at h
  ·rename_i hu
   refine leaf (by simp[iZ,hu]) .b (by simpa using h.symm) (fun u v c d hu1 hv1 hr1=>?_)
   rcases j9 hr1 with⟨_,_,_,h0,_⟩|⟨p,p',_,rfl,rfl,rfl⟩|⟨_,_,h0,_⟩
   ·cases h0
   ·rw[eu hu1,eu hv1,run_equalIn_bool w _ t _ _ hu]
   ·cases h0
  ·rename_i q hu
   refine leaf (by simp[iZ,hu]) .i (by simpa using h.symm) (fun u v c d hu1 hv1 hr1=>?_)
   rcases j9 hr1 with⟨q,p,p',_,rfl,rfl,rfl⟩|⟨_,_,h0,_⟩|⟨_,_,h0,_⟩
   ·rw[fL hu1,fL hv1,vS hu rfl]
   ·cases h0
   ·cases h0
  ·rename_i hu
   refine leaf (by simp[iZ,hu]) .s (by simpa using h.symm) (fun u v c d hu1 hv1 hr1=>?_)
   rcases j9 hr1 with⟨_,_,_,h0,_⟩|⟨_,_,h0,_⟩|⟨p,p',_,rfl,rfl,rfl⟩
   ·cases h0
   ·cases h0
   ·rw[jm hu1,jm hv1,run_equalIn_string w _ t _ _ hu,pZ]
  ·rename_i fs hu;exact agg (by simp[iZ,hu])
  ·rename_i n el hu;exact agg (by simp[iZ,hu])
  ·cases h
theorem Cu{op:BinOp}{neg:Bool}{t:TypeId}{x y:Operand}{x' y':bU}{sh:List LK}{cs ds:List SV}{r:Bool}(dZ:(op=.eql∧neg=false)∨(op=.neq∧neg=true))(hx:bz x=some x')(hy:bz y=some y')
 (hm:C.P.eqGuardType C.P.depth t=false) (hsh:eG C.P 6 t=some sh) (hag:iZ C.P t=some true) (hr:HR C ρ F H w) (he:ER w F ρ e a.tmps) (h1:ev e x'=.agg cs) (h2:ev e y'=.agg ds) (h:bw sh cs ds=some r) :
 bJ C (do let v←(do eqGuard op t x y (a.eval x) (a.eval y);binOp op t (a.eval x) (a.eval y));pure (.value v)) ρ F H w (.bool (neg ^^ r)) H:=by
 have v1:=aZ hx he
 have v2:=aZ hy he
 rw[h1]at v1
 rw[h2]at v2
 obtain⟨xs,e1,_,c1⟩:=eW v1
 obtain⟨ys,e2,_,c2⟩:=eW v2
 rw[e1,e2]
 have hq:=qV (dd:=5) (D:=9994) (fun t sh h=>KR 5 9994 t sh h) hsh hag c1 c2 h
 have hE:(Op.equal t (.agg xs) (.agg ys)).run C.P w=.ok r w:=hq
 refine⟨.bool (neg ^^ r),w,.inl ?_,dD.same hr (.bool _)⟩
 simp only[Sem.run_bind,run_eqGuard_agg w op t x y xs ys hm,Result.andThen_ok]
 rcases dZ with⟨rfl,rfl⟩|⟨rfl,rfl⟩
 ·simp[binOp,hE]
 ·simp[binOp,hE]
end
end
section
section
variable{C:Ctx}{ρ:Map}{F:Nat→Prop}{H H':ab}{w:World}{e:Env}{a:Act}{s c d:SV}
theorem rl(z m:Nat)(q:Option Addr)(n cap n' cap':Nat):Builtin.firstCells z m (.slice q n cap)=Builtin.firstCells z m (.slice q n' cap'):=by
 cases q<;>rfl
theorem By(hr:HR C ρ F H w){z:Nat}(hz:0<z){X:List (List SV)}{v:Value}(hv:VR w F ρ c v)(h:nr z H c=some X){m:Nat}(hm:m≤X.length) :
 ∃q cap cells,v=.slice q X.length cap∧(Builtin.firstCells z m v).run C.P w=.ok cells w∧cells.size=m*z∧∀ρ1:Map,D2 C w F H ρ ρ1 c→eo w F ρ1 cells 0 z (X.take m):=by
 have hml:(X.take m).length=m:=by simp;omega
 unfold nr at h
 split at h
 ·rename_i z' L f
  have h0:=aj h
  obtain⟨hc,h1⟩:=h0
  have h':L=X:=aaV h1
  subst h'
  cases hv with
  |aA V hcap hfull hz' hat h1 hv=>
   rename_i q cap
   have hv2:VR w F ρ (.aA z' (L.take m) false) (.slice q (L.take m).length cap):=by
    refine .aA V (by omega) (fun h=>by cases h) (fun i cs hi=>hz' i cs ?_) ?_ (fun i j cs c hi hj=>h1 i j cs c ?_ hj) (fun i j cs c hi hj=>hv i j cs c ?_ hj)
    ·rw[ZC]at hi;split at hi
     ·exact hi
     ·cases hi
    ·rcases hat with h0|⟨B,o,ha,hF,hk⟩
     ·left;rw[h0];simp
     ·exact .inr ⟨B,o,ha,hF,fun i j cs c hi hj=>hk i j cs c (by
       rw[ZC]at hi;split at hi
       ·exact hi
       ·cases hi) hj⟩
    ·rw[ZC]at hi;split at hi
     ·exact hi
     ·cases hi
    ·rw[ZC]at hi;split at hi
     ·exact hi
     ·cases hi
   have CJ:nr z H (.aA z' (L.take m) false)=some (L.take m):=by
    unfold nr
    simp only[Z6,aah]at hc
    rcases hc with hc|hc
    ·subst hc;simp
    ·have:L=[]:=by simpa using hc
     subst this;simp
   obtain⟨q',cap',cells,k0,k1,k2,k3⟩:=kn hr hz hv2 CJ
   rw[hml]at k1 k2
   refine⟨q,cap,cells,rfl,?_,k2,fun ρ1 _=>k3 ρ1 (fun b cw off n l x hh=>by cases hh)⟩
   rw[rl z m q L.length cap m cap]
   exact k1 w rfl
 ·rename_i b cw off n
  split at h
  ·rename_i ver' z' L ex hb
   have h0:=aj h
   obtain⟨hc,h1⟩:=h0
   simp only[Zh,aah,Ze]at hc
   obtain⟨⟨rfl,rfl⟩,hle⟩:=hc
   have hX:(L.drop off).take n=X:=aaV h1
   have hXl:X.length=n:=by rw[←hX];simp;omega
   obtain⟨l,z2,L2,ex2,hl,hb2,hbr,g1,g2⟩:=dV hr (by unfold cur;simp[hb]) hv
   rw[hb]at hb2;cases hb2
   obtain⟨q,cap,hve⟩:∃q cap,v=.slice q n cap:=by
    cases hvi:l.bB with
    |true=>obtain⟨q,p1,p2,p3⟩:=g1 hvi;exact⟨q,0,by rw[p1,p3]⟩
    |false=>obtain⟨p1,q,p2,p3⟩:=g2 hvi;exact⟨q,_,p2⟩
   have hv2:VR w F ρ (.bp b cw off m) (.slice q m cap):=by
    refine .bp hl (aaY hbr.2.1.symm) rfl (fun _=>⟨fun hvi=>?_,fun hvi=>?_⟩)
    ·obtain⟨q',p1,p2,p3⟩:=g1 hvi
     rw[p1]at hve
     have hm0:m=0:=by omega
     injection hve with e1 e2 e3
     rw[hm0,←e1,←e3]
     exact⟨q',rfl,p2,rfl⟩
    ·obtain⟨p1,q',p2,p3⟩:=g2 hvi
     rw[p2]at hve
     injection hve with e1 e2 e3
     rw[←e1,←e3]
     exact⟨by omega,q',rfl,p3⟩
   have CJ:nr z' H (.bp b cw off m)=some (X.take m):=by
    have hlm:off+m≤L.length:=by omega
    unfold nr
    simp[hb,hlm]
    rw[←hX,List.take_take,aap (by omega)]
   obtain⟨q',cap',cells,k0,k1,k2,k3⟩:=kn hr hz hv2 CJ
   rw[hml]at k1 k2
   subst hve
   refine⟨q,cap,cells,by rw[hXl],?_,k2,fun ρ1 hs=>k3 ρ1 (fun b1 ver1 off1 n1 l1 x1 hh h2 h3 h4=>by cases hh;exact hs _ _ _ _ _ _ rfl h2 h3 h4)⟩
   rw[rl z' m q n cap m cap]
   exact k1 w rfl
  ·cases h
 ·cases h
theorem pn(hr:HR C ρ F H w){b v off z:Nat}{L X:List (List SV)}{ex:Bool}{l:Loc}{cells:Array Value}(hb:bk H b=some (.arr v z L ex))(hl:ρ b=some l)(hbr:BR C w F ρ l (.arr v z L ex))
 (hvi:l.bB=false) (hfit:off+X.length≤L.length) (hsz:cells.size=X.length*z) (hrow:∀ρ1:Map,wx ρ ρ1 (SV.refs.au X.flatten)→eo w F ρ1 cells 0 z X) {refs:Nat} (hrefs:SV.refs.au X.flatten≤refs)
 (hH:cp H b (.arr v z (L.take off++X++L.drop (off+X.length)) ex) refs=some H') :
 ∃w',(storeCells ⟨l.cg,l.base+off*z,none⟩ cells.toList).run C.P w=.ok () w'∧HR C ρ F H' w'∧Ext C ρ F H w ρ F H' w':=by
 obtain⟨h1,h2,h3,h4,h5,h6,h7,h8⟩:=id hbr
 obtain⟨vs,ty',fz,g1,g2,g3,g4⟩:=h8 hvi
 have hm:(off+X.length)*z≤l.cap*z:=Z9 z (by omega)
 rw[aac]at hm
 have hsz':(ma vs (l.base+off*z) cells.toList).size=vs.size:=iA (by simp;omega)
 have hlt:l.cg<w.heap.size:=(ZG.1 g1).1
 have hst:=dN (P:=C.P) l.cg (l.base+off*z) ty' fz cells.toList 0 vs w g1 g2 (by simp;omega) (fun x hx=>ya (hrow ρ (.inl rfl)) hsz x hx)
 have hlen:(L.take off++X++L.drop (off+X.length)).length=L.length:=by simp;omega
 have hk:dy F w (eV w l.cg (ma vs (l.base+off*z) cells.toList) ty' fz):=jw hr hb rfl hl hvi
 obtain⟨r1,r2⟩:=ku (vs':=ma vs (l.base+off*z) cells.toList) (ty:=ty') (fz:=fz) hr hH hb rfl hl hvi (fun _ ρ1 hρ1 hbr1=>by
  obtain⟨_,_,_,_,_,_,_,q8⟩:=hbr1
  obtain⟨vs2,ty2,fz2,m1,m2,m3,m4⟩:=q8 hvi
  rw[g1]at m1;cases m1
  have hcut:wx ρ ρ1 (SV.refs.au X.flatten):=by
   rcases hρ1 with h|⟨N,hN,h⟩
   ·exact .inl h
   ·exact .inr ⟨N,by omega,h⟩
  have:=tX (xs:=cells) h4 m4 (hrow ρ1 hcut) hsz (by omega) (show off+X.length≤l.cap by omega) h5 g3
  exact⟨h1,h2,h3,this.1,by rw[hlen];exact h5,by rw[hlen];exact h6,h7,fun _=>⟨_,ty',fz,iO hlt,by rw[hsz'];exact g2,by rw[hsz'];exact g3,fun j cs hj=>(this.2 j cs hj).mono hk (fun _ h=>h) (Map.le_refl _)⟩⟩)
 exact⟨_,hst,r1,r2⟩
theorem ub(hr:HR C ρ F H w){b v z:Nat}{L:List (List SV)}{ex:Bool}{l:Loc}{refs:Nat}(hb:bk H b=some (.arr v z L ex))(hl:ρ b=some l)(hbr:BR C w F ρ l (.arr v z L ex))
 (hH:cp H b (.arr v z L ex) refs=some H'):HR C ρ F H' w∧Ext C ρ F H w ρ F H' w:=by
 obtain⟨p1,p2⟩:=hr.set (w':=w) (l':=l) hH hb rfl hl (Zp _) (fun _ _ _=>rfl) (fun h=>.inl ⟨h,rfl⟩) (.inl rfl) (fun _=>by rw[bW hl];exact hbr) (fun _ N _ _ h=>by rw[bW hl];exact h)
 rw[bW hl]at p1 p2
 exact⟨p1,p2⟩
theorem w6(X:List (List SV))(m:Nat):SV.refs.au (X.take m).flatten≤SV.refs.au X.flatten:=by
 have app:∀(a b:List SV),SV.refs.au a≤SV.refs.au (a++b)∧SV.refs.au b≤SV.refs.au (a++b):=by
  intro a b
  induction a with
  |nil=>simp[SV.refs.au]
  |cons x r ih=>simp only[Z5,SV.refs.au];omega
 have:=(app (X.take m).flatten (X.drop m).flatten).1
 rwa [←List.flatten_append,aaa]at this
theorem DO{ats:Array TypeId}{t el ty:TypeId}{z:Nat}(h0:ats[0]?=some t)(hu:C.P.underlying t=some (.slice el))(hsz:fD C.P el=some z)(hz:0<z)(hr:HR C ρ F H w){X:List (List SV)}{dv xv:Value}
 (hdv:VR w F ρ d dv) (hxv:VR w F ρ c xv) (hX:nr z H c=some X) (h:z6 z H X d=some (s,H')):∃val w',(Builtin.copy_ ats ty #[dv,xv]).run C.P w=.ok val w'∧dD C ρ F H w s H' val w':=by
 unfold z6 at h
 split at h
 ·rename_i b v off n
  split at h
  ·rename_i v' z' L ex hg
   replace h:=aj h
   obtain⟨hc,h⟩:=h
   simp only[Zh,aah,Ze]at hc
   obtain⟨⟨rfl,rfl⟩,hle⟩:=hc
   simp only[Zb,Zy]at h
   obtain⟨H1,hH,rfl,rfl⟩:=h
   obtain⟨l,z2,L2,ex2,hl,hb2,hbr,g1,g2⟩:=dV hr (by unfold cur;simp[hg]) hdv
   rw[hg]at hb2;cases hb2
   obtain⟨base,sc,hse⟩:∃base sc,dv=.slice base n sc:=by
    cases hvi:l.bB with
    |true=>obtain⟨q,p1,p2,p3⟩:=g1 hvi;exact⟨q,0,by rw[p1,p3]⟩
    |false=>obtain⟨p1,q,p2,p3⟩:=g2 hvi;exact⟨q,_,p2⟩
   obtain⟨q,cap,cells,rfl,k1,k2,k3⟩:=By (m:=min X.length n) hr hz hxv hX (Nat.min_le_left _ _)
   have hXt:X.take n=X.take (min X.length n):=by
    rcases Nat.le_total X.length n with h|h
    ·rw[aap h,ZM h,aaj]
    ·rw[Nat.min_eq_right h]
   have hlen:(X.take n).length=min X.length n:=by rw[Z8,Nat.min_comm]
   have hrun:∀w',(match base with|some a=>storeCells a cells.toList|none=>pure ()).run C.P w=.ok () w'→(Builtin.copy_ ats ty #[dv,.slice q X.length cap]).run C.P w=.ok (.int .i64 (min X.length n:Nat)) w':=by
    intro w' hw
    subst hse
    unfold Builtin.copy_
    simp only[h0,aaT,aax,abN,Sem.run_bind,run_underlying hu,Result.andThen,bO hsz,Builtin.lenOf]
    simp only[pure,Sem.run,Result.andThen,Sem.run_bind,bO hsz]
    rw[show Nat.min X.length n=min X.length n from rfl,k1]
    cases base with
    |none=>simp only[pure,Sem.run,Result.ok.injEq,true_and]at hw;subst hw;rfl
    |some ad=>simp only[Sem.run_bind,hw,Result.andThen];rfl
   by_cases hm:min X.length n=0
   ·have hc0:cells.toList=[]:=by
     have:cells.size=0:=by rw[k2,hm];simp
     simpa using this
    have hH':L.take off++X.take n++L.drop (off+min X.length n)=L:=by
     rw[hXt,hm];simp
    rw[hH']at hH
    obtain⟨p1,p2⟩:=ub hr hg hl hbr hH
    exact⟨_,w,hrun w (by cases base<;>simp[hc0,storeCells,pure,Sem.run]),ρ,F,.int _ _,p1,p2⟩
   ·have hvi:l.bB=false:=by
     cases hvi:l.bB with
     |true=>obtain⟨q,p1,p2,p3⟩:=g1 hvi;omega
     |false=>rfl
    obtain⟨p1,q',p2,p3⟩:=g2 hvi
    rw[hse]at p2
    cases p2
    have hcap:=hbr.2.2.2.2.1
    have:=p3 (by omega)
    subst this
    have hz3:=hbr.2.2.1
    obtain⟨w',e1,e2,e3⟩:=pn (X:=X.take n) (cells:=cells) (off:=off) hr hg hl hbr hvi (by rw[hlen];omega) (by rw[hlen];exact k2)
     (fun ρ1 hρ1=>nw (by rw[hXt];exact k3 ρ (ew hr)) hρ1) (refs:=SV.refs.au X.flatten) (w6 X n) (by rw[hlen];exact hH)
    exact⟨_,w',hrun w' (by rw[hz3];exact e1),ρ,F,.int _ _,e2,e3⟩
  ·cases h
 ·cases h
theorem rh{z:List SV}(hz:SV.refs.au z=0):∀n,SV.refs.au (List.replicate n z).flatten=0
 |0=>by simp[SV.refs.au]
 |n+1=>by
  have app:∀(a b:List SV),SV.refs.au a=0→SV.refs.au b=0→SV.refs.au (a++b)=0:=by
   intro a b h1 h2
   induction a with
   |nil=>exact h2
   |cons x r ih=>simp only[Z5,SV.refs.au]at h1 ⊢;have:=ih (by omega);omega
  rw[aaR,abU]
  exact app _ _ hz (rh hz n)
theorem AO{ats:Array TypeId}{t el ty:TypeId}{z:List SV}(h0:ats[0]?=some t)(hu:C.P.underlying t=some (.slice el))(hcz:gQ C.P el=some z)(hz:0<z.length)(hr:HR C ρ F H w){xv:Value}
 (hxv:VR w F ρ c xv) (h:v5 z.length z H c=some (s,H')):∃val w',(Builtin.clear_ ats ty #[xv]).run C.P w=.ok val w'∧dD C ρ F H w s H' val w':=by
 unfold v5 at h
 split at h
 ·rename_i z0 f
  simp only[Zs,Zy]at h
  obtain⟨rfl,rfl⟩:=h
  cases hxv with
  |aA V hcap hfull hz' hat h1 hv=>
   rename_i q cap
   refine⟨.tuple #[],w,?_,dD.same hr (.undef _)⟩
   unfold Builtin.clear_
   simp only[h0,aaT,aax,Sem.run_bind,run_underlying hu,Result.andThen]
   cases q<;>rfl
 ·rename_i b v off n
  split at h
  ·rename_i v' z' L ex hg
   replace h:=aj h
   obtain⟨hc,h⟩:=h
   simp only[Zh,aah,Ze]at hc
   obtain⟨⟨rfl,rfl⟩,hle⟩:=hc
   simp only[Zb,Zy]at h
   obtain⟨H1,hH,rfl,rfl⟩:=h
   obtain⟨l,z2,L2,ex2,hl,hb2,hbr,g1,g2⟩:=dV hr (by unfold cur;simp[hg]) hxv
   rw[hg]at hb2;cases hb2
   by_cases hn:n=0
   ·subst hn
    obtain⟨base,sc,hse⟩:∃base sc,xv=.slice base 0 sc:=by
     cases hvi:l.bB with
     |true=>obtain⟨q,p1,p2,p3⟩:=g1 hvi;exact⟨q,0,p1⟩
     |false=>obtain⟨p1,q,p2,p3⟩:=g2 hvi;exact⟨q,_,p2⟩
    have hH':L.take off++List.replicate 0 z++L.drop (off+0)=L:=by simp
    rw[hH']at hH
    obtain⟨p1,p2⟩:=ub hr hg hl hbr hH
    refine⟨.tuple #[],w,?_,ρ,F,.undef _,p1,p2⟩
    subst hse
    unfold Builtin.clear_
    simp only[h0,aaT,aax,Sem.run_bind,run_underlying hu,Result.andThen]
    cases base<;>rfl
   ·have hvi:l.bB=false:=by
     cases hvi:l.bB with
     |true=>obtain⟨q,p1,p2,p3⟩:=g1 hvi;omega
     |false=>rfl
    obtain⟨p1,q',p2,p3⟩:=g2 hvi
    subst p2
    have hcap:=hbr.2.2.2.2.1
    have:=p3 (by omega)
    subst this
    have hz3:=hbr.2.2.1
    obtain⟨i,zv,hi,hzv,k1,k2⟩:=ga (w:=w) (F:=F) (ρ:=ρ) hcz
    have hzsz:(cD zv.cells (n*z.length)).size=n*z.length:=by simp[cD]
    have hrow:∀ρ1:Map,eo w F ρ1 (cD zv.cells (n*z.length)) 0 z.length (List.replicate n z):=fun ρ1=>by
     obtain⟨i',zv',hi',hzv',k1',k2'⟩:=ga (w:=w) (F:=F) (ρ:=ρ1) hcz
     rw[hi]at hi';cases hi'
     rw[hzv]at hzv';cases hzv'
     exact jk rfl k1' k2' hz
    have hrefs:SV.refs.au z=0:=by
     have key:∀(l:List SV),(∀x∈l,x.refs=0)→SV.refs.au l=0:=by
      intro l
      induction l with
      |nil=>intro _;simp[SV.refs.au]
      |cons x r ih=>intro h;simp only[SV.refs.au,h x (by simp),ih (fun y hy=>h y (by simp[hy]))];rfl
     refine key z (fun x hx=>?_)
     obtain⟨j,hj⟩:=ab1.1 hx
     obtain⟨i',zv',hi',hzv',k1',k2'⟩:=ga (w:=w) (F:=F) (ρ:=dj) hcz
     obtain⟨v',q1,q2,q3⟩:=k2' j x hj
     cases x with
     |ptr=>cases q2 with|ptr h _ _ _=>cases h
     |bp=>cases q2 with|bp h _ _ _=>cases h
     |fp=>cases q2 with|fp h ha=>cases h
     |mp=>cases q2 with|mp h ha=>cases h
     |fn f cs=>
      exfalso
      unfold gQ at hcz
      rw[hi]at hcz
      simp only[hzv,Zd]at hcz
      obtain⟨z',hz1,hz2⟩:=hcz
      replace hz2:=aj hz2
      obtain⟨_,hz2⟩:=hz2
      cases hz2
      have:∀(l:List Value) (r:List SV),bN (l.map (lH 1))=some r→∀x∈r,∃v∈l,lH 1 v=some x:=by
       intro l
       induction l with
       |nil=>intro r h;simp[bN]at h;subst h;simp
       |cons a l ih=>
        intro r h
        simp only[ZO]at h
        cases ha:lH 1 a with
        |none=>rw[ha]at h;simp[bN]at h
        |some y=>
         rw[ha]at h
         simp only[bN,Zb]at h
         obtain⟨r',h1,rfl⟩:=h
         intro x hx
         rcases ZU.1 hx with rfl|hx
         ·exact⟨a,by simp,ha⟩
         ·obtain⟨v,h2,h3⟩:=ih r' h1 x hx
          exact⟨v,by simp[h2],h3⟩
      obtain⟨v,_,hv⟩:=this _ _ hz1 _ hx
      unfold lH at hv
      split at hv<;>first|(cases hv;done)|(simp[Zd,bN,cond_eq_ite]at hv;done)|skip
      all_goals (simp only[Zd]at hv;obtain⟨cs',_,hv⟩:=hv;replace hv:=aj hv;cases hv.2)
     |oC f cs=>
      exfalso
      unfold gQ at hcz
      rw[hi]at hcz
      simp only[hzv,Zd]at hcz
      obtain⟨z',hz1,hz2⟩:=hcz
      replace hz2:=aj hz2
      obtain⟨_,hz2⟩:=hz2
      cases hz2
      have:∀(l:List Value) (r:List SV),bN (l.map (lH 1))=some r→∀x∈r,∃v∈l,lH 1 v=some x:=by
       intro l
       induction l with
       |nil=>intro r h;simp[bN]at h;subst h;simp
       |cons a l ih=>
        intro r h
        simp only[ZO]at h
        cases ha:lH 1 a with
        |none=>rw[ha]at h;simp[bN]at h
        |some y=>
         rw[ha]at h
         simp only[bN,Zb]at h
         obtain⟨r',h1,rfl⟩:=h
         intro x hx
         rcases ZU.1 hx with rfl|hx
         ·exact⟨a,by simp,ha⟩
         ·obtain⟨v,h2,h3⟩:=ih r' h1 x hx
          exact⟨v,by simp[h2],h3⟩
      obtain⟨v,_,hv⟩:=this _ _ hz1 _ hx
      unfold lH at hv
      split at hv<;>first|(cases hv;done)|(simp[Zd,bN,cond_eq_ite]at hv;done)|skip
      all_goals (simp only[Zd]at hv;obtain⟨cs',_,hv⟩:=hv;replace hv:=aj hv;cases hv.2)
     |agg=>simp[SV.iu]at q3
     |ba=>simp[SV.iu]at q3
     |_=>simp[SV.refs]
    have hrefs0:=rh hrefs n
    obtain⟨w',e1,e2,e3⟩:=pn (X:=List.replicate n z) (cells:=cD zv.cells (n*z.length)) (off:=off) hr hg hl hbr hvi (by simpa using hle) (by simpa using hzsz)
     (fun ρ1 _=>hrow ρ1) (refs:=0) (aaY hrefs0) (by simpa using hH)
    refine⟨.tuple #[],w',?_,ρ,F,.undef _,e2,e3⟩
    unfold Builtin.clear_
    simp only[h0,aaT,aax,Sem.run_bind,run_underlying hu,Result.andThen]
    obtain⟨m,rfl⟩:∃m,n=m+1:=⟨n-1,by omega⟩
    simp only[Sem.run_bind,dp hi hzv,Result.andThen]
    have hzc:Builtin.zeroCells zv.cells (m+1)=cD zv.cells ((m+1)*z.length):=by
     unfold Builtin.zeroCells cD;rw[k1]
    rw[hzc]
    rw[hz3]
    rw[e1]
    rfl
  ·cases h
 ·cases h
end
end
section
section
variable{C:Ctx}{ρ:Map}{F:Nat→Prop}{H H':ab}{w:World}{e:Env}{a:Act}{s c d:SV}
theorem oh:∀(X:List (List SV)) (l:List UInt8) (cells:List Value),toBytes X=some l→cells.length=X.length→(∀(i:Nat) cs,X[i]?=some cs→∃v,cells[i]?=some v∧∀c,cs=[c]→VR w F ρ c v)→
 ∃ns:List Int,cells=ns.map (fun n=>Value.int .u8 n)∧l=ns.map (fun n=>UInt8.ofNat n.toNat)
 |[],l,cells,h,hn,_=>by
  simp[toBytes]at h;subst h
  have:cells=[]:=aan (by simpa using hn)
  subst this
  exact⟨[],rfl,rfl⟩
 |x::X,l,[],h,hn,_=>by simp at hn
 |x::X,l,v::cells,h,hn,hv=>by
  unfold toBytes at h
  split at h
  ·cases ‹x::X=[]›
  ·rename_i n r heq
   cases heq
   simp only[Zb]at h
   obtain⟨l',h,rfl⟩:=h
   obtain⟨v',h1,h2⟩:=hv 0 _ rfl
   simp at h1;subst h1
   have h3:=fL (h2 _ rfl)
   subst h3
   obtain⟨ns,rfl,rfl⟩:=oh X l' cells h (by simpa using hn) (fun i cs hi=>hv (i+1) cs (by simpa using hi))
   exact⟨n::ns,rfl,rfl⟩
  ·cases h
theorem oA{P:Program}(f:Value→ByteArray→Sem (ForInStep ByteArray))(hf:∀n s,f (.int .u8 n) s=pure (.yield (s.push (UInt8.ofNat n.toNat))))(w:World):∀(ns:List Int) (s:ByteArray),
 (forIn (ns.map (fun n=>Value.int .u8 n)) s f:Sem ByteArray).run P w=.ok ⟨s.data++(ns.map (fun n=>UInt8.ofNat n.toNat)).toArray⟩ w
 |[],s=>by
  simp only[abf,List.forIn_nil]
  show Result.ok s w=_
  simp
 |b::l,s=>by
  simp only[ZO,List.forIn_cons,Sem.run_bind,hf,Sem.run_pure,Result.andThen]
  rw[oA f hf w l]
  congr 1
  cases s
  simp[ByteArray.push]
theorem yC{sr ds el:TypeId}{x:Operand}{y:bU}(hx:bz x=some y)(hs:C.P.underlying sr=some (.slice el))(h8:C.P.underlying el=some (.int .u8))(hd:C.P.underlying ds=some .string)(hr:HR C ρ F H w)(he:ER w F ρ e a.tmps)
 {L:List (List SV)} {l:List UInt8} (h:nr 1 H (ev e y)=some L) (hl:toBytes L=some l):bJ C (do pure (.value (←convert sr ds (a.eval x)))) ρ F H w (.str ⟨l.toArray⟩) H:=by
 have h1:=aZ hx he
 obtain⟨q,cap,cells,hv,k1,k2,k3⟩:=kn hr (by omega) h1 h
 refine bJ.val hr (val:=.string ⟨l.toArray⟩) ?_ (.str _)
 rw[hv]at k1⊢
 obtain⟨ns,e1,e2⟩:=oh (w:=w) (F:=F) (ρ:=ρ) L l cells.toList hl (by simpa using k2) (fun i cs hi=>by
  have hrow:=k3 ρ (ew hr)
  have hlen:=hrow.1 i cs hi
  match cs,hlen with
  |[c],_=>
   obtain⟨v,p1,p2,_⟩:=hrow.2 i _ hi 0 c rfl
   refine⟨v,by simpa using p1,fun c' hc=>by cases hc;exact p2⟩)
 unfold convert
 simp only[Sem.run_bind,run_underlying hs,run_underlying hd,Result.andThen,run_underlying h8]
 have h2:=k1 w rfl
 cases q with
 |none=>
  simp only[Builtin.firstCells,Sem.run_pure,Result.ok.injEq]at h2
  obtain⟨rfl,_⟩:=h2
  cases ns with
  |nil=>subst e2;rfl
  |cons n ns=>simp at e1
 |some q=>
  simp only[Builtin.firstCells,Nat.mul_one]at h2
  subst e2
  have e3:cells=(ns.map (fun n=>Value.int .u8 n)).toArray:=by rw[←e1]
  subst e3
  simp only[Conv.bytesToString,Sem.run_bind,h2,Result.andThen,List.forIn_toArray]
  rw[oA _ (fun _ _=>rfl)]
  simp[Sem.run_pure]
theorem u0{A:Type}(h:Array A)(o:A)(f:A→A):(h.push o).modify h.size f=h.push (f o):=by
 apply abu
 intro i
 rw[abZ,aaQ,aaQ]
 by_cases hi:h.size=i
 ·subst hi;simp
 ·rw[if_neg hi,if_neg (fun e=>hi e.symm),if_neg (fun e=>hi e.symm)]
theorem yz(hr:HR C ρ F H w){L:List (List SV)}{z cap:Nat}{ex:Bool}{vs:Array Value}{ty:TypeId}{fz:Nat×Nat}{w':World}(hw:w'.heap=w.heap.push (.cells vs ty fz))(hfz:ko fz vs.size)(hcap:L.length≤cap)(hex:ex=true→cap=L.length)
 (hsz:cap*z≤vs.size) (hc:eo w F ρ vs 0 z L) (n:Nat) (hn:n≤L.length) (hout:w'.os=w.os∧w'.output=w.output:=by exact⟨rfl,rfl⟩) :
 dD C ρ F H w (.bp H.bl.length 0 0 n) (bH H (.arr 0 z L ex)) (.slice (some ⟨w.heap.size,0,none⟩) n cap) w':=by
 let l:Loc:={cg:=w.heap.size,base:=0,cap:=cap,bP:=z,cw:=0,bB:=false,arr:=true}
 have hh:∀B,B<w.heap.size→w'.heap[B]?=w.heap[B]?:=fun B hB=>by
  rw[hw];simp[aaQ,aaS hB]
 have hk:dy F w w':=fun B hB=>hh B (hr.gW B hB)
 have hle:ρ.le (ρ.put H.bl.length l):=fun b l' h=>⟨l',by rw[Map.bm _ _ (aaS (hr.jn b l' h))];exact h,.inl rfl⟩
 have hp:=hr.push (w':=w') (by rw[hw];simp) hh (.arr 0 z L ex) l (fun _=>⟨Zp _,by rw[hw];simp[l]⟩)
  ⟨rfl,rfl,rfl,hc.1,hcap,hex,(fun h=>by cases h),fun _=>⟨vs,ty,fz,by rw[hw];simp[l],hfz,by simpa[l]using hsz,fun i cs hi=>by
   have:=hc.2 i cs hi
   exact this.mono hk (fun _ h=>h) hle⟩⟩ hout
 exact⟨_,F,.bp (l:=l) (Map.bF _ _ _) (Zp _) rfl (fun _=>⟨(fun h=>by cases h),fun _=>⟨by simp[l];omega,_,rfl,fun _=>by simp[l]⟩⟩),hp.1,hp.2⟩
theorem zE{sr ds el:TypeId}{x:Operand}{y:bU}(hx:bz x=some y)(hs:C.P.underlying sr=some .string)(h8:C.P.underlying el=some (.int .u8))(hd:C.P.underlying ds=some (.slice el))(hr:HR C ρ F H w)(he:ER w F ρ e a.tmps)
 {t:ByteArray} (h:ev e y=.str t):∃val w',(convert sr ds (a.eval x)).run C.P w=.ok val w'∧dD C ρ F H w (.bp H.bl.length 0 0 t.size) (bH H (.arr 0 1 (lG t) false)) val w':=by
 have h1:=aZ hx he
 rw[h]at h1
 rw[jm h1]
 have hl:(lG t).length=t.size:=by unfold lG;rw[ab9,abb];rfl
 obtain⟨cap,hcp⟩:∃cap,(Question.appendCap t.size 0 el).cut (w.tape w.drawn (Question.appendCap t.size 0 el))=cap:=⟨_,rfl⟩
 have hcap:t.size≤cap:=by rw[←hcp];exact Nat.le_add_right _ _
 obtain⟨elems,hel⟩:∃elems:Array Value,t.data.map (fun b=>Value.int .u8 b.toNat)=elems:=⟨_,rfl⟩
 have hes:elems.size=t.size:=by rw[←hel,Array.size_map];rfl
 obtain⟨cells,hce⟩:∃cells,elems++Array.replicate (cap-t.size) (Value.int .u8 0)=cells:=⟨_,rfl⟩
 have hcs:cells.size=cap:=by rw[←hce,Array.size_append,hes,Array.size_replicate];omega
 refine⟨.slice (some ⟨w.heap.size,0,none⟩) t.size cap,{w with heap:=w.heap.push (.cells cells el (cap,cap+1)),drawn:=w.drawn+1},?_,yz hr (vs:=cells) (ty:=el) (fz:=(cap,cap+1)) rfl ?_ (by rw[hl];exact hcap) (fun h=>by cases h) (by rw[hcs,Nat.mul_one];exact Zp _) ⟨?_,?_⟩ t.size (by rw[hl];exact Zp _)⟩
 ·unfold convert
  simp only[Sem.run_bind,run_underlying hs,run_underlying hd,Result.andThen,run_underlying h8]
  unfold Conv.stringToBytes
  have r1:(choose (.appendCap t.size 0 el)).run C.P w=.ok cap {w with drawn:=w.drawn+1}:=by rw[←hcp];rfl
  have r2:∀(w:World) (cs:Array Value),(newRow el cs).run C.P w=.ok ⟨w.heap.size,0,none⟩ {w with heap:=w.heap.push (.cells cs el)}:=fun _ _=>rfl
  have r3:(markStringish ⟨w.heap.size,0,none⟩).run C.P {w with heap:=w.heap.push (.cells cells el),drawn:=w.drawn+1}=.ok () {w with heap:=w.heap.push (.cells cells el (cap,cap+1)),drawn:=w.drawn+1}:=by
   have e1:World.shape? {w with heap:=w.heap.push (.cells cells el),drawn:=w.drawn+1} w.heap.size=some (el,cap):=by
    unfold World.shape?
    simp only[Array.getElem?_push_size,hcs]
   have e2:World.freeze {w with heap:=w.heap.push (.cells cells el),drawn:=w.drawn+1} ⟨w.heap.size,cap,none⟩ 1={w with heap:=w.heap.push (.cells cells el (cap,cap+1)),drawn:=w.drawn+1}:=by
    unfold World.freeze
    rw[if_neg (by decide)]
    simp only[u0]
    rfl
   show(match World.shape? {w with heap:=w.heap.push (.cells cells el),drawn:=w.drawn+1} w.heap.size with
    |some (_,n)=>freeze ⟨w.heap.size,n,none⟩ 1
    |_=>pure ():Sem Unit).run C.P _=_
   rw[e1]
   show Result.ok () (World.freeze _ _ _)=_
   rw[e2]
  simp only[Sem.run_bind,r1,r2,Result.andThen,hel,hce,r3]
  rfl
 ·intro o ho
  rw[hcs]at ho
  simp only[aaU,Zi]
  left;omega
 ·intro i cs hi
  simp only[lG,aat,Zb]at hi
  obtain⟨b,_,rfl⟩:=hi
  rfl
 ·intro i cs hi j c hj
  simp only[lG,aat,Zb]at hi
  obtain⟨b,hb,rfl⟩:=hi
  have hj0:j=0:=by
   cases j with
   |zero=>rfl
   |succ j=>simp at hj
  subst hj0
  simp only[aax,Zs]at hj
  subst hj
  have hbi:t.data[i]?=some b:=by simpa using hb
  refine⟨.int .u8 b.toNat,?_,.int _ _,rfl⟩
  have hi:i<t.data.size:=(ZG.1 hbi).1
  rw[show 0+i*1+0=i by omega,←hce,abB (by rw[hes];exact hi)]
  rw[←hel,Array.getElem?_map,hbi];rfl
end
end
section
section
variable{C:Ctx}{ρ:Map}{F:Nat→Prop}{H H':ab}{w:World}{e:Env}{a:Act}{s c d:SV}
def Pm:LK→TypeDesc→Prop
 | .i,d=>∃k,d=.int k
 | .s,d=>d=.string
 | .b,d=>d=.bool
theorem AG{c:SV}{v y:Value}(h:VR w F ρ c v)(hs:oq c=some y):v=y:=by
 unfold oq at hs
 split at hs<;>first|(cases hs;cases h;rfl)|cases hs
theorem Mw{c:SV}{y:Value}(hs:oq c=some y):VR w F ρ c y:=by
 unfold oq at hs
 split at hs<;>first|(cases hs;constructor)|cases hs
theorem GQ{a b:ByteArray}(h:(a==b)=true):a=b:=by
 cases a with
 |mk x=>cases b with
  |mk y=>
   have h':(x==y)=true:=h
   rw[eq_of_beq h']
theorem tJ(a:ByteArray):(a==a)=true:=by
 cases a with
 |mk x=>
  show(x==x)=true
  exact aaz x
theorem Cj{t:LK}{d:TypeDesc}{k q:SV}{kv qv:Value}{b:Bool}(hd:Pm t d)(h:qQ t k q=some b)(hk:oq k=some kv)(hq:oq q=some qv):Instr.sameNow d kv qv=some b∧(b=true→kv=qv):=by
 unfold qQ at h
 split at h
 ·rename_i k1 a k2 b'
  replace h:=aj h
  obtain⟨h1,h2⟩:=h
  obtain⟨kk,rfl⟩:=hd
  cases hk;cases hq;cases h2
  have h1:k1=k2:=by simpa using h1
  subst h1
  exact⟨by simp[Instr.sameNow],fun h=>by rw[eq_of_beq h]⟩
 ·cases hd
  cases hk;cases hq;cases h
  exact⟨by simp[Instr.sameNow],fun h=>by rw[GQ h]⟩
 ·cases hd
  cases hk;cases hq;cases h
  exact⟨by simp[Instr.sameNow],fun h=>by rw[eq_of_beq h]⟩
 ·cases h
theorem pG{t:LK}{d:TypeDesc}{k:SV}{kv:Value}(hd:Pm t d)(hk:oq k=some kv):∀(es:List (SV×SV)) (en:List MapEntry) (i:Nat) (r:Option (Nat×SV)),lZ w F ρ en es→gk t k es i=some r→
 (r=none∧Instr.findNow d kv en i=some none)∨∃j v en1,r=some (i+j,v)∧Instr.findNow d kv en i=some (some (i+j,en1.val))∧en[j]?=some en1∧en1.key=kv∧v.iu=true∧VR w F ρ v en1.val
 |[],[],i,r,_,h=>by cases h;exact .inl ⟨rfl,rfl⟩
 |[],_::_,_,_,hm,_=>hm.elim
 |(_,_)::_,[],_,_,hm,_=>hm.elim
 |(q,v)::es,e::en,i,r,⟨h1,h2,h3,h4⟩,h=>by
  unfold gk at h
  simp only[Zd]at h
  obtain⟨b,hb,h⟩:=h
  obtain⟨g1,g2⟩:=Cj hd hb hk h1
  cases b with
  |true=>
   cases h
   exact .inr ⟨0,v,e,rfl,by simp[Instr.findNow,g1],rfl,(g2 rfl).symm,h2,h3⟩
  |false=>
   simp only[Zu]at h
   rcases pG hd hk es en (i+1) r h4 h with⟨p1,p2⟩|⟨j,v',e',p1,p2,p3,p4,p5,p6⟩
   ·exact .inl ⟨p1,by simp[Instr.findNow,g1,p2]⟩
   ·exact .inr ⟨j+1,v',e',by rw[p1];congr 2;omega,by simp only[Instr.findNow,g1,p2];congr 3;omega,by simpa using p3,p4,p5,p6⟩
theorem uc{k v:SV}{e:MapEntry}(hk:oq k=some e.key)(h1:v.iu=true)(hv:VR w F ρ v e.val):∀(en:List MapEntry) (es:List (SV×SV)),lZ w F ρ en es→lZ w F ρ (en++[e]) (es++[(k,v)])
 |[],[],_=>⟨hk,h1,hv,trivial⟩
 |_::en,(_,_)::es,⟨a,b,c,h⟩=>⟨a,b,c,uc hk h1 hv en es h⟩
 |[],_::_,h=>h.elim
 |_::_,[],h=>h.elim
theorem va{k v:SV}{kv vv:Value}(hk:oq k=some kv)(h1:v.iu=true)(hv:VR w F ρ v vv):∀(j:Nat) (en:List MapEntry) (es:List (SV×SV)),lZ w F ρ en es→lZ w F ρ (en.modify j fun e=>{e with key:=kv,val:=vv}) (es.set j (k,v))
 |_,[],[],_=>by simp[lZ]
 |0,e::en,(q,x)::es,⟨a,b,c,h⟩=>by
  rw[List.modify_zero_cons,List.set_cons_zero]
  exact⟨hk,h1,hv,h⟩
 |j+1,e::en,(q,x)::es,⟨a,b,c,h⟩=>by
  rw[List.modify_succ_cons,List.set_cons_succ]
  exact⟨a,b,c,va hk h1 hv j en es h⟩
 |_,[],_::_,h=>h.elim
 |_,_::_,[],h=>h.elim
theorem rI{t el:TypeId}{q:LK}(h:uq C.P t=some (q,el)):∃kt d,C.P.underlying t=some (.map kt el)∧C.P.underlying kt=some d∧Pm q d∧fD C.P el=some 1∧iZ C.P el=some false:=by
 unfold uq at h
 split at h
 ·rename_i k e hu
  replace h:=aj h
  obtain⟨hc,h⟩:=h
  simp only[Zh,aah]at hc
  split at h
  ·rename_i hk;cases h;exact⟨k,_,hu,hk,⟨_,rfl⟩,hc.1,hc.2⟩
  ·rename_i hk;cases h;exact⟨k,_,hu,hk,rfl,hc.1,hc.2⟩
  ·rename_i hk;cases h;exact⟨k,_,hu,hk,rfl,hc.1,hc.2⟩
  ·cases h
 ·cases h
theorem uY{k:SV}(h:isKey k=true):∃y,oq k=some y:=by
 unfold isKey at h
 split at h<;>first|exact⟨_,rfl⟩|cases h
theorem oB{q:LK}{kt:TypeId}{d:TypeDesc}{k:SV}{kv:Value}(hd:Pm q d)(hu:C.P.underlying kt=some d)(hk:oq k=some kv)(b:Bool)(n:Nat)(w:World):(Instr.checkKey b (n+1) kt kv).run C.P w=.ok () w:=by
 unfold Instr.checkKey
 simp only[Sem.run_bind,run_underlying hu,Result.andThen]
 unfold oq at hk
 cases q with
 |i=>obtain⟨kk,rfl⟩:=hd;split at hk<;>first|(cases hk;rfl)|cases hk
 |s=>cases hd;split at hk<;>first|(cases hk;rfl)|cases hk
 |b=>cases hd;split at hk<;>first|(cases hk;rfl)|cases hk
theorem AB(hr:HR C ρ F H w){b:Nat}{v:Value}{es:List (SV×SV)}(hv:VR w F ρ (.mp b) v)(hg:bk H b=some (.map es)):∃l en cl,ρ b=some l∧v=.map (some l.cg)∧l.bB=false∧l.arr=false∧w.heap[l.cg]?=some (.map en cl)∧lZ w F ρ en.toList es:=by
 cases hv with
 |mp h ha=>
  obtain⟨l',h1,h2,h3,en,cl,h4,h5⟩:=hr.live _ _ hg rfl
  rw[h]at h1;cases h1
  exact⟨_,en,cl,h,rfl,h2,h3,h4,h5⟩
theorem Bl(hr:HR C ρ F H w)(t:TypeId):bJ C (do pure (.value (←Instr.makeMap t none))) ρ F H w (.mp H.bl.length) (bH H (.map [])):=by
 let l:Loc:={cg:=w.heap.size,base:=0,cap:=0,bP:=0,cw:=0,bB:=false,arr:=false}
 have hh:∀B,B<w.heap.size→({w with heap:=w.heap.push (.map #[] 0)}:World).heap[B]?=w.heap[B]?:=fun B hB=>by simp[aaQ,aaS hB]
 have hp:=hr.push (w':={w with heap:=w.heap.push (.map #[] 0)}) (by simp) hh (.map []) l (fun _=>⟨Zp _,by simp[l]⟩) ⟨rfl,rfl,#[],0,by simp[l],trivial⟩
 refine bJ.so (val:=.map (some w.heap.size)) (w':={w with heap:=w.heap.push (.map #[] 0)}) ?_ ⟨_,F,.mp (l:=l) (Map.bF _ _ _) rfl,hp.1,hp.2⟩
 simp[Instr.makeMap,newObj,Sem.run]
theorem zm{t:TypeId}{z:SV}(h:se C.P t=some z):∃i v,C.P.info? t=some i∧i.zero=some v∧VR w F ρ z v:=by
 unfold se at h
 split at h
 ·rename_i i hi
  split at h
  ·rename_i v hv
   simp only[Zd]at h
   obtain⟨z',h1,h2⟩:=h
   replace h2:=aj h2
   cases h2.2
   exact⟨i,v,hi,hv,rY 1 h1⟩
  ·cases h
 ·cases h
theorem Ao{t el:TypeId}{q:LK}{ok:Bool}{z:SV}{x k:Operand}{x' k':bU}(hm:uq C.P t=some (q,el))(hz:se C.P el=some z)(hx:bz x=some x')(hk:bz k=some k')(hr:HR C ρ F H w)(he:ER w F ρ e a.tmps)
 (h:jz q ok z H (ev e k') (ev e x')=some (s,H')):bJ C (do pure (.value (←Instr.lookup t (a.eval x) (a.eval k) ok))) ρ F H w s H':=by
 obtain⟨kt,d,hu,huk,hd,hsz,hag⟩:=rI hm
 unfold jz at h
 split at h
 ·rename_i b hb
  split at h
  ·rename_i es hg
   replace h:=aj h
   obtain⟨hkey,h⟩:=h
   simp only[Zb,Zy]at h
   obtain⟨r,h1,h2,rfl⟩:=h
   have hxv:=aZ hx he
   rw[hb]at hxv
   obtain⟨l,en,cl,hl,hv,hvi,har,hw,hM⟩:=AB hr hxv hg
   have hkv:=aZ hk he
   obtain⟨kv,hks⟩:=uY hkey
   have hke:=AG hkv hks
   obtain⟨i',zv,hi',hzv,hzr⟩:=zm (w:=w) (F:=F) (ρ:=ρ) hz
   have hck:=oB (C:=C) hd huk hks en.isEmpty 9999 w
   rcases pG hd hks es en.toList 0 r hM h1 with⟨rfl,p2⟩|⟨j,v,e1,rfl,p2,p3,p4,p5,p6⟩
   ·have hrun:(Instr.lookup t (a.eval x) (a.eval k) ok).run C.P w=.ok (if ok then .tuple #[zv,.bool false]else zv) w:=by
     unfold Instr.lookup
     rw[hv,hke]
     simp only[Sem.run_bind,run_underlying hu,Result.andThen,MapKept.run_getObj_map hw,Sem.run_pure,hck,MapKept.run_findKey huk p2,dp hi' hzv]
    cases ok with
    |true=>
     cases h2
     refine bJ.val hr hrun (.ba rfl (fun j c v hj hv=>?_))
     match j with
     |0=>simp at hj hv;subst hj;subst hv;exact hzr
     |1=>simp at hj hv;subst hj;subst hv;exact .bool _
     |j+2=>simp at hj
    |false=>
     cases h2
     exact bJ.val hr hrun hzr
   ·have hrun:(Instr.lookup t (a.eval x) (a.eval k) ok).run C.P w=.ok (if ok then .tuple #[e1.val,.bool true]else e1.val) w:=by
     unfold Instr.lookup
     rw[hv,hke]
     simp only[Sem.run_bind,run_underlying hu,Result.andThen,MapKept.run_getObj_map hw,Sem.run_pure,hck,MapKept.run_findKey huk p2]
    have hvr:VR w F ρ v e1.val:=p6
    cases ok with
    |true=>
     cases h2
     refine bJ.val hr hrun (.ba rfl (fun j c v hj hv=>?_))
     match j with
     |0=>simp at hj hv;subst hj;subst hv;exact hvr
     |1=>simp at hj hv;subst hj;subst hv;exact .bool _
     |j+2=>simp at hj
    |false=>
     cases h2
     exact bJ.val hr hrun hvr
  ·cases h
 ·cases h
theorem uF{k:SV}{kv:Value}(h:oq k=some kv)(n:Nat):Instr.sameBits n kv kv=true:=by
 unfold oq at h
 split at h
 ·cases h;unfold Instr.sameBits;simp
 ·cases h;unfold Instr.sameBits;simp
 ·rename_i s
  cases h
  unfold Instr.sameBits
  exact tJ s
 ·cases h
theorem EO{t el:TypeId}{q:LK}{x k v:Operand}{x' k' v':bU}(hm:uq C.P t=some (q,el))(hx:bz x=some x')(hk:bz k=some k')(hvo:bz v=some v')(hr:HR C ρ F H w)(he:ER w F ρ e a.tmps)
 (h:p8 q H (ev e k') (ev e v') (ev e x')=some (s,H')):∃w',(Instr.mapUpdate t (a.eval x) (a.eval k) (a.eval v)).run C.P w=.ok () w'∧s=.undef∧HR C ρ F H' w'∧Ext C ρ F H w ρ F H' w':=by
 obtain⟨kt,d,hu,huk,hd,hsz,hag⟩:=rI hm
 unfold p8 at h
 split at h
 ·rename_i b hb
  split at h
  ·rename_i es hg
   replace h:=aj h
   obtain⟨hc,h⟩:=h
   simp only[Zh,aah]at hc
   obtain⟨hkey,hv1⟩:=hc
   simp only[Zd,Zb,Zy]at h
   obtain⟨r,h1,H1,hH,rfl,rfl⟩:=h
   have hxv:=aZ hx he
   rw[hb]at hxv
   obtain⟨l,en,cl,hl,hv,hvi,har,hw,hM⟩:=AB hr hxv hg
   obtain⟨kv,hks⟩:=uY hkey
   have hke:=AG (aZ hk he) hks
   have hvr:=aZ hvo he
   generalize a.eval v=vv at *
   have hck:=oB (C:=C) hd huk hks false 9999 w
   have hlt:l.cg<w.heap.size:=(ZG.1 hw).1
   have hown:Own ρ H b l:=⟨⟨_,hg,rfl⟩,hl,hvi⟩
   have fin:∀(en':Array MapEntry) (cl':Nat),(∀(w':World) (σ:Map),dy F w w'→VR w F σ (ev e v') vv→lZ w F σ en.toList es→lZ w' F σ en'.toList (wu (ev e k') (ev e v') es r))→
    HR C ρ F H1 (w.putObj l.cg (.map en' cl'))∧Ext C ρ F H w ρ F H1 (w.putObj l.cg (.map en' cl')):=by
    intro en' cl' hM'
    have hkeep:∀Bk,Bk≠l.cg→(w.putObj l.cg (.map en' cl')).heap[Bk]?=w.heap[Bk]?:=fun Bk hne=>World.putObj_heap_other hne
    have hkk:dy F w (w.putObj l.cg (.map en' cl')):=fun Bk hB=>hkeep Bk (fun e=>(hr.own _ _ hown).1 (e▸hB))
    obtain⟨z1,z2⟩:=hr.set (w':=w.putObj l.cg (.map en' cl')) (l':=l) hH hg rfl hl (by simp) (fun Bk _ h=>hkeep Bk (h hvi)) (fun h=>.inl ⟨h,rfl⟩) (.inl rfl)
     (fun _=>⟨hvi,har,en',cl',World.putObj_heap_same hlt,by rw[bW hl];exact hM' _ _ hkk hvr hM⟩)
     (fun _ N hN _ hx=>by
      obtain⟨_,_,en2,cl2,g1,g2⟩:=hx
      rw[hw]at g1
      cases g1
      exact⟨hvi,har,en',cl',World.putObj_heap_same hlt,by rw[bW hl];exact hM' _ _ hkk (hvr.cut N hN) g2⟩)
    rw[bW hl]at z1 z2
    exact⟨z1,z2⟩
   rcases pG hd hks es en.toList 0 r hM h1 with⟨rfl,p2⟩|⟨j,v1,e1,rfl,p2,p3,p4,p5,p6⟩
   ·obtain⟨z1,z2⟩:=fin (en.push {key:=kv,val:=vv,born:=cl}) (cl+1) (fun w' σ hkk hv2 hM2=>by
     rw[Array.toList_push]
     exact uc (e:={key:=kv,val:=vv,born:=cl}) hks hv1 (hv2.mono hkk (fun _ h=>h) (Map.le_refl _)) _ _ (hM2.mono hkk (fun _ h=>h) (Map.le_refl _)))
    refine⟨_,?_,rfl,z1,z2⟩
    unfold Instr.mapUpdate
    rw[hv,hke]
    simp only[Sem.run_bind,run_underlying hu,Result.andThen,MapKept.run_getObj_map hw,hck,MapKept.run_findKey huk p2,MapKept.run_setObj_map _ hw]
    rfl
   ·rw[aae]at p2 h1 hH
    have hj:en[j]?=some e1:=by simpa using p3
    obtain⟨z1,z2⟩:=fin (en.modify j fun e=>{e with key:=kv,val:=vv}) cl (fun w' σ hkk hv2 hM2=>by
     rw[Array.toList_modify,aae]
     exact va hks hv1 (hv2.mono hkk (fun _ h=>h) (Map.le_refl _)) j _ _ (hM2.mono hkk (fun _ h=>h) (Map.le_refl _)))
    refine⟨_,?_,rfl,z1,z2⟩
    have hks2:(Instr.keyThatStays kv kv).run C.P w=.ok kv w:=by unfold Instr.keyThatStays;rw[uF hks];rfl
    unfold Instr.mapUpdate
    rw[hv,hke]
    simp only[Sem.run_bind,run_underlying hu,Result.andThen,MapKept.run_getObj_map hw,hck,MapKept.run_findKey huk p2,hj,ZQ,aaC,p4,hks2,MapKept.run_setObj_map _ hw]
    rfl
  ·cases h
 ·cases h
theorem vh{t el:TypeId}{q:LK}{x k v:Operand}{x' k' v':bU}(hm:uq C.P t=some (q,el))(hx:bz x=some x')(hk:bz k=some k')(hvo:bz v=some v')(hr:HR C ρ F H w)(he:ER w F ρ e a.tmps)
 (h:p8 q H (ev e k') (ev e v') (ev e x')=some (s,H')):bJ C (do Instr.mapUpdate t (a.eval x) (a.eval k) (a.eval v);pure .skip) ρ F H w s H':=by
 obtain⟨w',h1,rfl,h2,h3⟩:=EO hm hx hk hvo hr he h
 exact⟨undef,w',.inr ⟨by simp[h1,pure,Sem.run],rfl⟩,ρ,F,.undef _,h2,h3⟩
end
end
section
section
variable{C:Ctx}{ρ:Map}{F:Nat→Prop}{H H':ab}{w:World}{e:Env}{a:Act}{s c d:SV}
theorem eK{A:Type}{c:Bool}{x:Option A}{y:A}(h:(bif c then none else x)=some y):c=false∧x=some y:=by
 cases c with
 |true=>cases h
 |false=>exact⟨rfl,h⟩
theorem map_fst{v:Option SV}(h:v.map (·,H)=some (s,H')):v=some s∧H=H':=by
 cases v with
 |none=>cases h
 |some v=>cases h;exact⟨rfl,rfl⟩
theorem qX{xs:Array Operand}{y:bU}(h:iB xs=some [y]):∃x,xs= #[x]∧bz x=some y:=by
 have h1:=nB h
 cases xs with
 |mk l=>
  match l,h1 with
  |[x],h1=>simp at h1;exact⟨x,rfl,h1⟩
  |[],h1=>simp at h1
  |_::_::_,h1=>simp at h1
theorem rf{xs:Array Operand}{y z:bU}(h:iB xs=some [y,z]):∃x x',xs= #[x,x']∧bz x=some y∧bz x'=some z:=by
 have h1:=nB h
 cases xs with
 |mk l=>
  match l,h1 with
  |[x,x'],h1=>simp at h1;exact⟨x,x',rfl,h1.1,h1.2⟩
  |[],h1=>simp at h1
  |[_],h1=>simp at h1
  |_::_::_::_,h1=>simp at h1
theorem qn{t el:TypeId}(h:kW C.P t=some el):C.P.underlying t=some (.slice el):=by
 unfold kW at h
 split at h
 ·cases h;assumption
 ·cases h
def y6:NK→Value→Option Bool
 | .p,.pointer p=>some p.isNone
 | .s,.slice b _ _=>some b.isNone
 | .f,.nilFunc=>some true
 | .f,.func _ _ _=>some false
 |_,_=>none
theorem mB{op:BinOp}{u:TypeDesc}{y:Operand}{x:bU}{op':kQ}(h:vu op u y x=some op'):∃k neg,op'=.isNil k neg x:=by
 unfold vu at h
 split at h<;>first|(cases h;done)|(cases h;exact⟨_,_,rfl⟩)
theorem EA{P:Program}{d:Nat}{t el:TypeId}{p:Option Addr}(hu:P.underlying t=some (.pointer el)):(Op.equalIn (d+1) t (.pointer p) (.pointer none)).run P w=.ok p.isNone w:=by
 cases p<;>simp[Op.equalIn,run_underlying hu,Sem.run_bind,Result.andThen,pure,Sem.run]
theorem Eg{P:Program}{d n c:Nat}{t el:TypeId}{p:Option Addr}(hu:P.underlying t=some (.slice el)):(Op.equalIn (d+1) t (.slice p n c) (.slice none 0 0)).run P w=.ok p.isNone w:=by
 cases p<;>simp[Op.equalIn,run_underlying hu,Sem.run_bind,Result.andThen,pure,Sem.run]
theorem xY{P:Program}{d:Nat}{t:TypeId}{ps rs vr}(hu:P.underlying t=some (.func ps rs vr)):(Op.equalIn (d+1) t .nilFunc .nilFunc).run P w=.ok true w∧∀f x y,(Op.equalIn (d+1) t (.func f x y) .nilFunc).run P w=.ok false w:=by
 constructor
 ·simp[Op.equalIn,run_underlying hu,Sem.run_bind,Result.andThen,pure,Sem.run]
 ·intro f x y
  simp[Op.equalIn,run_underlying hu,Sem.run_bind,Result.andThen,pure,Sem.run]
theorem tY{op:BinOp}{u:TypeDesc}{t:TypeId}{x y:Operand}{x':bU}{k:NK}{neg b:Bool}{v:Value}(h:vu op u y x'=some (.isNil k neg x'))(hu:C.P.underlying t=some u)(hb:y6 k v=some b) :
 (do eqGuard op t x y v (a.eval y);binOp op t v (a.eval y):Sem Value).run C.P w=.ok (.bool (neg ^^ b)) w:=by
 have hm:Op.maxDepth=9999+1:=rfl
 unfold vu at h
 split at h<;>first|(cases h;done)|skip
 all_goals
  cases h
  cases v<;>simp only[y6,Zs,reduceCtorEq]at hb
 all_goals
  subst hb
  simp only[Act.eval,eqGuard,binOp,Op.equal,hm,Sem.run_bind]
  first
  |(simp[EA hu,Sem.run_bind,Result.andThen,pure,Sem.run];done)
  |(simp[Eg hu,Sem.run_bind,Result.andThen,pure,Sem.run];done)
  |(simp[(xY hu).1,(xY hu).2,Sem.run_bind,Result.andThen,pure,Sem.run];done)
theorem BV(hr:HR C ρ F H w){k:NK}{b:Bool}{v:Value}(hs:fG H k c=some b)(hv:VR w F ρ c v):y6 k v=some b:=by
 unfold fG at hs
 split at hs
 ·cases hs;cases hv;rfl
 ·replace hs:=aj hs
  obtain⟨hc,hs⟩:=hs
  cases hs
  obtain⟨l,hl,_,_,hv2⟩:=sK hr hc hv
  subst hv2
  rfl
 ·cases hs;cases hv;rfl
 ·cases hs;cases hv;rfl
 ·cases hs;cases hv;rfl
 ·cases hs;cases hv;rfl
 ·rename_i z L f
  cases hL:L.isEmpty with
  |true=>rw[hL]at hs;cases hs
  |false=>
   rw[hL]at hs
   cases hs
   cases hv with
   |aA V hcap hfull hz hat h1 hv=>
    rcases hat with h0|⟨B,o,ha,_⟩
    ·subst h0;cases hL
    ·subst ha;rfl
 ·rename_i b' v' off n
  replace hs:=aj hs
  obtain⟨hc,hs⟩:=hs
  simp only[Zh,Ze]at hc
  cases hs
  obtain⟨l,z2,L2,ex2,hl,hb2,hbr,g1,g2⟩:=dV hr hc.1 hv
  cases hvi:l.bB with
  |true=>obtain⟨q,p1,p2,p3⟩:=g1 hvi;omega
  |false=>
   obtain⟨p1,q,p2,p3⟩:=g2 hvi
   have:=p3 (by omega)
   subst this
   subst p2
   rfl
 ·cases hs
theorem zT{op:BinOp}{u:TypeDesc}{t:TypeId}{x y:Operand}{x':bU}{k:NK}{neg b:Bool}(h:vu op u y x'=some (.isNil k neg x'))(hu:C.P.underlying t=some u)(hx:bz x=some x')
 (hr:HR C ρ F H w) (he:ER w F ρ e a.tmps) (hs:fG H k (ev e x')=some b):bJ C (do let v←(do eqGuard op t x y (a.eval x) (a.eval y);binOp op t (a.eval x) (a.eval y));pure (.value v)) ρ F H w (.bool (neg ^^ b)) H:=
 bJ.val hr (tY h hu (BV hr hs (aZ hx he))) (.bool _)
theorem Bn{o:Oper}{op':kQ}(h:oy C.P o.op=some op')(hr:HR C ρ F H w)(he:ER w F ρ e a.tmps)(hs:b9 e H op'=some (s,H')):bJ C (execOp a.eval o) ρ F H w s H':=by
 unfold oy at h
 split at h
 case h_1 x ho=>
  simp only[Zb]at h
  obtain⟨y,hy,rfl⟩:=h
  simp only[b9,Zs,Zy]at hs
  obtain⟨rfl,rfl⟩:=hs
  simp only[execOp,ho]
  exact Ch hy hr he
 case h_2 x ho=>
  simp only[Zb]at h
  obtain⟨y,hy,rfl⟩:=h
  simp only[b9,Zs,Zy]at hs
  obtain⟨rfl,rfl⟩:=hs
  simp only[execOp,ho]
  exact Ch hy hr he
 case h_3 c x y ho=>
  split at h
  ·rename_i c' x' y' h1 h2 h3
   cases h
   obtain⟨h4,rfl⟩:=map_fst hs
   simp only[execOp,ho]
   exact D7 h1 h2 h3 hr he h4
  ·cases h
 case h_4 t ho=>
  simp only[Zb]at h
  obtain⟨z,hz,rfl⟩:=h
  simp only[b9,Zs,Zy]at hs
  obtain⟨rfl,rfl⟩:=hs
  simp only[execOp,ho]
  exact zN hz hr
 case h_5 t x ho=>
  simp only[Zb]at h
  obtain⟨y,hy,rfl⟩:=h
  simp only[b9,Zb,Zy]at hs
  obtain⟨cs,h1,rfl,rfl⟩:=hs
  simp only[execOp,ho]
  exact HZ hy hr he h1
 case h_6 t ps ho=>
  split at h
  ·rename_i z ps' h1 h2
   cases h
   simp only[b9,Zb,Zy]at hs
   obtain⟨r,h3,rfl,rfl⟩:=hs
   simp only[execOp,ho]
   exact BS h1 h2 hr he h3
  ·cases h
 case h_7 t n ps ho=>
  split at h
  ·rename_i el hel
   split at h
   ·rename_i z zs ps' h1 h2 h3
    replace h:=aj h
    obtain⟨hc,h⟩:=h
    cases h
    simp only[Zh,Ze,aah]at hc
    simp only[b9,Zb,Zy]at hs
    obtain⟨r,h4,rfl,rfl⟩:=hs
    simp only[execOp,ho]
    exact yI hel h1 h2 h3 hc.1 hc.2 hr he h4
   ·cases h
  ·cases h
 case h_8 t x ho=>
  split at h
  ·rename_i ag n y h1 h2 h3
   cases h
   obtain⟨h4,rfl⟩:=map_fst hs
   simp only[execOp,ho]
   exact EX h1 h2 h3 hr he h4
  ·cases h
 case h_9 t x y ho=>
  split at h
  ·rename_i n x' y' h1 h2 h3
   cases h
   simp only[b9,Zb,Zy]at hs
   obtain⟨H1,h4,rfl,rfl⟩:=hs
   simp only[execOp,ho]
   exact BT h1 h2 h3 hr he h4
  ·cases h
 case h_10 x ho=>
  simp only[Zb]at h
  obtain⟨y,hy,rfl⟩:=h
  exact ze hy hr he o ho hs
 case h_11 bo t x y yt ho=>
  simp only[execOp,ho]
  split at h
  ·rename_i x' y' h1 h2
   have aggs:∀(op:BinOp) (neg:Bool),((op=.eql∧neg=false)∨(op=.neq∧neg=true))→iZ C.P t=some true→(bif C.P.eqGuardType C.P.depth t then none else(eG C.P 6 t).map (.dH neg · x' y'))=some op'→b9 e H op'=some (s,H')→
    bJ C (do let v←(do eqGuard op t x y (a.eval x) (a.eval y);binOp op t (a.eval x) (a.eval y));pure (.value v)) ρ F H w s H':=by
    intro op neg dZ hag h hs
    replace h:=eK h
    obtain⟨hm,h⟩:=h
    simp only[Zb]at h
    obtain⟨sh,hsh,rfl⟩:=h
    simp only[b9]at hs
    split at hs
    ·rename_i cs ds k1 k2
     simp only[Zb,Zy]at hs
     obtain⟨r,k3,rfl,rfl⟩:=hs
     exact Cu dZ h1 h2 hm hsh hag hr he k1 k2 k3
    ·cases hs
   split at h
   ·rename_i hu
    exact aggs .eql false (.inl ⟨rfl,rfl⟩) (by simp[iZ,hu]) h hs
   ·rename_i hu
    exact aggs .neq true (.inr ⟨rfl,rfl⟩) (by simp[iZ,hu]) h hs
   ·rename_i hu
    exact aggs .eql false (.inl ⟨rfl,rfl⟩) (by simp[iZ,hu]) h hs
   ·rename_i hu
    exact aggs .neq true (.inr ⟨rfl,rfl⟩) (by simp[iZ,hu]) h hs
   ·cases h
    obtain⟨h4,rfl⟩:=map_fst hs
    exact A0 h1 h2 hr he h4
   ·rename_i hu
    cases h
    obtain⟨h4,rfl⟩:=map_fst hs
    exact C7 h1 h2 hr he hu h4
   ·cases h
    obtain⟨h4,rfl⟩:=map_fst hs
    exact A0 h1 h2 hr he h4
   ·rename_i u hu
    obtain⟨k,neg,rfl⟩:=mB h
    simp only[b9,Zb,Zy]at hs
    obtain⟨b,k1,rfl,rfl⟩:=hs
    exact zT h hu h1 hr he k1
   ·cases h
  ·cases h
 case h_12 t x ho=>
  simp only[Zb]at h
  obtain⟨y,hy,rfl⟩:=h
  simp only[b9]at hs
  split at hs
  ·rename_i b hb
   cases hs
   simp only[execOp,ho]
   exact Ey (t:=t) hy hr he hb
  ·cases hs
 case h_13 t x ho=>
  split at h
  ·simp only[Zb]at h
   obtain⟨y,hy,rfl⟩:=h
   simp only[b9]at hs
   split at hs
   ·rename_i k n hb
    cases hs
    simp only[execOp,ho]
    exact E1 hy hr he hb
   ·cases hs
  ·cases h
 case h_14 sr ds x ho=>
  simp only[execOp,ho]
  split at h
  ·cases h
  ·rename_i y hy
   split at h
   ·rename_i j k h1 h2
    cases h
    simp only[b9]at hs
    split at hs
    ·rename_i k' n hb
     cases hs
     exact AT hy h1 h2 hr he hb
    ·cases hs
   ·rename_i h1 h2
    cases h
    simp only[b9]at hs
    split at hs
    ·rename_i b hb
     cases hs
     exact Av hy h1 h2 hr he hb
    ·cases hs
   ·rename_i el h1 h2
    split at h
    ·rename_i h3 h4
     cases h
     simp only[b9,Zd,Zb,Zy]at hs
     obtain⟨L,k1,l,k2,rfl,rfl⟩:=hs
     exact yC hy h1 h3 h2 hr he k1 k2
    ·cases h
   ·rename_i el h1 h2
    split at h
    ·rename_i h3 h4
     cases h
     simp only[b9]at hs
     split at hs
     ·rename_i b hb
      cases hs
      obtain⟨val,w',k1,k2⟩:=zE hy h1 h3 h2 hr he hb
      exact bJ.so k1 k2
     ·cases hs
    ·cases h
   ·cases h
 case h_15 f fs cs ho=>
  rw[cond_eq_ite]at h
  split at h
  ·rename_i hc
   simp only[Zb]at h
   obtain⟨ys,hy,rfl⟩:=h
   simp only[b9,Zs,Zy]at hs
   obtain⟨rfl,rfl⟩:=hs
   simp only[execOp,ho]
   exact D0 hc hy hr he
  ·replace h:=aj h
   obtain⟨hc,h⟩:=h
   simp only[Zb]at h
   obtain⟨ys,hy,rfl⟩:=h
   simp only[b9,Zs,Zy]at hs
   obtain⟨rfl,rfl⟩:=hs
   simp only[execOp,ho]
   exact Aj hc hy hr he
 case h_16 t l c ho=>
  split at h
  ·rename_i el hel
   split at h
   ·rename_i i z l' c' h1 h2 h3 h4
    replace h:=eK h
    obtain⟨hb,h⟩:=h
    replace h:=aj h
    obtain⟨hz,h⟩:=h
    cases h
    simp only[aaw,aaJ,aah]at hb hz
    have hu:C.P.underlying t=some (.slice el):=by
     unfold kW at hel
     split at hel
     ·cases hel;assumption
     ·cases hel
    simp only[b9]at hs
    obtain⟨val,w',r1,r2⟩:=wK hu h1 h2 hz (by omega) (by omega) hr (aZ h3 he) (aZ h4 he) hs
    simp only[execOp,ho]
    exact bJ.so r1 r2
   ·cases h
  ·cases h
 case h_17 t x lo hi mx ho=>
  simp only[execOp,ho]
  split at h
  ·rename_i x' lo' hi' mx' h1 h2 h3 h4
   split at h
   ·rename_i el hu
    split at h
    ·rename_i n hn
     replace h:=eK h
     obtain⟨hb,h⟩:=h
     cases h
     simp only[b9]at hs
     replace hs:=aj hs
     obtain⟨hc,hs⟩:=hs
     obtain⟨h5,rfl⟩:=map_fst hs
     rcases orElse_some h5 with h5|h5
     rotate_left
     ·exact yw h1 h2 h3 h4 hu hn hr he hc h5
     refine yM h1 h2 h3 h4 hu hn hr he hc (fun hm=>?_) h5
     cases hi' with
     |some v=>rfl
     |none=>rw[hm]at hb;cases hb
    ·cases h
   ·rename_i hu
    split at h
    ·rename_i hm
     cases h
     have:mx=none:=by
      cases mx with
      |none=>rfl
      |some v=>simp[fW]at h4
     subst this
     simp only[b9]at hs
     split at hs
     ·rename_i b hb
      obtain⟨h5,rfl⟩:=map_fst hs
      exact yS h1 h2 h3 hu hr he hb h5
     ·cases hs
    ·cases h
   ·cases h
  ·cases h
 case h_18 t x f ho=>
  simp only[execOp,ho]
  split at h
  ·rename_i x' f' h1 h2
   split at h
   ·rename_i n h3
    cases h
    simp only[b9]at hs
    replace hs:=aj hs
    obtain⟨hc,hs⟩:=hs
    obtain⟨h5,rfl⟩:=map_fst hs
    simp only[Zd]at h2
    obtain⟨fs,h6,h7⟩:=h2
    exact Cb h1 h6 h7 h3 hr he hc h5
   ·cases h
  ·cases h
 case h_19 t x f ho=>
  simp only[execOp,ho]
  split at h
  ·rename_i x' f' h1 h2
   split at h
   ·rename_i ag n h3 h4
    cases h
    simp only[b9]at hs
    split at hs
    ·rename_i cs hc
     obtain⟨h5,rfl⟩:=map_fst hs
     simp only[Zd]at h2
     obtain⟨fs,h6,h7⟩:=h2
     exact BB h1 h6 h7 h3 h4 hr he hc h5
    ·cases hs
   ·cases h
  ·cases h
 case h_20 t x ix ho=>
  simp only[execOp,ho]
  split at h
  ·rename_i x' i' h1 h2
   split at h
   ·rename_i el hu
    split at h
    ·rename_i n hn
     cases h
     simp only[b9]at hs
     replace hs:=aj hs
     obtain⟨hc,hs⟩:=hs
     obtain⟨h5,rfl⟩:=map_fst hs
     exact yO h1 h2 hu hn hr he hc h5
    ·cases h
   ·rename_i len el hu
    split at h
    ·rename_i n hn
     cases h
     simp only[b9]at hs
     replace hs:=aj hs
     obtain⟨hc,hs⟩:=hs
     simp only[Zd]at hs
     obtain⟨i,h3,hs⟩:=hs
     obtain⟨h5,rfl⟩:=map_fst hs
     exact zC h1 h2 hu hn hr he hc h3 h5
    ·cases h
   ·cases h
  ·cases h
 case h_21 t x ix ho=>
  simp only[execOp,ho]
  split at h
  ·rename_i x' i' h1 h2
   split at h
   ·rename_i len el hu
    split at h
    ·rename_i ag n h3 h4
     cases h
     simp only[b9]at hs
     split at hs
     ·rename_i cs hc
      simp only[Zd]at hs
      obtain⟨i,h6,hs⟩:=hs
      obtain⟨h5,rfl⟩:=map_fst hs
      exact yB h1 h2 hu h3 h4 hr he hc h6 h5
     ·cases hs
    ·cases h
   ·rename_i hu
    cases h
    simp only[b9]at hs
    split at hs
    ·rename_i b hc
     simp only[Zd,Zb,Zy]at hs
     obtain⟨i,h6,y,h7,rfl,rfl⟩:=hs
     exact y9 h1 h2 hu hr he hc h6 h7
    ·cases hs
   ·cases h
  ·cases h
 case h_22 x i ho=>
  simp only[Zb]at h
  obtain⟨y,hy,rfl⟩:=h
  simp only[b9]at hs
  split at hs
  ·rename_i vs hb
   obtain⟨h4,rfl⟩:=map_fst hs
   simp only[execOp,ho]
   exact v8 hy hr he hb h4
  ·cases hs
 case h_23 c ho=>
  unfold oe at h
  split at h
  ·split at h
   ·cases h;cases hs
   ·cases h
  ·cases h
  ·rename_i b hb
   have hx:∃cs,execOp a.eval o=builtin b c.argTypes o.type cs (c.args.map a.eval):=⟨_,by simp only[execOp,ho,resolve,hb];rfl⟩
   obtain⟨cs,hx⟩:=hx
   rw[hx]
   split at h
   ·cases h
   ·rename_i xs hxs
    split at h
    ·rename_i y
     obtain⟨x,hx1,hy⟩:=qX hxs
     rw[hx1]
     simp only[abI,ZO,abf]
     split at h
     ·rename_i hu
      cases h
      simp only[Zd]at hu
      obtain⟨t0,h0,hu⟩:=hu
      simp only[b9]at hs
      split at hs
      ·rename_i b hbb
       cases hs
       exact Ej (ty:=o.type) hy h0 hu hr he hbb
      ·cases hs
     ·rename_i el hu
      cases h
      simp only[Zd]at hu
      obtain⟨t0,h0,hu⟩:=hu
      simp only[b9]at hs
      replace hs:=aj hs
      obtain⟨hc,hs⟩:=hs
      rw[Zb]at hs
      obtain⟨n,h1,hs⟩:=hs
      cases hs
      exact EB (ty:=o.type) hy h0 hu hr he hc h1
     ·rename_i n el hu
      cases h
      simp only[Zd]at hu
      obtain⟨t0,h0,hu⟩:=hu
      simp only[b9,Zs,Zy]at hs
      obtain⟨rfl,rfl⟩:=hs
      exact Eo (ty:=o.type) h0 hu hr
     ·cases h
    ·split at h
     ·cases h
      obtain⟨h1,rfl⟩:=map_fst hs
      exact Hi hxs hr he h1
     ·cases h
    ·split at h
     ·cases h
      obtain⟨h1,rfl⟩:=map_fst hs
      exact G8 hxs hr he h1
     ·cases h
    ·rename_i y z
     obtain⟨x,x',hx1,hy,hy'⟩:=rf hxs
     rw[hx1]
     simp only[abI,ZO,abf]
     split at h
     ·rename_i el el' h1 h2
      split at h
      ·rename_i i hi
       replace h:=eK h
       obtain⟨hb,h⟩:=h
       simp only[aaw,aaJ]at hb
       split at h
       ·rename_i zl hzl
        replace h:=aj h
        obtain⟨hz,h⟩:=h
        cases h
        simp only[aah]at hz
        simp only[Zd]at h1 h2
        obtain⟨t0,h0,h1⟩:=h1
        obtain⟨t1,h3,h2⟩:=h2
        obtain⟨i',v,hi',hv,k1,k2⟩:=ga (w:=w) (F:=F) (ρ:=ρ) hzl
        rw[hi]at hi';cases hi'
        simp only[b9,Zd]at hs
        obtain⟨X,hX,hs⟩:=hs
        have hT:Ed C.P c.argTypes el i.size i v:=⟨⟨t0,h0,qn h1⟩,⟨t1,el',h3,h2⟩,hi,rfl,hv,by omega,by omega,by omega⟩
        obtain⟨val,w',r1,r2⟩:=zq hT (ty:=o.type) hr (aZ hy he) (aZ hy' he) hX hs
        exact bJ.so r1 r2
       ·cases h
      ·cases h
     ·cases h
    ·rename_i y z
     obtain⟨x,x',hx1,hy,hy'⟩:=rf hxs
     rw[hx1]
     simp only[abI,ZO,abf]
     split at h
     ·rename_i el el' h1 h2
      split at h
      ·rename_i n hn
       cases h
       simp only[Zd]at h1 h2
       obtain⟨t0,h0,h1⟩:=h1
       simp only[b9,Zd]at hs
       obtain⟨X,hX,hs⟩:=hs
       obtain⟨val,w',r1,r2⟩:=DO (ty:=o.type) h0 (qn h1) hn (by omega) hr (aZ hy he) (aZ hy' he) hX hs
       exact bJ.so r1 r2
      ·cases h
     ·cases h
    ·rename_i y
     obtain⟨x,hx1,hy⟩:=qX hxs
     rw[hx1]
     simp only[abI,ZO,abf]
     split at h
     ·rename_i el h1
      split at h
      ·rename_i zh zt hz
       cases h
       simp only[Zd]at h1
       obtain⟨t0,h0,h1⟩:=h1
       simp only[b9]at hs
       obtain⟨val,w',r1,r2⟩:=AO (ty:=o.type) h0 (qn h1) hz (by simp) hr (aZ hy he) hs
       exact bJ.so r1 r2
      ·cases h
     ·cases h
    ·cases h
 case h_24 t ho=>
  cases h
  simp only[b9,Zs,Zy]at hs
  obtain⟨rfl,rfl⟩:=hs
  simp only[execOp,ho]
  exact Bl hr t
 case h_25 t m k v ho=>
  simp only[execOp,ho]
  split at h
  ·rename_i q el m' k' v' h1 h2 h3 h4
   cases h
   simp only[b9]at hs
   exact vh h1 h2 h3 h4 hr he hs
  ·cases h
 case h_26 t m k v ho=>
  simp only[execOp,ho]
  split at h
  ·rename_i q el m' k' v' h1 h2 h3 h4
   cases h
   simp only[b9]at hs
   exact vh h1 h2 h3 h4 hr he hs
  ·cases h
 case h_27 t m k ok ho=>
  simp only[execOp,ho]
  split at h
  ·rename_i q el m' k' h1 h2 h3
   simp only[Zb]at h
   obtain⟨z,hz,rfl⟩:=h
   simp only[b9]at hs
   exact Ao h1 hz h2 h3 hr he hs
  ·cases h
 case h_28=>cases h
end
end
section
abbrev WF(ro:Option Nat):Fence:={fn:=fun _=>True,depth:=none,alive:=false,round:=ro}
def gP(w:World)(F:Nat→Prop)(ρ:Map)(xs:List SV)(args:Array Value):Prop:=xs.length=args.size∧∀(j:Nat) c v,xs[j]?=some c→args[j]?=some v→VR w F ρ c v
def Am(C:Ctx)(rec:Rec):Prop:=∀f xs H v H',rec (.fn f) xs H=some (v,H')→∀(ρ:Map) (F:Nat→Prop) (w:World) (args:Array Value),HR C ρ F H w→gP w F ρ xs args→
 (callFunc f args).run C.P w=.ok (.enter f args) w∧∀n,CallsIn Fence.wide n C.P f args w (fun e w'=>∃val,e=.returned val∧dD C ρ F H w v H' val w')
def FR(C:Ctx)(rec:Rec):Prop:=∀b xs H v H',rec (.fp b) xs H=some (v,H')→∀(ρ:Map) (F:Nat→Prop) (w:World) (args:Array Value) (l:Loc),HR C ρ F H w→gP w F ρ xs args→ρ b=some l→
 ∃f tmps as1 bd,(Instr.yield l.cg args).run C.P w=.ok (.round l.cg f tmps as1 bd) w∧∀n,RoundIn Fence.wide n C.P l.cg f tmps as1 bd w (fun e w'=>∃val,e=.returned val∧dD C ρ F H w v H' val w')
def AF(C:Ctx)(rec:Rec):Prop:=∀f xs H v H',rec (.rW f) xs H=some (v,H')→∀(ρ:Map) (F:Nat→Prop) (w:World) (args:Array Value),HR C ρ F H w→gP w F ρ xs args→
 (callFunc f args).run C.P w=.ok (.enter f args) w∧∀n,CallsIn Fence.wide n C.P f args w (fun e w'=>∃val,e=.returned val∧dD C ρ F H w v H' val w')
structure fx(C:Ctx)(rec:Rec):Prop where
 call:Am C rec
 Ug:AF C rec
 fp:FR C rec
section
variable{C:Ctx}{ρ:Map}{F:Nat→Prop}{H H':ab}{w:World}{e:Env}{a:Act}{s c d:SV}
theorem jS{xs ys:List SV}{vs ws:Array Value}(h:gP w F ρ xs vs)(h':gP w F ρ ys ws):gP w F ρ (xs++ys) (vs++ws):=by
 refine⟨by simp[h.1,h'.1],fun j c v hc hv=>?_⟩
 rw[aar]at hc
 rw[Array.getElem?_append]at hv
 rw[h.1]at hc
 split at hc
 ·rename_i hlt
  rw[if_pos hlt]at hv
  exact h.2 j c v hc hv
 ·rename_i hlt
  rw[if_neg hlt]at hv
  exact h'.2 _ c v hc hv
theorem gC{o:Oper}{op:kQ}(h:oy C.P o.op=some op):∀c,o.op≠.defer c:=by
 intro c hc
 rw[hc]at h
 simp[oy]at h
theorem pw{P:Program}{o:Op}{f:bU}{xs:List bU}(h:oy P o=some (.call f xs)):∃c,o=.call c∧oe P c=some (.call f xs):=by
 unfold oy at h
 split at h
 case h_23 c=>exact⟨c,rfl,h⟩
 all_goals (repeat' split at h)
 all_goals (first|(cases h;done)|(obtain⟨_,_,h2⟩:=mB h;cases h2;done)|(simp[Zb,cond_eq_ite]at h;done)|(simp only[cond_eq_ite]at h;repeat' split at h;all_goals (first|(cases h;done)|(simp[Zb]at h;done))))
theorem DW{P:Program}{o:Op}{f:FuncId}{m:Nat}{xs:List bU}(h:oy P o=some (.eE f m xs)):False:=by
 unfold oy at h
 split at h
 case h_23 c=>
  unfold oe at h
  repeat' split at h
  all_goals (first|(cases h;done)|(simp[Zb,cond_eq_ite]at h;done)|(repeat' split at h) )
  all_goals (first|(cases h;done)|(simp[Zb,cond_eq_ite]at h;done))
 all_goals (repeat' split at h)
 all_goals (first|(cases h;done)|(obtain⟨_,_,h2⟩:=mB h;cases h2;done)|(simp[Zb,cond_eq_ite]at h;done)|(simp only[cond_eq_ite]at h;repeat' split at h;all_goals (first|(cases h;done)|(simp[Zb]at h;done))))
theorem ES{P:Program}{o:Op}{f:FuncId}{xs:List bU}(h:oy P o=some (.iW f xs)):False:=by
 unfold oy at h
 split at h
 case h_23 c=>
  unfold oe at h
  repeat' split at h
  all_goals (first|(cases h;done)|(simp[Zb,cond_eq_ite]at h;done)|(repeat' split at h) )
  all_goals (first|(cases h;done)|(simp[Zb,cond_eq_ite]at h;done))
 all_goals (repeat' split at h)
 all_goals (first|(cases h;done)|(obtain⟨_,_,h2⟩:=mB h;cases h2;done)|(simp[Zb,cond_eq_ite]at h;done)|(simp only[cond_eq_ite]at h;repeat' split at h;all_goals (first|(cases h;done)|(simp[Zb]at h;done))))
theorem lY{P:Program}{c:Call}{f:bU}{xs:List bU}(h:oe P c=some (.call f xs)):∃g,c.callee=.value g∧bz g=some f∧iB c.args=some xs:=by
 unfold oe at h
 split at h
 ·rename_i g hg
  split at h
  ·rename_i f' xs' h1 h2
   cases h
   exact⟨g,hg,h1,h2⟩
  ·cases h
 ·cases h
 ·exfalso
  repeat' split at h
  all_goals (first|(cases h;done)|(simp[Zb,cond_eq_ite]at h;done)|(repeat' split at h) )
  all_goals (first|(cases h;done)|(simp[Zb,cond_eq_ite]at h;done))
theorem AD{rec:Rec}(hrec:fx C rec){o:Oper}{f:FuncId}{m:Nat}{xs:List bU}(dZ:oy C.P o.op=some (.call (.c (.fn f [])) xs))(hs:rec (.rW f) (xs.map (ev e)) H=some (s,H'))(hr:HR C ρ F H w)(he:ER w F ρ e a.tmps)
 {ro:Option Nat} {n:Nat} {K:Act→World→Prop} {Q:Exit→Act→World→Prop} (hK:∀val w',dD C ρ F H w s H' val w'→K (a.put o.dst val) w'):o.wpIn (WF ro) n C.P a w K Q:=by
 refine⟨fun _ _=>trivial,?_⟩
 rw[Oper.semAt_eq _ _ _ (gC dZ)]
 obtain⟨c,ho,hcc⟩:=pw dZ
 obtain⟨g,hg,hf,hxs⟩:=lY hcc
 obtain⟨hn,hv⟩:=iC hxs he
 have hargs:gP w F ρ (xs.map (ev e)) (c.args.map a.eval):=⟨by simpa using hn,hv⟩
 have hgv:=aZ hf he
 simp only[ev]at hgv
 have hx0:execOp a.eval o=(do let d←Deferred.ofValue (a.eval g) (c.args.map a.eval);invoke d.target d.args):=by
  simp only[execOp,ho,resolve,hg]
 generalize hgval:a.eval g=gv at *
 cases hgv with
 |fn hn2 hv2=>
  rename_i vs
  have hvs:vs= #[]:=aa4 (by simpa using hn2.symm)
  subst hvs
  obtain⟨h1,h2⟩:=hrec.Ug _ _ _ _ _ hs ρ F w _ hr hargs
  rw[hx0]
  have hx:(do let d←Deferred.ofValue (Value.func (.func f) #[] #[]) (c.args.map a.eval);invoke d.target d.args:Sem Next)=callFunc f (c.args.map a.eval):=by
   simp[Deferred.ofValue,invoke]
  rw[hx,h1]
  refine⟨fun h=>by simp at h,CallsIn.mono (h2 _) (fun e' w' he'=>?_)⟩
  obtain⟨val,rfl,hd⟩:=he'
  exact hK val w' hd
theorem Bu{rec:Rec}(hrec:fx C rec){o:Oper}{op:kQ}(dZ:oy C.P o.op=some op)(hs:aq rec e H op=some (s,H'))(hr:HR C ρ F H w)(he:ER w F ρ e a.tmps)
 {ro:Option Nat} {n:Nat} {K:Act→World→Prop} {Q:Exit→Act→World→Prop} (hK:∀val w',dD C ρ F H w s H' val w'→K (a.put o.dst val) w'):o.wpIn (WF ro) n C.P a w K Q:=by
 refine⟨fun _ _=>trivial,?_⟩
 rw[Oper.semAt_eq _ _ _ (gC dZ)]
 by_cases hc:∃f xs,op=.call f xs
 ·obtain⟨f,xs,rfl⟩:=hc
  obtain⟨c,ho,hcc⟩:=pw dZ
  obtain⟨g,hg,hf,hxs⟩:=lY hcc
  obtain⟨hn,hv⟩:=iC hxs he
  have hargs:gP w F ρ (xs.map (ev e)) (c.args.map a.eval):=⟨by simpa using hn,hv⟩
  have hgv:=aZ hf he
  simp only[aq]at hs
  unfold j6 at hs
  have key:∀(S:Sem Next),(execOp a.eval o)=(do let d←Deferred.ofValue (a.eval g) (c.args.map a.eval);invoke d.target d.args):=fun _=>by
   simp only[execOp,ho,resolve,hg]
  split at hs
  ·rename_i f' cs hfn
   rw[hfn]at hgv
   generalize hgval:a.eval g=gv at *
   cases hgv with
   |fn hn2 hv2=>
    rename_i vs
    have ha:=jS hargs ⟨hn2,hv2⟩
    obtain⟨h1,h2⟩:=hrec.call _ _ _ _ _ hs ρ F w _ hr ha
    rw[key (execOp a.eval o)]
    have hx:(do let d←Deferred.ofValue (Value.func (.func f') #[] vs) (c.args.map a.eval);invoke d.target d.args:Sem Next)=callFunc f' (c.args.map a.eval++vs):=by
     simp[Deferred.ofValue,invoke]
    rw[hx,h1]
    refine⟨fun h=>by simp at h,CallsIn.mono (h2 _) (fun e' w' he'=>?_)⟩
    obtain⟨val,rfl,hd⟩:=he'
    exact hK val w' hd
  ·rename_i f' cs hfn
   rw[hfn]at hgv
   generalize hgval:a.eval g=gv at *
   cases hgv with
   |oC hn2 hv2=>
    rename_i vs
    have ha:=jS ⟨hn2,hv2⟩ hargs
    obtain⟨h1,h2⟩:=hrec.call _ _ _ _ _ hs ρ F w _ hr ha
    rw[key (execOp a.eval o)]
    have hx:(do let d←Deferred.ofValue (Value.func (.func f') vs #[]) (c.args.map a.eval);invoke d.target d.args:Sem Next)=callFunc f' (vs++c.args.map a.eval):=by
     simp[Deferred.ofValue,invoke]
    rw[hx,h1]
    refine⟨fun h=>by simp at h,CallsIn.mono (h2 _) (fun e' w' he'=>?_)⟩
    obtain⟨val,rfl,hd⟩:=he'
    exact hK val w' hd
  ·rename_i b hfn
   rw[hfn]at hgv
   generalize hgval:a.eval g=gv at *
   cases hgv with
   |fp h ha=>
    rename_i l
    obtain⟨f',tmps,as1,bd,h1,h2⟩:=hrec.fp _ _ _ _ _ hs ρ F w _ l hr hargs h
    rw[key (execOp a.eval o)]
    have hx:(do let d←Deferred.ofValue (Value.func (.yield l.cg) #[] #[]) (c.args.map a.eval);invoke d.target d.args:Sem Next)=Instr.yield l.cg (c.args.map a.eval):=by
     simp[Deferred.ofValue,invoke]
    rw[hx,h1]
    refine⟨fun h=>by simp at h,RoundIn.mono (h2 _) (fun e' w' he'=>?_)⟩
    obtain⟨val,rfl,hd⟩:=he'
    exact hK val w' hd
  ·cases hs
 ·have hs':b9 e H op=some (s,H'):=by
   unfold aq at hs
   split at hs
   ·exact absurd ⟨_,_,rfl⟩ hc
   ·rename_i f m xs
    exfalso
    exact DW dZ
   ·rename_i f xs
    exfalso
    exact ES dZ
   ·exact hs
  obtain⟨val,w',h1,h2⟩:=Bn dZ hr he hs'
  rcases h1 with h1|⟨h1,rfl⟩
  ·rw[h1];exact hK _ _ h2
  ·rw[h1];exact hK _ _ h2
end
end
end Go.Sh
