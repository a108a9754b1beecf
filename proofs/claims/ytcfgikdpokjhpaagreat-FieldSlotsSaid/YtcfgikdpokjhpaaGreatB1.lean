/- Part of the proof of FieldSlotsSaid: texts ShA, ShB, ShC, ShD, ShE, ShF, ShG, ShH, ShI, ShJ, ShK, ShL, ShM, ShN, ShO, ShP, ShQ, ShR, ShRa, ShRb, ShRc, ShRd, ShS, ShT. -/
import GoSem.Step
import Derived.Attr
import Derived.RangeFuncLeaves
import Derived.RangeFuncCalls
import Derived.Laws.Sem
import Derived.Laws.Cells
import Derived.Laws.Entries
import Derived.ChangeKeysEq
import Derived.Laws.StructEq
import Derived.Laws.Append
import Derived.MapKept
namespace Go.Sh
set_option linter.unusedSectionVars false
set_option linter.unnecessarySimpa false
set_option linter.unusedSimpArgs false
set_option linter.unusedVariables false
set_option maxRecDepth 100000
set_option maxHeartbeats 4000000
section
abbrev aaS:=@List.getElem?_eq_some_iff
abbrev aaT:=@List.length_append
abbrev aaU:=@List.append_assoc
abbrev aaV:=@decide_eq_true
abbrev aaW:=@Option.map_eq_some_iff
abbrev aaX:=@decide_eq_true_eq
abbrev aaY:=@Option.bind_eq_some_iff
abbrev aaZ:=@decide_eq_false
abbrev aa0:=@decide_eq_false_iff_not
abbrev aa1:=@Bool.and_eq_true
abbrev aa2:=@List.getElem?_set_ne
abbrev aa3:=@List.mem_of_getElem?
abbrev aa4:=@Nat.lt_or_ge
abbrev aa5:=@Nat.add_assoc
abbrev aa6:=@List.getElem?_append_left
abbrev aa7:=@List.filter_replicate
abbrev aa8:=@Nat.le_refl
abbrev aa9:=@List.getElem?_eq_getElem
abbrev aba:=@Int.toNat_of_nonneg
abbrev abb:=@cond_true
abbrev abc:=@cond_false
abbrev abd:=@Option.some.injEq
abbrev abe:=@List.all_replicate
abbrev abf:=@List.length_set
abbrev abg:=@List.length_cons
abbrev abh:=@List.length_nil
abbrev abi:=@Prod.mk.injEq
abbrev abj:=@List.all_eq_true
abbrev abk:=@Bool.false_and
abbrev abl:=@List.filter_append
abbrev abm:=@List.getElem?_set_self
abbrev abn:=@Bool.and_self
abbrev abo:=@Bool.true_and
abbrev abp:=@List.getElem?_take
abbrev abq:=@Array.getElem?_eq_some_iff
abbrev abr:=@List.mem_range
abbrev abt:=@Bool.and_false
abbrev abu:=@List.take_of_length_le
abbrev abv:=@Nat.le_trans
abbrev abw:=@List.getElem?_of_mem
abbrev abx:=@Bool.not_eq_true'
abbrev aby:=@List.all_append
abbrev abz:=@List.mem_cons_self
abbrev abA:=@List.getD_eq_getElem?_getD
abbrev abB:=@List.map_cons
abbrev abC:=@of_decide_eq_true
abbrev abD:=@Int.toNat_natCast
abbrev abE:=@Bool.false_eq_true
abbrev abF:=@List.length_take
abbrev abG:=@Bool.eq_iff_iff
abbrev abH:=@List.getElem?_append_right
abbrev abI:=@List.getElem?_drop
abbrev abJ:=@Bool.not_true
abbrev abK:=@List.mem_cons
abbrev abL:=@Option.map_some
abbrev abM:=@List.nil_append
abbrev abN:=@Array.getElem?_setIfInBounds_ne
abbrev abO:=@Option.bind_some
abbrev abP:=@List.mem_cons_of_mem
abbrev abQ:=@List.append_nil
abbrev abR:=@List.take_append_drop
abbrev abS:=@Bool.or_eq_true
abbrev abT:=@List.mem_append
abbrev abU:=@Array.getElem?_eq_getElem
abbrev abV:=@List.cons_append
abbrev abW:=@Bool.false_or
abbrev abX:=@Nat.mul_le_mul_right
abbrev abY:=@Nat.add_mul
abbrev abZ:=@Nat.lt_of_lt_of_le
abbrev ab0:=@beq_iff_eq
abbrev ab1:=@List.foldl_cons
abbrev ab2:=@Nat.min_eq_left
abbrev ab3:=@List.any_eq_false
abbrev ab4:=@List.take_length
abbrev ab5:=@List.any_eq_true
abbrev ab6:=@Array.getD_eq_getD_getElem?
abbrev ab7:=@List.pairwise_cons
abbrev ab8:=@List.mem_singleton
abbrev ab9:=@List.eq_nil_of_length_eq_zero
abbrev aca:=@List.getElem?_eq_none
abbrev acb:=@Bool.not_false
abbrev acd:=@List.mem_map
abbrev ace:=@decide_true
abbrev acf:=@List.getElem?_append
abbrev acg:=@beq_self_eq_true
abbrev ach:=@Nat.zero_add
abbrev aci:=@Bool.or_false
abbrev acj:=@Option.getD_some
abbrev acm:=@List.getElem?_cons_zero
abbrev acn:=@List.drop_eq_getElem_cons
abbrev aco:=@of_decide_eq_false
abbrev acp:=@List.mem_filter
abbrev acq:=@Bool.or_eq_false_iff
abbrev acr:=@List.set_append_left
abbrev acs:=@List.getElem?_map
abbrev acu:=@List.take_add_one
abbrev acv:=@Bool.or_true
abbrev acw:=@List.mem_append_left
abbrev acx:=@List.pairwise_append
abbrev acy:=@Bool.and_true
abbrev acz:=@List.nodup_append
abbrev acA:=@Bool.or_self
abbrev acB:=@beq_eq_false_iff_ne
abbrev acD:=@Int.mul_le_mul_of_nonneg_left
abbrev acF:=@Bool.true_or
abbrev acG:=@List.mem_iff_getElem?
abbrev acH:=@Bool.and_eq_false_iff
abbrev acI:=@Nat.lt_trichotomy
abbrev acJ:=@Int.tdiv_eq_ediv_of_nonneg
abbrev acK:=@Int.tmod_eq_emod_of_nonneg
abbrev acL:=@Nat.add_zero
abbrev acM:=@List.drop_of_length_le
abbrev acN:=@Classical.byContradiction
abbrev acO:=@Array.getElem?_push
abbrev acP:=@List.replicate_succ
abbrev acQ:=@Nat.ne_of_lt
abbrev acR:=@List.getElem?_toArray
abbrev acU:=@List.ext_getElem?
abbrev acV:=@Option.some.inj
abbrev acW:=@Nat.one_mul
abbrev acX:=@Nat.le_of_eq
abbrev acY:=@List.length_eq_one_iff
abbrev acZ:=@List.getElem?_range
abbrev ac0:=@List.replicate_zero
abbrev ac1:=@Array.eq_empty_of_size_eq_zero
abbrev ac2:=@decide_false
abbrev ac3:=@List.nodup_cons
abbrev ac4:=@Option.isSome_some
abbrev ac5:=@Bool.not_eq_true
abbrev ac6:=@List.getElem?_replicate
abbrev ac7:=@List.filter_cons_of_pos
abbrev ac8:=@Int.eq_ofNat_of_zero_le
abbrev ac9:=@Nat.max_zero
abbrev ada:=@Array.length_toList
abbrev adb:=@Nat.zero_le
abbrev ade:=@Int.fdiv_eq_ediv_of_nonneg
abbrev adf:=@decide_eq_decide
abbrev adg:=@List.map_nil
abbrev adh:=@List.mem_append_right
abbrev adi:=@Nat.lt_irrefl
abbrev adj:=@List.drop_zero
abbrev adk:=@List.exists_mem_of_ne_nil
abbrev adl:=@Nat.pow_le_pow_right
abbrev adm:=@Bool.and_eq_true_iff
abbrev adn:=@List.take_zero
abbrev ado:=@Array.getElem?_eq_none
abbrev adp:=@Array.ext_getElem?
abbrev adq:=@Int.emod_lt_of_pos
abbrev adr:=@Option.isSome_none
abbrev adt:=@Option.map_none
abbrev adu:=@List.singleton_append
abbrev adv:=@Classical.choose_spec
abbrev adw:=@List.set_append_right
abbrev adx:=@BitVec.xor_zero
abbrev ady:=@List.getElem?_set
abbrev adz:=@List.length_range
abbrev adA:=@Array.getElem?_append_left
abbrev adB:=@BitVec.getLsbD_ushiftRight
abbrev adC:=@List.getElem?_mapIdx
abbrev adD:=@List.mem_of_mem_take
abbrev adE:=@List.pairwise_iff_getElem
abbrev adF:=@List.mem_flatten
abbrev adG:=@List.map_toArray
abbrev adH:=@Nat.zero_mul
abbrev adI:=@BitVec.getLsbD_shiftLeft
abbrev adJ:=@Nat.zero_max
abbrev adK:=@List.set_set
abbrev adL:=@List.getElem?_cons_succ
abbrev adM:=@List.set_cons_zero
abbrev adN:=@Nat.add_sub_cancel
abbrev adO:=@Nat.add_sub_cancel_left
abbrev adP:=@Int.emod_nonneg
abbrev adQ:=@Int.natCast_pow
abbrev adR:=@BitVec.toNat_ofInt
abbrev adS:=@Array.getElem?_extract
abbrev adT:=@List.flatten_cons
abbrev adU:=@List.reverse_cons
abbrev adV:=@Int.le_refl
abbrev adW:=@Bool.eq_false_iff
abbrev adX:=@List.nodup_nil
abbrev adY:=@List.take_left
abbrev adZ:=@Array.getElem?_toList
abbrev ad0:=@Array.getElem?_modify
abbrev ad1:=@Nat.mul_comm
abbrev ad2:=@List.eq_nil_or_concat
abbrev ad3:=@Nat.sub_self
abbrev ad4:=@List.length_drop
abbrev ad5:=@List.range_eq_range'
abbrev ad6:=@List.mem_of_mem_drop
abbrev ad7:=@List.length_pos_iff
abbrev ad8:=@List.cons.injEq
abbrev ad9:=@BitVec.xor_self
abbrev aea:=@Nat.lt_or_gt_of_ne
abbrev aeb:=@Int.mul_comm
abbrev aec:=@Int.cast_ofNat_Int
abbrev aed:=@Bool.false_ne_true
abbrev aee:=@List.mem_replicate
abbrev aef:=@Bool.and_assoc
abbrev aeg:=@Nat.mul_le_mul
abbrev aeh:=@Int.mul_nonneg
abbrev aei:=@UInt8.toNat_lt
abbrev aej:=@List.drop_left
abbrev aek:=@List.foldl_append
abbrev ael:=@List.any_cons
abbrev aem:=@List.foldlM_cons
abbrev aen:=@Nat.mod_eq_of_lt
abbrev aeo:=@List.nodup_range
abbrev aep:=@Bool.cond_eq_ite
abbrev aeq:=@BitVec.toNat_and
abbrev aer:=@Nat.add_comm
abbrev aes:=@List.length_map
abbrev aet:=@Int.natCast_mul
abbrev aeu:=@Nat.mod_lt
abbrev aev:=@List.foldl_nil
inductive SV where
 |undef
 |iX
 |bool (b:Bool)
 |int (k:IntKind) (n:Int)
 |str (s:ByteArray)
 |dc
 |ptr (b cB i o:Nat)
 |fN (cs:List SV)
 |ay (z:Nat) (L:List (List SV)) (full:Bool)
 |bp (b cB off len:Nat)
 |agg (cs:List SV)
 |bk (vs:List SV)
 |fn (f:FuncId) (caps:List SV)
 |oX (f:FuncId) (firsts:List SV)
 |dg
 |fA (b:Nat)
 |mp (b:Nat)
 deriving Inhabited
inductive bZ where
 |t (n:Nat)
 |c (v:SV)
inductive LK where|b|i|s
inductive NK where|p|f|s
inductive lr where
 |eg (x:bZ)
 |pick (c a b:bZ)
 |box (x:bZ)
 |alloc (z:List SV)
 |oe (z:Nat)
 |build (z:List SV) (ps:List (Nat×Nat×bZ))
 |fL (bT:Nat) (z:List SV) (n:Nat) (ps:List (Nat×bZ))
 |dz (bT:Nat) (z:List SV) (n:Nat) (ps:List (Nat×bZ))
 |load (ag:Bool) (n:Nat) (a:bZ)
 |store (n:Nat) (a x:bZ)
 |eb (x:bZ)
 |bin (op:BinOp) (x y:bZ)
 |re (op:BinOp) (x y:bZ)
 |dG (neg:Bool) (sh:List LK) (x y:bZ)
 |cQ (x:bZ)
 |isNil (k:NK) (neg:Bool) (x:bZ)
 |vC (x:bZ)
 |cA (k:IntKind) (x:bZ)
 |sb (x:bZ)
 |jA (x:bZ)
 |qM (x:bZ)
 |ib (f:FuncId) (cs:List bZ)
 |lI (f:FuncId) (cs:List bZ)
 |dO (bT:Nat) (z:List SV) (bytes:Nat) (l c:bZ)
 |fw (bT:Nat) (x:bZ) (lo hi mx:Option bZ)
 |oA (x:bZ) (lo hi:Option bZ)
 |af (off:Nat) (x:bZ)
 |field (ag:Bool) (n off:Nat) (x:bZ)
 |ba (bT:Nat) (x ix:bZ)
 |gq (len bT:Nat) (x ix:bZ)
 |n8 (ag:Bool) (n len:Nat) (x ix:bZ)
 |fM (x ix:bZ)
 |extract (x:bZ) (i:Nat)
 |len (x:bZ)
 |fC (x:bZ)
 |yJ (n:Nat)
 |gU (xs:List bZ)
 |jO (xs:List bZ)
 |append (bT bytes:Nat) (s x:bZ)
 |po (s x:bZ)
 |copy (bT:Nat) (d x:bZ)
 |clear (bT:Nat) (z:List SV) (x:bZ)
 |mT
 |na (t:LK) (x k v:bZ)
 |mN (t:LK) (ok:Bool) (z:SV) (x k:bZ)
 |call (f:bZ) (xs:List bZ)
 |eK (f:FuncId) (n:Nat) (xs:List bZ)
 |iD (f:FuncId) (xs:List bZ)
 |bad
inductive DK where|pure|gA|jI|wr (rd:List (bZ×Nat))
structure bI where
 kind:DK
 fg:List Nat
 vZ:Nat
 kC:Nat
structure aS where
 dst:Option Nat
 op:lr
 g:Option (Nat×Bool)
structure cr where
 live:List Nat
 bE:List (Nat×Nat)
inductive lG where|normal|exit (id:Nat)|ret
inductive cw where
 |skip
 |ops (l:List aS)
 |drawn (l:List (aS×bI))
 |perm (l:List aS) (os:List (List Nat))
 |seq (a b:cw)
 |cond (c:bZ) (a b:cw)
 |block (id:Nat) (a:cw)
 |loop (p:cr) (a:cw)
 |freeze (t:Nat)
 |bE (vs:List (Nat×Nat))
 |I6 (d:Nat) (neg:Bool) (x:bZ) (c:cw)
 |gW (f:bZ) (ps:List Nat) (assign body:cw)
 |ext (k:Nat)
 |exit (id:Nat)
 |ret
abbrev Env:=List (Nat×SV)
structure eU where
 env:Env
 ps:List Nat
 assign:cw
 body:cw
inductive aK where
 |dead
 |box (cs:List SV)
 |arr (cB z:Nat) (L:List (List SV)) (exact:Bool)
 |loop (r:eU) (st:LoopState) (pend:lG)
 |map (es:List (SV×SV))
structure ae where
 bl:List aK
 bV:List (Nat×Nat)
 ro:Nat
inductive P3 where|fn (f:FuncId)|fA (b:Nat)|qX (f:FuncId)
abbrev Rec:=P3→List SV→ae→Option (SV×ae)
inductive vc where|tmp (t:Nat)|cell (t:Nat)(ag:Bool)(n:Nat)
structure aC where
 res:List vc
 body:cw
 keep:Bool
def SV.jg:SV→Bool
 | .undef=>false
 | .iX=>false
 | .agg _=>false
 | .bk _=>false
 |_=>true
def cu:SV→Option (List SV)
 | .agg cs=>some cs
 |v=>bif v.jg then some [v]else none
def SV.refs:SV→Nat
 | .ptr b _ _ _=>b+1
 | .bp b _ _ _=>b+1
 | .fA b=>b+1
 | .mp b=>b+1
 | .agg cs=>aJ cs
 | .bk cs=>aJ cs
 | .fn _ cs=>aJ cs
 | .oX _ cs=>aJ cs
 |_=>0
where aJ:List SV→Nat
 |[]=>0
 |v::vs=>max v.refs (aJ vs)
def get:Env→Nat→SV
 |[],_=>.undef
 |(j,v)::e,i=>bif i==j then v else get e i
def ev(e:Env):bZ→SV
 | .t n=>get e n
 | .c v=>v
def bn(H:ae)(b:Nat):Option aK:=H.bl[b]?
def cz(H:ae)(b:Nat)(x:aK)(refs:Nat):Option ae:=
 bif decide (H.ro≤b)&&decide (b<H.bl.length)then some {H with bl:=H.bl.set b x,bV:=bif decide (refs≤b+1)then H.bV else(b,refs)::H.bV} else none
def bM(H:ae)(x:aK):ae:={H with bl:=H.bl++[x]}
def nG(z:Nat)(H:ae):SV→Option (List (List SV))
 | .ay z' L _=>bif z'==z||L.isEmpty then some L else none
 | .bp b v off n=>match bn H b with
   |some (.arr v' z' L _)=>bif v==v'&&z'==z&&decide (off+n≤L.length)then some ((L.drop off).take n)else none
   |_=>none
 |_=>none
def pc:SV→Option Nat
 | .ay _ L _=>some L.length
 | .bp _ _ _ n=>some n
 |_=>none
def cX(ag:Bool)(n:Nat)(cs:List SV)(o:Nat):Option SV:=
 bif ag then(bif decide (o+n≤cs.length)then some (.agg ((cs.drop o).take n))else none)else cs[o]?
def fJ(cs:List SV)(o n:Nat)(x:List SV):List SV:=cs.take o++x++cs.drop (o+n)
def kB:SV→SV→SV→Option SV
 | .bool t,.bool x,.bool y=>some (.bool (bif t then x else y))
 | .bool t,x,y=>bif t then some x else some y
 |_,_,_=>none
def gJ(ev:bZ→SV):List SV→List (Nat×Nat×bZ)→Option (List SV)
 |z,[]=>some z
 |z,(off,n,x)::ps=>
  (cu (ev x)).bind fun cs=>bif cs.length==n&&decide (off+n≤z.length)then gJ ev (fJ z off n cs) ps else none
def eQ(ev:bZ→SV)(bT:Nat):List (List SV)→List (Nat×bZ)→Option (List (List SV))
 |z,[]=>some z
 |z,(i,x)::ps=>(cu (ev x)).bind fun cs=>bif cs.length==bT&&decide (i<z.length)then eQ ev bT (z.set i cs) ps else none
def db(ag:Bool)(n:Nat)(H:ae):SV→Option SV
 | .ptr b v i o=>match bn H b with
   |some (.box cs)=>bif i==0 then cX ag n cs o else none
   |some (.arr v' _ L _)=>bif v==v' then match L[i]? with
    |some cs=>cX ag n cs o
    |none=>none else none
   |_=>none
 | .fN cs=>cX ag n cs 0
 |_=>none
def dZ(n:Nat)(H:ae)(x:SV):SV→Option ae
 | .ptr b v i o=>(cu x).bind fun xs=>bif xs.length==n then match bn H b with
   |some (.box cs)=>bif i==0&&decide (o+n≤cs.length)then cz H b (.box (fJ cs o n xs)) x.refs else none
   |some (.arr v' z L e)=>bif v==v' then match L[i]? with
    |some cs=>bif decide (o+n≤cs.length)then cz H b (.arr v z (L.set i (fJ cs o n xs)) e) x.refs else none
    |none=>none else none
   |_=>none else none
 |_=>none
def cS:BinOp→SV→SV→Option SV
 | .add,.int k a,.int k2 b=>bif k==k2 then some (.int k (k.wrap (a+b)))else none
 | .sub,.int k a,.int k2 b=>bif k==k2 then some (.int k (k.wrap (a-b)))else none
 | .mul,.int k a,.int k2 b=>bif k==k2 then some (.int k (k.wrap (a*b)))else none
 | .quo,.int k a,.int k2 b=>bif k==k2&&!decide (b=0)then some (.int k (k.wrap (a.tdiv b)))else none
 | .rem,.int k a,.int k2 b=>bif k==k2&&!decide (b=0)then some (.int k (a.tmod b))else none
 | .and,.int k a,.int k2 b=>bif k==k2 then some (.int k (k.wrap ((BitVec.ofInt k.bits a&&&BitVec.ofInt k.bits b).toNat)))else none
 | .or,.int k a,.int k2 b=>bif k==k2 then some (.int k (k.wrap ((BitVec.ofInt k.bits a|||BitVec.ofInt k.bits b).toNat)))else none
 | .xor,.int k a,.int k2 b=>bif k==k2 then some (.int k (k.wrap ((BitVec.ofInt k.bits a ^^^ BitVec.ofInt k.bits b).toNat)))else none
 | .shl,.int k a,.int _ b=>bif decide (0≤b)then some (.int k (k.wrap (a*2 ^ (min b.toNat k.bits))))else none
 | .shr,.int k a,.int _ b=>bif decide (0≤b)then some (.int k (a.fdiv (2 ^ (min b.toNat k.bits))))else none
 | .lss,.int k a,.int k2 b=>bif k==k2 then some (.bool (decide (a<b)))else none
 | .leq,.int k a,.int k2 b=>bif k==k2 then some (.bool (decide (a≤b)))else none
 | .gtr,.int k a,.int k2 b=>bif k==k2 then some (.bool (decide (b<a)))else none
 | .geq,.int k a,.int k2 b=>bif k==k2 then some (.bool (decide (b≤a)))else none
 | .eql,.int k a,.int k2 b=>bif k==k2 then some (.bool (decide (a=b)))else none
 | .neq,.int k a,.int k2 b=>bif k==k2 then some (.bool (!decide (a=b)))else none
 | .eql,.str a,.str b=>some (.bool (decide (a=b)))
 | .neq,.str a,.str b=>some (.bool (!decide (a=b)))
 | .add,.str a,.str b=>bif decide (a.size+b.size≤4611686018427387904)then some (.str (a++b))else none
 |_,_,_=>none
def vp:BinOp→SV→SV→Option SV
 | .eql,.bool a,.bool b=>some (.bool (a==b))
 | .neq,.bool a,.bool b=>some (.bool (!(a==b)))
 |_,_,_=>none
def bB:List LK→List SV→List SV→Option Bool
 |[],[],[]=>some true
 | .i::sh,.int k a::x,.int k2 b::y=>bif k==k2 then(bB sh x y).map (fun r=>decide (a=b)&&r)else none
 | .b::sh,.bool a::x,.bool b::y=>(bB sh x y).map (fun r=>(a==b)&&r)
 | .s::sh,.str a::x,.str b::y=>(bB sh x y).map (fun r=>decide (a=b)&&r)
 |_,_,_=>none
def iC(n:Nat):SV→Option Nat
 | .int _ i=>bif decide (0≤i)&&decide (i<(n:Int))then some i.toNat else none
 |_=>none
def Av(y:Nat):SV→Option Nat
 | .int _ i=>bif decide (0≤i)&&decide (i≤(y:Int))then some i.toNat else none
 |_=>none
def gk(y d:Nat):Option SV→Option Nat
 |none=>some d
 |some v=>Av y v
def iy(v:SV)(ix:SV):Option SV:=match v with
 | .ay _ L _=>(iC L.length ix).bind fun i=>(L[i]?).map .fN
 | .bp b v off n=>(iC n ix).map fun i=>.ptr b v (off+i) 0
 |_=>none
def mm(x:SV)(lo hi mx:Option SV):Option SV:=match x with
 | .ay z L f=>(gk L.length L.length mx).bind fun m=>(gk m L.length hi).bind fun h=>(gk h 0 lo).map fun l=>
    .ay z ((L.take h).drop l) (match mx with|none=>f&&h==L.length|some _=>m==h)
 | .bp b v off n=>match mx with
   |none=>(gk n n hi).bind fun h=>(gk h 0 lo).map fun l=>.bp b v (off+l) (h-l)
   |some _=>(gk n n mx).bind fun m=>(gk m n hi).bind fun h=>(gk h 0 lo).bind fun l=>some (bif m==l then .ay 0 [] true else .undef)
 |_=>none
def iv(H:ae)(x:SV)(lo hi mx:Option SV):Option SV:=match x,hi,mx with
 | .bp b v off _,some hv,none=>match bn H b with
   |some (.arr _ _ L _)=>(Av (L.length-off) hv).bind fun h=>(gk h 0 lo).map fun l=>.bp b v (off+l) (h-l)
   |_=>none
 |_,_,_=>none
def tT(s:ByteArray)(lo hi:Option SV):Option SV:=
 (gk s.size s.size hi).bind fun h=>(gk h 0 lo).map fun l=>.str (s.extract l h)
def foldI(f:Int→Int→Int):Int→IntKind→List SV→Option SV
 |a,k,[]=>some (.int k a)
 |a,k,.int k2 b::r=>bif k==k2 then foldI f (f a b) k r else none
 |_,_,_=>none
def kq(f:Int→Int→Int):List SV→Option SV
 | .int k a::r=>foldI f a k r
 |_=>none
def bX:Nat:=1099511627776
def gB(bT bytes:Nat)(H:ae)(s:SV)(X:List (List SV)):Option (SV×ae):=match s with
 | .ay z L f=>bif decide ((L.length+X.length)*bytes≤bX)then match L,X with
   |[],X=>bif f then some (.bp H.bl.length 0 0 X.length,bM H (.arr 0 bT X false))else none
   |L,[]=>some (.ay z L f,H)
   |L,X=>bif f&&z==bT then some (.bp H.bl.length 0 0 (L.length+X.length),bM H (.arr 0 bT (L++X) false))else none else none
 | .bp b v off n=>bif decide ((n+X.length)*bytes≤bX)then match bn H b with
   |some (.arr v' z L e)=>bif v==v'&&z==bT&&decide (off+n≤L.length)then
     bif !e&&off==0&&n==L.length then
      (cz H b (.arr (v+1) z (L++X) false) (SV.refs.aJ X.flatten)).map fun H=>(.bp b (v+1) off (n+X.length),H)
     else bif decide (off+n+X.length≤L.length)then
      (cz H b (.arr v z (L.take (off+n)++X++L.drop (off+n+X.length)) e) (SV.refs.aJ X.flatten)).map fun H=>(.bp b v off (n+X.length),H)
     else bif e then some (.bp H.bl.length 0 0 (n+X.length),bM H (.arr 0 z ((L.drop off).take n++X) false))
     else none
    else none
   |_=>none else none
 |_=>none
def me(s:ByteArray):List (List SV):=s.data.toList.map fun b=>[.int .u8 b.toNat]
def toBytes:List (List SV)→Option (List UInt8)
 |[]=>some []
 |[.int .u8 n]::r=>(toBytes r).map fun l=>UInt8.ofNat n.toNat::l
 |_=>none
def z8(bT:Nat)(H:ae)(X:List (List SV)):SV→Option (SV×ae)
 | .bp b v off n=>match bn H b with
   |some (.arr v' z L e)=>bif v==v'&&z==bT&&decide (off+n≤L.length)then
     (cz H b (.arr v z (L.take off++X.take n++L.drop (off+min X.length n)) e) (SV.refs.aJ X.flatten)).map fun H=>(.int .i64 (min X.length n:Nat),H)
    else none
   |_=>none
 |_=>none
def xp(bT:Nat)(z:List SV)(H:ae):SV→Option (SV×ae)
 | .ay _ [] _=>some (.undef,H)
 | .bp b v off n=>match bn H b with
   |some (.arr v' z' L e)=>bif v==v'&&z'==bT&&decide (off+n≤L.length)then
     (cz H b (.arr v z' (L.take off++List.replicate n z++L.drop (off+n)) e) 0).map fun H=>(.undef,H)
    else none
   |_=>none
 |_=>none
def iG(bT:Nat)(z:List SV)(bytes:Nat)(H:ae):SV→SV→Option (SV×ae)
 | .int .i64 l,.int .i64 c=>bif decide (0≤l)&&decide (l≤c)&&decide (c*bytes≤bX)then
    some (.bp H.bl.length 0 0 l.toNat,bM H (.arr 0 bT (List.replicate c.toNat z) true))else none
 |_,_=>none
def fp(off:Nat):SV→Option SV
 | .ptr b v i o=>some (.ptr b v i (o+off))
 | .fN cs=>some (.fN (cs.drop off))
 |_=>none
def cur(H:ae):SV→Bool
 | .ptr b v _ _=>match bn H b with
   |some (.box _)=>true
   |some (.arr v' _ _ _)=>v==v'
   |_=>false
 | .bp b v _ _=>match bn H b with
   |some (.arr v' _ _ _)=>v==v'
   |_=>false
 |_=>true
def ed(H:ae)(z:Nat):SV→Bool
 | .bp b v _ _=>match bn H b with
   |some (.arr v' z' _ _)=>v==v'&&z'==z
   |_=>false
 | .ay z' L _=>z'==z||L.isEmpty
 |_=>false
def ld:SV→Option SV
 | .ptr b v i o=>some (.ptr b v i o)
 | .fN cs=>some (.fN cs)
 |_=>none
def fI(H:ae):NK→SV→Option Bool
 | .p,.dc=>some true
 | .p,.ptr b v i o=>bif cur H (.ptr b v i o)then some false else none
 | .p,.fN _=>some false
 | .f,.dg=>some true
 | .f,.fn _ _=>some false
 | .f,.fA _=>some false
 | .s,.ay _ L _=>bif L.isEmpty then none else some false
 | .s,.bp b v off n=>bif cur H (.bp b v off n)&&decide (0<n)then some false else none
 |_,_=>none
def EB(H:ae):SV→Option Bool
 | .ay _ L _=>some L.isEmpty
 | .bp b v off n=>bif cur H (.bp b v off n)then some (n==0)else none
 |_=>none
def so:LK→SV→SV→Option Bool
 | .i,.int k a,.int k' b=>bif k==k' then some (a==b)else none
 | .s,.str a,.str b=>some (a==b)
 | .b,.bool a,.bool b=>some (a==b)
 |_,_,_=>none
def jK(t:LK)(k:SV):List (SV×SV)→Nat→Option (Option (Nat×SV))
 |[],_=>some none
 |(q,v)::es,i=>(so t k q).bind fun b=>bif b then some (some (i,v))else jK t k es (i+1)
def isKey:SV→Bool
 | .int _ _| .str _| .bool _=>true
 |_=>false
def zZ(k v:SV)(es:List (SV×SV)):Option (Nat×SV)→List (SV×SV)
 |some (i,_)=>es.set i (k,v)
 |none=>es++[(k,v)]
def qy(t:LK)(H:ae)(k v:SV):SV→Option (SV×ae)
 | .mp b=>match bn H b with
   |some (.map es)=>bif isKey k&&v.jg then(jK t k es 0).bind fun r=>(cz H b (.map (zZ k v es r)) v.refs).map (.undef,·)else none
   |_=>none
 |_=>none
def nK(t:LK)(ok:Bool)(z:SV)(H:ae)(k:SV):SV→Option (SV×ae)
 | .mp b=>match bn H b with
   |some (.map es)=>bif isKey k then(jK t k es 0).map fun r=>(match r with
    |some (_,v)=>bif ok then .bk [v,.bool true]else v
    |none=>bif ok then .bk [z,.bool false]else z,H)else none
   |_=>none
 |_=>none
def cf(e:Env)(H:ae):lr→Option (SV×ae)
 | .eg x=>some (ev e x,H)
 | .pick c a b=>(kB (ev e c) (ev e a) (ev e b)).map (·,H)
 | .box x=>(cu (ev e x)).map fun cs=>(.ptr H.bl.length 0 0 0,bM H (.box cs))
 | .alloc z=>some (.ptr H.bl.length 0 0 0,bM H (.box z))
 | .oe z=>(cz (bM (bM H (.arr 0 z [] false)) (.box [.ay 0 [] true])) (H.bl.length+1) (.box [.bp H.bl.length 0 0 0]) (H.bl.length+1)).map fun H'=>(.ptr (H.bl.length+1) 0 0 0,H')
 | .build z ps=>(gJ (ev e) z ps).map (.agg ·,H)
 | .fL bT z n ps=>(eQ (ev e) bT (List.replicate n z) ps).map fun L=>(.bp H.bl.length 0 0 n,bM H (.arr 0 bT L true))
 | .dz bT z n ps=>((eQ (ev e) bT (List.replicate n z) ps).bind fun L=>bif SV.refs.aJ L.flatten==0 then some (.ay bT L true)else none).map (·,H)
 | .load ag n a=>(db ag n H (ev e a)).map (·,H)
 | .store n a x=>(dZ n H (ev e x) (ev e a)).map (.undef,·)
 | .eb x=>bif cur H (ev e x)then(ld (ev e x)).map (·,H)else none
 | .bin op x y=>(cS op (ev e x) (ev e y)).map (·,H)
 | .re op x y=>(vp op (ev e x) (ev e y)).map (·,H)
 | .dG neg sh x y=>match ev e x,ev e y with
   | .agg a,.agg b=>(bB sh a b).map fun r=>(.bool (neg ^^ r),H)
   |_,_=>none
 | .cQ x=>match ev e x with| .bool b=>some (.bool (!b),H)|_=>none
 | .isNil k neg x=>(fI H k (ev e x)).map fun b=>(.bool (neg ^^ b),H)
 | .vC x=>match ev e x with| .int k n=>some (.int k (k.wrap (0-n)),H)|_=>none
 | .cA k x=>match ev e x with| .int _ n=>some (.int k (k.wrap n),H)|_=>none
 | .sb x=>match ev e x with| .str s=>some (.str s,H)|_=>none
 | .jA x=>(nG 1 H (ev e x)).bind fun L=>(toBytes L).map fun l=>(.str ⟨l.toArray⟩,H)
 | .qM x=>match ev e x with| .str s=>some (.bp H.bl.length 0 0 s.size,bM H (.arr 0 1 (me s) false))|_=>none
 | .ib f cs=>some (.fn f (cs.map (ev e)),H)
 | .lI f cs=>some (.oX f (cs.map (ev e)),H)
 | .dO bT z bytes l c=>iG bT z bytes H (ev e l) (ev e c)
 | .fw bT x lo hi mx=>bif ed H bT (ev e x)then((mm (ev e x) (lo.map (ev e)) (hi.map (ev e)) (mx.map (ev e))).orElse fun _=>iv H (ev e x) (lo.map (ev e)) (hi.map (ev e)) (mx.map (ev e))).map (·,H)else none
 | .oA x lo hi=>match ev e x with| .str s=>(tT s (lo.map (ev e)) (hi.map (ev e))).map (·,H)|_=>none
 | .af off x=>bif cur H (ev e x)then(fp off (ev e x)).map (·,H)else none
 | .field ag n off x=>match ev e x with| .agg cs=>(cX ag n cs off).map (·,H)|_=>none
 | .ba bT x ix=>bif ed H bT (ev e x)then(iy (ev e x) (ev e ix)).map (·,H)else none
 | .gq len bT x ix=>bif cur H (ev e x)then(iC len (ev e ix)).bind fun i=>(fp (i*bT) (ev e x)).map (·,H)else none
 | .n8 ag n len x ix=>match ev e x with| .agg cs=>(iC len (ev e ix)).bind fun i=>(cX ag n cs (i*n)).map (·,H)|_=>none
 | .fM x ix=>match ev e x with| .str s=>(iC s.size (ev e ix)).bind fun i=>(s.data[i]?).map fun b=>(.int .u8 b.toNat,H)|_=>none
 | .extract x i=>match ev e x with| .bk vs=>(vs[i]?).map (·,H)|_=>none
 | .len x=>bif cur H (ev e x)then(pc (ev e x)).map fun(n:Nat)=>(.int .i64 n,H)else none
 | .fC x=>match ev e x with| .str s=>some (.int .i64 s.size,H)|_=>none
 | .yJ n=>some (.int .i64 n,H)
 | .gU xs=>(kq (fun a b=>if b>a then b else a) (xs.map (ev e))).map (·,H)
 | .jO xs=>(kq (fun a b=>if b<a then b else a) (xs.map (ev e))).map (·,H)
 | .append bT bytes s x=>(nG bT H (ev e x)).bind (gB bT bytes H (ev e s))
 | .po s x=>match ev e x with| .str b=>gB 1 1 H (ev e s) (me b)|_=>none
 | .copy bT d x=>(nG bT H (ev e x)).bind fun X=>z8 bT H X (ev e d)
 | .clear bT z x=>xp bT z H (ev e x)
 | .mT=>some (.mp H.bl.length,bM H (.map []))
 | .na t x k v=>qy t H (ev e k) (ev e v) (ev e x)
 | .mN t ok z x k=>nK t ok z H (ev e k) (ev e x)
 | .call _ _=>none
 | .eK _ _ _=>none
 | .iD _ _=>none
 | .bad=>none
abbrev oK{A:Type}(_:A):Type:=Unit
section
variable{R:Type}
def fork(b:Bool)(x y:R)(_:oK (x,y)):R:=bif b then x else y
def pU(v:SV)(f:Bool→Option R)(_:oK f):Option R:=match v with| .bool b=>f b|_=>none
def fo(v:SV)(w:Bool)(f:Bool→Option R)(_:oK f):Option R:=match v with| .bool b=>f (b==w)| .iX=>f false|_=>none
def aT{A:Type}(v:Option A)(f:A→Option R)(_:oK f):Option R:=match v with|some v=>f v|none=>none
open Classical in
noncomputable def Au (v:Option Bool) (neg:Bool) (f:Bool→Option R) (_:oK f):Option R:=match v with
 |none=>none
 |some false=>f neg
 |some true=>if f true=f false then f true else none
end
def cj(e:Env):Option Nat→SV→Env
 |none,_=>e
 |some d,v=>(d,v)::e
def kE(rec:Rec)(f:SV)(xs:List SV)(H:ae):Option (SV×ae):=match f with
 | .fn f cs=>rec (.fn f) (xs++cs) H
 | .oX f cs=>rec (.fn f) (cs++xs) H
 | .fA b=>rec (.fA b) xs H
 |_=>none
def oR(rec:Rec)(f:SV)(xs:List SV)(H:ae):Option (SV×ae):=match f with
 | .fn f cs=>rec (.fn f) (xs++cs) H
 |_=>none
def bQ{A:Type}:List (Option A)→Option (List A)
 |[]=>some []
 |some a::r=>(bQ r).map (a:: ·)
 |none::_=>none
def cE:Nat:=8
def eh(N:Nat)(H:ae):Nat→SV→Option SV
 |0,_=>none
 |d+1,v=>match v with
  | .agg cs=>(bQ (cs.map (eh N H d))).map .agg
  | .bk cs=>(bQ (cs.map (eh N H d))).map .bk
  | .bp b cB off n=>bif decide (b<N)then some v else match bn H b with
    |some (.arr ver' z L ex)=>bif cB==ver'&&decide (off+n≤L.length)then
      (bQ (((L.drop off).take n).map fun cs=>bQ (cs.map (eh N H d)))).bind fun L'=>
       bif SV.refs.aJ L'.flatten==0 then some (.ay z L' (ex&&off+n==L.length))else none
     else none
    |_=>none
  | .int k n=>some (.int k n)
  | .bool b=>some (.bool b)
  | .ay z L f=>some (.ay z L f)
  |v=>bif decide (v.refs≤N)then some v else none
def jH:SV→Bool
 | .int _ _| .bool _| .str _=>true
 |_=>false
def xk:SV→Bool
 | .bk vs=>vs.all jH
 | .agg vs=>vs.all jH
 |v=>jH v
def rK(rec:Rec)(f:FuncId)(xs:List SV)(H:ae):Option (SV×ae):=
 (bQ (xs.map (eh 0 H cE))).bind fun vs=>(rec (.fn f) vs {bl:=[],bV:=[],ro:=0}).bind fun r=>bif xk r.1 then some (r.1,H)else none
def az(rec:Rec)(e:Env)(H:ae):lr→Option (SV×ae)
 | .call f xs=>kE rec (ev e f) (xs.map (ev e)) H
 | .eK f _ xs=>rec (.qX f) (xs.map (ev e)) H
 | .iD f xs=>rK rec f (xs.map (ev e)) H
 |o=>cf e H o
def cm{R:Type}(rec:Rec):(l:List aS)→Env→ae→(k:Env→ae→Option R)→oK (l,k)→Option R
 |[],e,H,k,_=>k e H
 |o::os,e,H,k,_=>match o.g with
  |none=>aT (az rec e H o.op) (fun r=>cm rec os (cj e o.dst r.1) r.2 k ()) ()
  |some (t,w)=>fo (get e t) w (fun b=>fork b (aT (az rec e H o.op) (fun r=>cm rec os (cj e o.dst r.1) r.2 k ()) ())
    (cm rec os (cj e o.dst .iX) H k ()) ()) ()
def cD(N:Nat)(ds:List Nat)(l:List aK):List aK:=ds.foldl (fun l d=>l.set (N+d) .dead) l
def ux:SV→Nat→SV→Nat→Bool
 | .ptr b _ i o,m,.ptr b' _ i' o',n=>!(b==b')||!(i==i')||decide (o+m≤o')||decide (o'+n≤o)
 | .fN _,_,_,_=>true
 |_,_,_,_=>false
def Df(N:Nat)(hs:List Nat):SV→Bool
 | .ptr b _ _ _=>hs.all fun m=>!(N+m==b)
 |_=>false
def wF(rec:Rec)(N:Nat)(rd:List (bZ×Nat))(hs:List Nat)(e:Env)(H:ae):lr→Option (SV×ae)
 | .store n a x=>bif decide ((ev e x).refs≤N)&&Df N hs (ev e a)&&rd.all (fun q=>ux (ev e q.1) q.2 (ev e a) n)then(dZ n H (ev e x) (ev e a)).map (.undef,·)else none
 |_=>none
def cd(rec:Rec)(N:Nat)(d:bI)(e:Env)(H:ae)(o:lr):Option (SV×ae):=match d.kind with
 | .pure=>az rec e H o
 | .gA=>(az rec e H o).bind fun r=>bif decide (H.bl.length≤r.2.bl.length)then some r else none
 | .jI=>(az rec e {bl:=cD N d.fg H.bl,bV:=[],ro:=H.bl.length} o).bind fun r=>
    bif r.2.bl.length==H.bl.length+d.vZ&&r.2.bV.isEmpty then some (r.1,{H with bl:=H.bl++r.2.bl.drop H.bl.length})else none
 | .wr rd=>wF rec N rd d.fg e H o
def fG(d:bI)(N:Nat)(H:ae):Nat:=match d.kind with
 | .gA=>H.bl.length
 |_=>N
def iq(d:bI):Bool:=match d.kind with
 | .jI=>d.vZ==0
 | .wr _=>false
 |_=>true
def b9{R:Type}(rec:Rec):(l:List (aS×bI))→Nat→Env→ae→(k:Env→ae→Option R)→oK (l,k)→Option R
 |[],_,e,H,k,_=>k e H
 |(o,d)::os,N,e,H,k,_=>match o.g with
  |none=>aT (cd rec N d e H o.op) (fun r=>b9 rec os (fG d N r.2) (cj e o.dst r.1) r.2 k ()) ()
  |some (t,w)=>fo (get e t) w (fun b=>fork b (aT (cd rec N d e H o.op) (fun r=>b9 rec os (fG d N r.2) (cj e o.dst r.1) r.2 k ()) ())
    (bif iq d then b9 rec os (fG d N H) (cj e o.dst .iX) H k ()else none) ()) ()
def eL:List aS→Env→Env→Env
 |[],_,e0=>e0
 |⟨some d,_,_⟩::l,e,e0=>(d,get e d)::eL l e e0
 |⟨none,_,_⟩::l,e,e0=>eL l e e0
def yB:Option aS→List aS→List aS
 |some o,r=>o::r
 |none,r=>r
def cF(l:List aS):List Nat→List aS
 |[]=>[]
 |i::r=>yB l[i]? (cF l r)
def jo(rec:Rec)(l:List aS)(e:Env)(H:ae)(o:List Nat):Option (Env×ae):=cm rec (cF l o) e H (fun e' H'=>some (eL l e' e,H')) ()
open Classical in
noncomputable def iU {A:Type}:List (Option A)→Option A
 |[]=>none
 |[a]=>a
 |a::b::r=>if a=b then iU (b::r)else none
def Es(H:ae):SV→Option (SV×ae)
 | .bp b cB off n=>match bn H b with
   |some (.arr ver' z L _)=>bif cB==ver'&&decide (off+n≤L.length)&&SV.refs.aJ ((L.drop off).take n).flatten==0 then
     (cz H b .dead 0).map fun H=>(.ay z ((L.drop off).take n) false,H)
    else none
   |_=>none
 | .ay z L f=>some (.ay z L f,H)
 |_=>none
def da(N:Nat)(H0 H:ae):Option ae:=
 bif decide (N≤H.bl.length)&&H.bV.all (fun p=>!(decide (p.1<N)&&decide (N<p.2)))then
  some {bl:=H.bl.take N,bV:=H0.bV++H.bV.filter (fun p=>decide (p.1<N)),ro:=H0.ro} else none
def FH(H0 H:ae):ae:={bl:=H.bl,bV:=H0.bV++H.bV,ro:=H0.ro}
def dI(l:List Nat)(e:Env):Env:=l.map fun i=>(i,get e i)
def xF(H:ae)(b z j:Nat)(cs:List SV):Option SV→Option ae
 |some (.ay _ [] true)=>cz (bM H (.arr 0 z [] false)) b (.box (cs.set j (.bp H.bl.length 0 0 0))) (H.bl.length+1)
 |_=>none
def pI(H:ae)(b z:Nat):Option aK→Option ae
 |some (.box [.ay _ [] true])=>cz (bM H (.arr 0 z [] false)) b (.box [.bp H.bl.length 0 0 0]) (H.bl.length+1)
 |some (.box cs)=>xF H b (z%1000) (z/1000) cs (cs[z/1000]?)
 |_=>none
def ft:List (Nat×Nat)→Env→ae→Option (Env×ae)
 |[],e,H=>some (e,H)
 |(t,z)::r,e,H=>match get e t with
  | .ay _ [] true=>ft r ((t,.bp H.bl.length 0 0 0)::e) (bM H (.arr 0 z [] false))
  | .ptr b _ _ _=>(pI H b z (bn H b)).bind fun H=>ft r e H
  | .ay _ (_::_) true=>ft r e (bM H (.arr 0 z [] false))
  |_=>none
def p8(H:ae)(t h z b v n:Nat)(e:Env):Option aK→Option aK→Option (Env×ae)
 |some (.arr 0 _ [] _),some (.arr v' z' L ex)=>bif z'==z&&v==v'&&n==L.length&&decide (H.ro≤h)&&!(h==b)&&SV.refs.aJ L.flatten==0 then
   some ((t,.bp h (v+1) 0 n)::e,{H with bl:=(H.bl.set h (.arr (v+1) z L ex)).set b .dead})else none
 |_,_=>none
def dR:List (Nat×Nat)→Nat→Nat→Env→ae→Option (Env×ae)
 |[],_,_,e,H=>some (e,H)
 |(t,z)::r,h,N,e,H=>match get e t with
  | .bp b v 0 n=>bif decide (N≤b)&&decide (h<N)then(p8 H t h z b v n e (bn H h) (bn H b)).bind fun s=>dR r (h+1) N s.1 s.2 else dR r (h+1) N e H
  |_=>dR r (h+1) N e H
def jJ:List Nat→Bool
 |i::_=>i==999999
 |[]=>false
def vB(p:cr)(N:Nat)(H0:ae)(s:Env×ae):Option (Env×ae):=
 bif jJ p.live then some (dI p.live.tail s.1,s.2)else
 bif decide (SV.refs.aJ ((dI p.live s.1).map (·.2))≤N)then(da N H0 s.2).map fun H=>(dI p.live s.1,H)else none
def dX(p:cr)(N:Nat)(H0:ae)(s:Env×ae):Option (Env×ae):=
 (dR p.bE (N-p.bE.length) N s.1 s.2).bind (vB p N H0)
abbrev Out:=lG×Env×ae
def Kb(l:List UInt8):Nat→List UInt8
 |0=>[]
 |n+1=>l++Kb l n
def rj:Nat→List SV→Option SV
 |0,[.str s,.int .i64 n]=>bif decide (0≤n)&&decide (n≤1048576)&&decide (s.size≤1048576)then some (.str ⟨(Kb s.data.toList n.toNat).toArray⟩)else none
 |_,_=>none
def cL(f:Env×ae→Option Out):Nat→Env×ae→Option Out
 |0,_=>none
 |n+1,s=>match f s with
  |some (.normal,s')=>cL f n s'
  |r=>r
open Classical in
noncomputable def j5 (f:Env×ae→Option Out) (s:Env×ae):Option Out:=
 if h:∃n,(cL f n s).isSome then cL f (Classical.choose h) s else none
noncomputable def run {R:Type} (rec:Rec):(c:cw)→Env→ae→(k:lG→Env→ae→Option R)→oK (c,k)→Option R
 | .skip,e,H,k,_=>k .normal e H
 | .ops l,e,H,k,_=>cm rec l e H (k .normal) ()
 | .drawn l,e,H,k,_=>b9 rec l H.bl.length e H (k .normal) ()
 | .perm l os,e,H,k,_=>aT (iU (os.map (jo rec l e H))) (fun s=>k .normal s.1 s.2) ()
 | .seq a b,e,H,k,_=>run rec a e H (fun x e H=>match x with| .normal=>run rec b e H k ()|x=>k x e H) ()
 | .cond c a b,e,H,k,_=>pU (ev e c) (fun t=>fork t (run rec a e H k ()) (run rec b e H k ()) ()) ()
 | .block id a,e,H,k,_=>run rec a e H (fun x e H=>match x with| .exit j=>bif j==id then k .normal e H else k (.exit j) e H|x=>k x e H) ()
 | .freeze t,e,H,k,_=>aT (Es H (get e t)) (fun r=>k .normal ((t,r.1)::e) r.2) ()
 | .bE vs,e,H,k,_=>aT (ft vs e H) (fun s=>k .normal s.1 s.2) ()
 | .I6 d neg x c,e,H,k,_=>Au (EB H (ev e x)) neg (fun b=>run rec c ((d,.bool b)::e) H k ()) ()
 | .loop p a,e,H,k,_=>aT (ft p.bE e H) (fun s=>aT (j5 (fun s'=>(dX p s.2.bl.length {s.2 with bV:=[]} s').bind fun s'=>
    run rec a s'.1 s'.2 (fun x e H=>some (x,e,H)) ()) (s.1,{s.2 with bV:=[]})) (fun o=>k o.1 o.2.1 {o.2.2 with bV:=s.2.bV++o.2.2.bV}) ()) ()
 | .gW f ps x y,e,H,k,_=>aT (oR rec (ev e f) [.fA H.bl.length] (bM H (.loop ⟨e,ps,x,y⟩ .ready .normal))) (fun r=>
    match bn r.2 H.bl.length with
    |some (.loop q st pend)=>match st with
     | .busy=>none
     |_=>aT (cz r.2 H.bl.length (.loop q .exhausted pend) 0) (fun H=>k pend e H) ()
    |_=>none) ()
 | .ext n,e,H,k,_=>aT (rj n (e.map (·.2))) (fun v=>k .ret ((0,v)::e) H) ()
 | .exit id,e,H,k,_=>k (.exit id) e H
 | .ret,e,H,k,_=>k .ret e H
def dN(e:Env)(H:ae):vc→Option SV
 | .tmp t=>some (get e t)
 | .cell t ag n=>db ag n H (get e t)
def results1(e:Env)(H:ae)(rs:List vc):Option SV:=
 (bQ (rs.map (dN e H))).map fun vs=>match vs with|[v]=>v|vs=>.bk vs
def dV(xs:List SV):Env:=go 0 xs
where go:Nat→List SV→Env
 |_,[]=>[]
 |i,x::r=>(i,x)::go (i+1) r
def cR(keep:Bool)(H0:ae)(v:SV)(H:ae):Option (SV×ae):=
 bif keep then some (v,FH H0 H)else(eh H0.bl.length H cE v).bind fun v=>(da H0.bl.length H0 H).map fun H=>(v,H)
def fi(b:Nat)(st:LoopState)(pend:lG)(H:ae):Option ae:=match bn H b with
 |some (.loop q _ _)=>cz H b (.loop q st pend) 0
 |_=>none
def eE(b:Nat)(H:ae):Option ae:=match bn H b with
 |some (.loop q .ready pend)=>cz H b (.loop q .busy pend) 0
 |_=>none
def ah:ae:={bl:=[],bV:=[],ro:=0}
def eI(F:aC)(xs:List SV):Bool:=SV.refs.aJ xs==0&&!F.keep
noncomputable def aa (T:FuncId→Option aC):Nat→Rec
 |0,_,_,_=>none
 |n+1,.fn f,xs,H=>match T f with
  |none=>none
  |some F=>bif eI F xs then
    (run (aa T n) F.body (dV xs) ah (fun x e H'=>match x with
     | .exit _=>none
     |_=>(results1 e H' F.res).bind fun v=>eh 0 H' cE v) ()).map fun v=>(v,H)
   else run (aa T n) F.body (dV xs) {bl:=H.bl,bV:=[],ro:=min H.ro H.bl.length} (fun x e H'=>match x with
    | .exit _=>none
    |_=>(results1 e H' F.res).bind fun v=>cR F.keep H v H') ()
 |n+1,.qX f,xs,H=>match T f with
  |none=>none
  |some F=>run (aa T n) F.body (dV xs) {bl:=H.bl,bV:=[],ro:=min H.ro H.bl.length} (fun x e H'=>match x with
    | .exit _=>none
    |_=>(results1 e H' F.res).bind fun v=>cR true H v H') ()
 |n+1,.fA b,xs,H=>match bn H b with
  |some (.loop q .ready _)=>
   bif q.ps.length==xs.length then
    run (aa T n) q.assign ((q.ps.zip xs).reverse++q.env) {bl:=H.bl,bV:=[],ro:=min H.ro H.bl.length} (fun x e H'=>match x with
     | .normal=>(eE b H').bind fun H'=>run (aa T n) q.body e H' (fun x _ H'=>
        (fi b (match x with| .normal=>.ready|_=>.done) x H').bind fun H'=>
         (da H.bl.length H H').map fun H'=>(.bool (match x with| .normal=>true|_=>false),H')) ()
     |_=>none) ()
   else none
  |_=>none
abbrev aew(n:Int):SV:=.int .i64 n
abbrev aex:SV:=.int .i64 0
abbrev aey(a b:Nat):lr:=.pick (.t a) (.c (.bool true)) (.t b)
abbrev aez(a b:Nat):lr:=.pick (.t a) (.t b) (.c (.bool false))
abbrev aeA(a:Nat):lr:=.load false 1 (.t a)
end
section
structure zb where
 keep:FuncId→Option Nat
 loop:FuncId→Nat→cr
 lit:FuncId→Nat→Bool
 eh:FuncId→Nat→List Nat
 WQ:FuncId→Nat→List (Nat×Nat):=fun _ _=>[]
 wU:FuncId→Nat→Option Nat:=fun _ _=>none
 viewAt:FuncId→Nat→Bool:=fun _ _=>false
 CM:FuncId→Nat→Option Nat:=fun _ _=>none
 ext:FuncId→Option Nat:=fun _=>none
 S1:FuncId→Nat→Bool:=fun _ _=>false
def lW:Nat→Value→Option SV
 |0,_=>none
 |d+1,v=>match v with
  | .bool b=>some (.bool b)
  | .int k n=>some (.int k n)
  | .string s=>some (.str s)
  | .pointer none=>some .dc
  | .slice none 0 0=>some (.ay 0 [] true)
  | .nilFunc=>some .dg
  | .agg cs=>(bQ (cs.toList.map (lW d))).bind fun cs=>bif cs.all SV.jg then some (.agg cs)else none
  |_=>none
def bC:Operand→Option bZ
 | .tmp t=>some (.t t)
 | .const v=>(lW 2 v).map .c
 | .func f=>some (.c (.fn f []))
 | .global _=>none
def je(xs:Array Operand):Option (List bZ):=bQ (xs.toList.map bC)
def fZ:Option Operand→Option (Option bZ)
 |none=>some none
 |some x=>(bC x).map some
section
variable(P:Program)
def fQ(t:TypeId):Option Nat:=(P.info? t).map (·.size)
def jk(t:TypeId):Option Bool:=match P.underlying t with
 |some (.struct _)=>some true
 |some (.array _ _)=>some true
 |some _=>some false
 |none=>none
def gI(t:TypeId):Option (List SV):=match P.info? t with
 |some i=>match i.zero with
  |some v=>(bQ (v.cells.toList.map (lW 1))).bind fun z=>bif z.all SV.jg then some z else none
  |none=>none
 |none=>none
def eN:Nat→TypeId→Option (List LK)
 |0,_=>none
 |d+1,t=>match P.underlying t with
  |some .bool=>some [.b]
  |some (.int _)=>some [.i]
  |some .string=>some [.s]
  |some (.struct fs)=>bif P.stoodInHeld t then none else fs.toList.foldlM (init:=[]) fun acc f=>
    bif f.name != "_" &&f.offset==acc.length then(eN d f.type).bind fun sh=>bif (fQ P f.type)==some sh.length then some (acc++sh)else none else none
  |some (.array n e)=>(eN d e).bind fun sh=>bif (fQ P e)==some sh.length then some (List.replicate n sh).flatten else none
  |_=>none
def kI(t:TypeId):Option (List Field):=match P.underlying t with
 |some (.struct fs)=>some fs.toList
 |_=>none
def lF(t:TypeId):Option TypeId:=match P.underlying t with
 |some (.slice e)=>some e
 |_=>none
def v9(t:TypeId)(ps:List (Nat×Operand)):Option (List (Nat×Nat×bZ)):=match P.underlying t with
 |some (.struct fs)=>bif !fs.toList.all (fun f=>(fQ P f.type).isSome)then none else bQ (ps.map fun p=>match fs[p.1]? with
  |some f=>match fQ P f.type,bC p.2 with
   |some n,some x=>some (f.offset,n,x)
   |_,_=>none
  |none=>none)
 |some (.array _ e)=>match fQ P e with
  |some n=>bQ (ps.map fun p=>(bC p.2).map fun x=>(p.1*n,n,x))
  |none=>none
 |_=>none
def oZ(c:Call):Option lr:=match c.callee with
 | .value f=>match bC f,je c.args with
   |some f,some xs=>some (.call f xs)
   |_,_=>none
 | .invoke _ _=>none
 | .builtin b=>match je c.args with
   |none=>none
   |some xs=>match b,xs with
    | .len,[x]=>match(c.argTypes[0]?).bind P.underlying with
      |some .string=>some (.fC x)
      |some (.slice _)=>some (.len x)
      |some (.array n _)=>some (.yJ n)
      |_=>none
    | .max,xs=>match(c.argTypes[0]?).bind P.underlying with|some (.int _)=>some (.gU xs)|_=>none
    | .min,xs=>match(c.argTypes[0]?).bind P.underlying with|some (.int _)=>some (.jO xs)|_=>none
    | .append,[s,x]=>match(c.argTypes[0]?).bind (lF P),(c.argTypes[1]?).bind P.underlying with
      |some e,some (.slice _)=>match P.info? e with|some i=>bif i.size==0||i.bytes==0 then none else(match gI P e with|some z=>bif z.length==i.size then some (.append i.size i.bytes s x)else none|none=>none)|none=>none
      |_,_=>none
    | .copy,[d,x]=>match(c.argTypes[0]?).bind (lF P),(c.argTypes[1]?).bind P.underlying with
      |some e,some (.slice _)=>match fQ P e with|some (n+1)=>some (.copy (n+1) d x)|_=>none
      |_,_=>none
    | .clear,[x]=>match(c.argTypes[0]?).bind (lF P)with
      |some e=>match gI P e with|some (z::zs)=>some (.clear (z::zs).length (z::zs) x)|_=>none
      |none=>none
    |_,_=>none
def uy(op:BinOp)(u:TypeDesc)(y:Operand)(x:bZ):Option lr:=match op,u,y with
 | .eql,.pointer _,.const (.pointer none)=>some (.isNil .p false x)
 | .neq,.pointer _,.const (.pointer none)=>some (.isNil .p true x)
 | .eql,.func _ _ _,.const .nilFunc=>some (.isNil .f false x)
 | .neq,.func _ _ _,.const .nilFunc=>some (.isNil .f true x)
 | .eql,.slice _,.const (.slice none 0 0)=>some (.isNil .s false x)
 | .neq,.slice _,.const (.slice none 0 0)=>some (.isNil .s true x)
 |_,_,_=>none
def uS(t:TypeId):Option (LK×TypeId):=match P.underlying t with
 |some (.map k e)=>bif fQ P e==some 1&&jk P e==some false then(match P.underlying k with
  |some (.int _)=>some (.i,e)
  |some .string=>some (.s,e)
  |some .bool=>some (.b,e)
  |_=>none)else none
 |_=>none
def sP(t:TypeId):Option SV:=match P.info? t with
 |some i=>match i.zero with
  |some v=>(lW 1 v).bind fun z=>bif z.jg then some z else none
  |none=>none
 |none=>none
def oI(o:Op):Option lr:=match o with
 | .move x=>(bC x).map .eg
 | .assign x=>(bC x).map .eg
 | .pick c a b=>match bC c,bC a,bC b with
   |some c,some a,some b=>some (.pick c a b)
   |_,_,_=>none
 | .alloc t=>(gI P t).map .alloc
 | .box _ x=>(bC x).map .box
 | .build t ps=>match gI P t,v9 P t ps.toList with
   |some z,some ps=>some (.build z ps)
   |_,_=>none
 | .buildSlice t n ps=>match lF P t with
   |some e=>match fQ P e,gI P e,bQ (ps.toList.map fun p=>(bC p.2).map fun x=>(p.1,x))with
    |some (z+1),some zs,some ps=>bif decide (n*(z+1)≤16777216)&&zs.length==z+1 then some (.fL (z+1) zs n ps)else none
    |_,_,_=>none
   |none=>none
 | .load t a=>match jk P t,fQ P t,bC a with
   |some ag,some n,some a=>some (.load ag n a)
   |_,_,_=>none
 | .store t a x=>match fQ P t,bC a,bC x with
   |some n,some a,some x=>some (.store n a x)
   |_,_,_=>none
 | .nilCheck x=>(bC x).map .eb
 | .binOp op t xo yo _=>match bC xo,bC yo with
   |some x,some y=>match op,P.underlying t with
    | .eql,some (.struct _)=>bif P.eqGuardType P.depth t then none else(eN P 6 t).map (.dG false · x y)
    | .neq,some (.struct _)=>bif P.eqGuardType P.depth t then none else(eN P 6 t).map (.dG true · x y)
    | .eql,some (.array _ _)=>bif P.eqGuardType P.depth t then none else(eN P 6 t).map (.dG false · x y)
    | .neq,some (.array _ _)=>bif P.eqGuardType P.depth t then none else(eN P 6 t).map (.dG true · x y)
    |op,some (.int _)=>some (.bin op x y)
    |op,some .bool=>some (.re op x y)
    |op,some .string=>some (.bin op x y)
    |op,some u=>uy op u yo x
    |_,none=>none
   |_,_=>none
 | .unOp .not _ x=>(bC x).map .cQ
 | .unOp .neg t x=>match P.underlying t with|some (.int _)=>(bC x).map .vC|_=>none
 | .convert s d x=>match bC x with
   |none=>none
   |some x=>match P.underlying s,P.underlying d with
    |some (.int _),some (.int k)=>some (.cA k x)
    |some .string,some .string=>some (.sb x)
    |some (.slice el),some .string=>match P.underlying el,fQ P el with
     |some (.int .u8),some 1=>some (.jA x)
     |_,_=>none
    |some .string,some (.slice el)=>match P.underlying el,fQ P el with
     |some (.int .u8),some 1=>some (.qM x)
     |_,_=>none
    |_,_=>none
 | .makeFunc (.func f) fs cs=>bif fs.isEmpty then(je cs).map (.ib f ·)else bif cs.isEmpty then(je fs).map (.lI f ·)else none
 | .makeSlice t l c=>match lF P t with
   |some e=>match P.info? e,gI P e,bC l,bC c with
    |some i,some z,some l,some c=>bif i.size==0||i.bytes==0 then none else bif z.length==i.size then some (.dO i.size z i.bytes l c)else none
    |_,_,_,_=>none
   |none=>none
 | .slice t x lo hi mx=>match bC x,fZ lo,fZ hi,fZ mx with
   |some x,some lo,some hi,some mx=>match P.underlying t with
    |some (.slice e)=>match fQ P e with|some n=>bif mx.isSome&&hi.isNone then none else some (.fw n x lo hi mx)|none=>none
    |some .string=>match mx with|none=>some (.oA x lo hi)|some _=>none
    |_=>none
   |_,_,_,_=>none
 | .fieldAddr s x f=>match bC x,(kI P s).bind (·[f]?)with
   |some x,some f=>match fQ P f.type with
    |some (_+1)=>some (.af f.offset x)
    |_=>none
   |_,_=>none
 | .field s x f=>match bC x,(kI P s).bind (·[f]?)with
   |some x,some f=>match jk P f.type,fQ P f.type with
    |some ag,some n=>some (.field ag n f.offset x)
    |_,_=>none
   |_,_=>none
 | .indexAddr t x ix=>match bC x,bC ix with
   |some x,some ix=>match P.underlying t with
    |some (.slice e)=>match fQ P e with|some (n+1)=>some (.ba (n+1) x ix)|_=>none
    |some (.array len e)=>match fQ P e with|some (n+1)=>some (.gq len (n+1) x ix)|_=>none
    |_=>none
   |_,_=>none
 | .index t x ix=>match bC x,bC ix with
   |some x,some ix=>match P.underlying t with
    |some (.array len e)=>match jk P e,fQ P e with|some ag,some n=>some (.n8 ag n len x ix)|_,_=>none
    |some .string=>some (.fM x ix)
    |_=>none
   |_,_=>none
 | .extract x i=>(bC x).map (.extract · i)
 | .call c=>oZ P c
 | .makeMap _ none=>some .mT
 | .insert t m k v=>match uS P t,bC m,bC k,bC v with
   |some (q,_),some m,some k,some v=>some (.na q m k v)
   |_,_,_,_=>none
 | .mapUpdate t m k v=>match uS P t,bC m,bC k,bC v with
   |some (q,_),some m,some k,some v=>some (.na q m k v)
   |_,_,_,_=>none
 | .lookup t m k ok=>match uS P t,bC m,bC k with
   |some (q,e),some m,some k=>(sP P e).map fun z=>.mN q ok z m k
   |_,_,_=>none
 |_=>none
inductive EP where|no|list|keep (n:Nat)|view|Gz (z:Nat)
def lk(dM:zb)(f:FuncId):Option Nat→EP
 |none=>.no
 |some d=>match dM.wU f d with
  |some n=>.keep n
  |none=>match dM.CM f d with
   |some z=>.Gz z
   |none=>bif dM.viewAt f d then .view else bif dM.lit f d then .list else .no
def vg(b:EP)(o:lr):lr:=match b,o with
 | .list,.fL bT z n ps=>.dz bT z n ps
 | .keep n,.call (.c (.fn g [])) xs=>.eK g n xs
 | .view,.call (.c (.fn g [])) xs=>.iD g xs
 | .Gz z,.alloc [.ay 0 [] true]=>.oe z
 |_,o=>o
def iu(dM:zb)(f:FuncId)(nt:Nat)(ops:Array Oper)(o:Oper):Option aS:=
    let op:=vg (lk dM f o.dst) ((oI P o.op).getD .bad)
    bif o.dst.any (fun d=>decide (nt≤d))then none else match o.guard with
    |none=>some ⟨o.dst,op,none⟩
    |some (j,w)=>match(ops[j]?).bind (·.dst)with
     |some t=>some ⟨o.dst,op,some (t,w)⟩
     |none=>none
end
def ga:lr→Bool
 | .eg _| .pick .. | .build .. | .dz .. | .bin .. | .re .. | .dG .. | .cQ _| .vC _| .cA .. | .sb _| .ib .. | .lI .. | .field .. | .n8 .. | .fM .. | .extract .. | .fC _| .yJ _| .gU _| .jO _| .oA .. =>true
 |_=>false
def bN(ops:List Oper):List Nat:=
 ops.foldl (init:=[]) fun acc o=>acc++[o.after.toList.foldl (fun s e=>bif Region.binds .any e then s|||2 ^ e.on|||acc.getD e.on 0 else s) 0]
def bY(o:aS):List Nat:=(match o.op with
 | .eg x| .box x| .eb x| .cQ x| .isNil _ _ x| .vC x| .cA _ x| .sb x| .jA x| .qM x| .af _ x| .field _ _ _ x| .extract x _| .len x| .fC x| .clear _ _ x| .load _ _ x=>f [x]
 | .pick c a b=>f [c,a,b]
 | .build _ ps=>f (ps.map (·.2.2))
 | .fL _ _ _ ps=>f (ps.map (·.2))
 | .dz _ _ _ ps=>f (ps.map (·.2))
 | .store _ a x| .bin _ a x| .re _ a x| .dG _ _ a x| .ba _ a x| .gq _ _ a x| .n8 _ _ _ a x| .fM a x| .append _ _ a x| .po a x| .copy _ a x| .dO _ _ _ a x=>f [a,x]
 | .ib _ cs=>f cs
 | .lI _ cs=>f cs
 | .fw _ x lo hi mx=>f ([x]++lo.toList++hi.toList++mx.toList)
 | .oA x lo hi=>f ([x]++lo.toList++hi.toList)
 | .gU xs| .jO xs=>f xs
 | .mT=>[]
 | .na _ x k v=>f [x,k,v]
 | .mN _ _ _ x k=>f [x,k]
 | .call g xs=>f (g::xs)
 | .eK _ _ xs=>f xs
 | .iD _ xs=>f xs
 | .alloc _| .oe _| .yJ _| .bad=>[])++(match o.g with|some (t,_)=>[t]|none=>[])
where f (xs:List bZ):List Nat:=xs.filterMap fun| .t n=>some n| .c _=>none
def Aq(bs:List Nat)(i j:Nat):Bool:=i==j||(bs.getD j 0).testBit i||(bs.getD i 0).testBit j
def LM(dM:zb)(f:FuncId)(o:aS):Nat:=match o.op with
 | .call (.t _) _=>(o.dst.bind (dM.wU f)).getD 0
 | .call (.c (.fn f _)) _=>(dM.keep f).getD 0
 | .eK _ n _=>n
 | .oe _=>2
 | .append .. | .po .. | .box _| .alloc _| .fL .. | .dO .. | .qM _| .mT=>1
 |_=>0
def pD(d:bI):Bool:=match d.kind with| .gA=>true|_=>false
def ru(d:bI):Bool:=match d.kind with| .jI=>true|_=>false
def pV(d:bI):Bool:=match d.kind with| .pure=>true|_=>false
def dq(d:bI):Bool:=match d.kind with| .wr _=>true|_=>false
def oD:lr→Bool
 | .af .. | .ba .. | .gq .. | .len .. | .fw .. | .eb .. | .isNil .. | .alloc .. | .box .. | .fL .. | .dO .. =>true
 |_=>false
def AH:bZ→bZ→Bool
 | .t a,.t b=>a==b
 |_,_=>false
def nQ(pl:List (aS×bI))(i k:Nat)(o:lr)(d:bI):Bool:=match o,d.kind with
 | .load ag n a,.wr rd=>rd.any (fun q=>AH q.1 a&&q.2==(bif ag then n else 1))&&match a with
   | .t u=>(List.range k).all fun m=>decide (m<i)||match pl[m]? with|some p=>!(p.1.dst==some u)|none=>false
   | .c _=>false
 |_,_=>false
def lj(bs:List Nat)(ops:List Oper)(pl:List (aS×bI)):Bool:=
 let n:=pl.length
 let rg:=List.range n
 let dr:=fun i=>((pl[i]?).map (·.2)).getD ⟨.pure,[],0,0⟩
 let gA:=fun i=>pD (dr i)
 let jI:=fun i=>ru (dr i)
 (ops.zipIdx.all fun p=>p.1.after.toList.all fun e=>!Region.binds .any e||decide (e.on<p.2)) &&
 (rg.all fun j=>(List.range j).all fun i=>match pl[i]?,pl[j]? with
  |some a,some b=>(bs.getD j 0).testBit i||!((match a.1.dst with|some d=>(bY b.1).contains d||b.1.dst==some d|none=>false)||(match b.1.dst with|some d=>(bY a.1).contains d|none=>false))
  |_,_=>false) &&
 (pl.all fun p=>!pV p.2||ga p.1.op&&p.2.vZ==0) &&
 (rg.all fun i=>!gA i||rg.all fun j=>pV (dr j)||Aq bs i j) &&
 (rg.all fun i=>(dr i).kC==match i with|0=>0|k+1=>bif gA k then 0 else(dr k).kC+(dr k).vZ) &&
 (rg.all fun i=>!(jI i||dq (dr i))||(List.range i).all fun k=>!jI k||((List.range i).any fun m=>decide (k<m)&&gA m)||(bs.getD i 0).testBit k||(List.range (dr k).vZ).all fun m=>(dr i).fg.contains ((dr k).kC+m)) &&
 (rg.all fun k=>!dq (dr k)||(dr k).vZ==0&&rg.all fun m=>!decide (k<m)||pV (dr m)||(bs.getD m 0).testBit k) &&
 (rg.all fun k=>!dq (dr k)||(List.range k).all fun i=>!jI i||((List.range k).any fun m=>decide (i<m)&&gA m)||(bs.getD k 0).testBit i||match pl[i]? with|some a=>oD a.1.op||nQ pl i k a.1.op (dr k)|none=>false)
def ou(dM:zb)(f:FuncId)(bs:List Nat)(l:List aS)(useW:Bool):List (aS×bI):=
 let n:=l.length
 let pu:=l.map fun o=>ga o.op
 let nonpure:=(List.range n).filter fun i=>!pu.getD i true
 let bars:=(List.range n).map fun i=>!pu.getD i true&&nonpure.all fun j=>Aq bs i j
 let isst:=l.map fun o=>match o.op with| .store .. =>true|_=>false
 let nals:=l.zipIdx.map fun p=>bif pu.getD p.2 true||bars.getD p.2 false then 0 else LM dM f p.1
 let scan:=(List.range n).foldl (init:=(([]:List (Nat×Nat)),0,0)) fun(acc,off,st) i=>
  bif bars.getD i false then(acc++[(off,st)],0,i+1)else(acc++[(off,st)],off+nals.getD i 0,st)
 l.zipIdx.map fun p=>
   let i:=p.2
   let os:=scan.1.getD i (0,0)
   let fg:=(List.range i).flatMap fun k=>bif decide (os.2≤k)&&!pu.getD k true&&!Aq bs i k then(List.range (nals.getD k 0)).map fun m=>(scan.1.getD k (0,0)).1+m else[]
   (p.1,bif pu.getD i true then⟨.pure,[],0,os.1⟩else bif bars.getD i false then⟨.gA,[],0,os.1⟩else
     bif useW&&isst.getD i false then⟨.wr ((List.range i).flatMap fun k=>bif decide (os.2≤k)&&!Aq bs i k then(match l[k]? with|some o=>(match o.op with| .load ag n a=>[(a,bif ag then n else 1)]|_=>[])|none=>[])else[]),fg,0,os.1⟩else
     ⟨.jI,fg,nals.getD i 0,os.1⟩)
def vU(dM:zb)(f:FuncId)(ops:List Oper)(l:List aS):Option (List (aS×bI)):=
 let bs:=bN ops
 let a:=ou dM f bs l true
 bif lj bs ops a then some a else
  let b:=ou dM f bs l false
  bif lj bs ops b then some b else none
def lU(bs:List Nat):Nat→List Nat→List (List Nat)
 |0,_=>[[]]
 |n+1,rem=>rem.flatMap fun m=>bif rem.all (fun k=>k==m||!(bs.getD m 0).testBit k)then(lU bs n (rem.erase m)).map (m:: ·)else[]
def qg(bs:List Nat)(n:Nat):List Nat→List Nat→Bool
 |done,[]=>decide (done.length=n)
 |done,i::r=>decide (i<n)&&!done.contains i&&(List.range n).all (fun k=>!(bs.getD i 0).testBit k||done.contains k)&&qg bs n (i::done) r
def Cb(bs:List Nat)(n:Nat)(pu:List Bool):List Nat→List Nat→List Nat
 |done,[]=>done++(List.range n).filter fun k=>!done.contains k
 |done,m::r=>
  let done:=done++(List.range n).filter fun k=>pu.getD k true&&(bs.getD m 0).testBit k&&!done.contains k
  Cb bs n pu (done++[m]) r
def iz(l:List aS)(i:Nat):Bool:=match l[i]? with|some o=>!ga o.op|none=>false
def yi(bs:List Nat)(l:List aS):List (List Nat):=
 let np:=(List.range l.length).filter (iz l)
 (lU bs np.length np).map (Cb bs l.length (l.map fun o=>ga o.op) [])
def eZ(a b:aS):Bool:=!((match a.dst with|some d=>(bY b).contains d||b.dst==some d|none=>false)||(match b.dst with|some d=>(bY a).contains d|none=>false))
def sN(bs:List Nat)(ops:List Oper)(l:List aS)(os:List (List Nat)):Bool:=
 let n:=l.length
 let np:=(List.range n).filter (iz l)
 (ops.zipIdx.all fun p=>p.1.after.toList.all fun e=>!Region.binds .any e||decide (e.on<p.2)) &&
 ((List.range n).all fun j=>(List.range j).all fun i=>match l[i]?,l[j]? with
   |some a,some b=>(bs.getD j 0).testBit i||eZ a b
   |_,_=>false) &&
 (os.all fun o=>qg bs n [] o) &&
 ((lU bs np.length np).all fun x=>os.any fun o=>o.filter (iz l)==x)
def EZ:lr→Bool
 | .load .. | .eb _| .af .. | .len _| .ba .. | .gq .. =>true
 |_=>false
def Dc(l:List aS):List Nat:=(List.range l.length).filter fun i=>match l[i]? with|some o=>!ga o.op&&!EZ o.op|none=>false
def tX(W σ:List Nat)(r:Nat):Nat:=((σ.takeWhile (fun x=>x != r)).filter W.contains).length
def qz(bs W:List Nat)(r j:Nat):Bool:=(W.take j).all (fun w=>!(bs.getD w 0).testBit r)&&(W.drop j).all (fun w=>!(bs.getD r 0).testBit w)
def sK(bs:List Nat)(l:List aS):List (List Nat):=
 let W:=Dc l
 let n:=l.length
 let isR:=fun r=>match l[r]? with|some o=>EZ o.op|none=>false
 let at_:=fun(j r:Nat)=>max (W.filter fun w=>(bs.getD r 0).testBit w).length (min j (W.length-(W.filter fun w=>(bs.getD w 0).testBit r).length))
 ((List.range (W.length+1)).map fun j=>Cb bs n (l.map fun o=>ga o.op) [] ((List.range (W.length+1)).flatMap fun t=>((List.range n).filter fun r=>isR r&&at_ j r==t)++(W[t]?).toList)).foldl (fun acc o=>bif acc.contains o then acc else acc++[o]) []
def va(bs:List Nat)(ops:List Oper)(l:List aS)(os:List (List Nat)):Bool:=
 let n:=l.length
 let W:=Dc l
 (ops.zipIdx.all fun p=>p.1.after.toList.all fun e=>!Region.binds .any e||decide (e.on<p.2)) &&
 ((List.range n).all fun j=>(List.range j).all fun i=>match l[i]?,l[j]? with
   |some a,some b=>(bs.getD j 0).testBit i||eZ a b
   |_,_=>false) &&
 (os.all fun o=>qg bs n [] o) &&
 ((List.range n).all fun i=>(List.range (i+1)).all fun k=>match l[k]?,l[i]? with
   |some a,some b=>(match b.dst with|some d=>!(bY a).contains d&&(k==i||!(a.dst==some d))|none=>true)
   |_,_=>false) &&
 (W.all fun w=>W.all fun w'=>!decide (w<w')||(bs.getD w' 0).testBit w) &&
 !os.isEmpty &&
 ((List.range n).all fun r=>match l[r]? with
   |some o=>!EZ o.op||(List.range (W.length+1)).all fun j=>!qz bs W r j||os.any fun σ=>tX W σ r==j
   |none=>true)
def Cc(P:Program)(dM:zb)(f:FuncId)(nt:Nat)(ops:Array Oper):Option cw:=match bQ (ops.toList.map (iu P dM f nt ops))with
 |none=>none
 |some l=>bif va (bN ops.toList) ops.toList l (sK (bN ops.toList) l)then some (.perm l (sK (bN ops.toList) l))else
   bif sN (bN ops.toList) ops.toList l (yi (bN ops.toList) l)then some (.perm l (yi (bN ops.toList) l))else none
def xD(P:Program)(dM:zb)(f:FuncId)(nt:Nat)(ops:Array Oper)(draw:Bool):Option cw:=match bQ (ops.toList.map (iu P dM f nt ops))with
 |none=>none
 |some l=>bif draw then(vU dM f ops.toList l).map .drawn else some (.ops l)
def eS:Code→Option Nat
 | .region id _ _=>some id
 | .seq a b=>(eS a).orElse fun _=>eS b
 | .cond _ a b=>(eS a).orElse fun _=>eS b
 | .block _ a=>eS a
 | .loop a=>eS a
 | .rangeFunc _ _ a b=>(eS a).orElse fun _=>eS b
 | .scope a=>eS a
 |_=>none
def pB(c:cw):List Nat→cw
 |[]=>c
 |t::r=>.seq (.freeze t) (pB c r)
def BQ(c:cw):List (Nat×Nat)→cw
 |[]=>c
 |vs=>.seq c (.bE vs)
def xa(P:Program)(nt:Nat):Code→Option (Array Oper×List Oper×Nat×Bool×bZ)
 | .region _ ops false=>match ops.toList.getLast? with
   |some o=>match o.dst,o.guard,o.op with
    |some d,none,.binOp op t x y _=>match bC x,P.underlying t with
     |some x',some (.slice el)=>match uy op (.slice el) y x' with
      |some (.isNil _ neg x2)=>bif decide (d<nt)then some (ops,ops.toList.dropLast,d,neg,x2)else none
      |_=>none
     |_,_=>none
    |_,_,_=>none
   |none=>none
 |_=>none
def eG(P:Program)(dM:zb)(f:FuncId)(nt:Nat):Code→Option cw
 | .skip=>some .skip
 | .region id ops draw=>(bif draw&&dM.S1 f id then Cc P dM f nt ops else xD P dM f nt ops draw).map fun c=>BQ (pB c (dM.eh f id)) (dM.WQ f id)
 | .seq a b=>match xa P nt a with
   |some (ops,l,d,neg,x)=>match bQ (l.map (iu P dM f nt ops)),eG P dM f nt b with
    |some l,some b=>some (.seq (.ops l) (.I6 d neg x b))
    |_,_=>none
   |none=>match eG P dM f nt a,eG P dM f nt b with
    |some a,some b=>some (.seq a b)
    |_,_=>none
 | .cond c a b=>match bC c,eG P dM f nt a,eG P dM f nt b with
   |some c,some a,some b=>some (.cond c a b)
   |_,_,_=>none
 | .block id a=>(eG P dM f nt a).map (.block id)
 | .loop a=>(eG P dM f nt a).map (.loop (dM.loop f ((eS a).getD 0)))
 | .rangeFunc g ps a b=>match bC g,eG P dM f nt a,eG P dM f nt b with
   |some g,some a,some b=>bif ps.toList.any (fun d=>decide (nt≤d))then none else some (.gW g ps.toList a b)
   |_,_,_=>none
 | .exit id=>some (.exit id)
 | .ret=>some .ret
 |_=>none
def zf(P:Program):ResultVar→Option vc
 | .tmp t=>some (.tmp t)
 | .cell a t=>match jk P t,fQ P t with
   |some ag,some n=>some (.cell a ag n)
   |_,_=>none
def uz(P:Program)(dM:zb)(f:FuncId):Option aC:=match dM.ext f with
 |some k=>some ⟨[.tmp 0],.ext k,false⟩
 |none=>match P.funcs[f]? with
 |none=>none
 |some fn=>match fn.body with
  |none=>none
  |some b=>bif fn.name== "runtime.NumGoroutine" then none else match eG P dM f fn.ntmps b,bQ (fn.results.toList.map (zf P))with
   |some b,some rs=>some ⟨rs,b,(dM.keep f).isSome⟩
   |_,_=>none
end
structure Loc where
 cp:Nat
 base:Nat
 cap:Nat
 bT:Nat
 cB:Nat
 bE:Bool
 arr:Bool
abbrev Map:=Nat→Option Loc
abbrev dJ:Map:=fun _=>none
def jv:Value→Bool
 | .agg _=>false
 | .tuple _=>false
 |_=>true
def oJ:SV→Option Value
 | .bool b=>some (.bool b)
 | .int k n=>some (.int k n)
 | .str s=>some (.string s)
 |_=>none
inductive VR(w:World)(F:Nat→Prop):Map→SV→Value→Prop
 |undef {ρ:Map} (v:Value):VR w F ρ .undef v
 |iX {ρ:Map}:VR w F ρ .iX undef
 |bool {ρ:Map} (b:Bool):VR w F ρ (.bool b) (.bool b)
 |int {ρ:Map} (k:IntKind) (n:Int):VR w F ρ (.int k n) (.int k n)
 |str {ρ:Map} (s:ByteArray):VR w F ρ (.str s) (.string s)
 |dc {ρ:Map}:VR w F ρ .dc (.pointer none)
 |ptr {ρ:Map} {b cB i o:Nat} {l:Loc} {v:Value} (h:ρ b=some l) (hv:cB≤l.cB) (hc:jv v=true)
   (ha:cB=l.cB→l.bE=false∧v=.pointer (some ⟨l.cp,l.base+i*l.bT+o,none⟩)):VR w F ρ (.ptr b cB i o) v
 |fN {ρ:Map} {cs:List SV} {B o:Nat} (V:Nat→Value) (hF:F B) (hc:∀j c,cs[j]?=some c→w.cell? ⟨B,o+j,none⟩=some (V j))
   (h1:∀(j:Nat) (c:SV),cs[j]?=some c→c.jg=true) (hv:∀j c,cs[j]?=some c→VR w F dJ c (V j)):VR w F ρ (.fN cs) (.pointer (some ⟨B,o,none⟩))
 |ay {ρ:Map} {z:Nat} {L:List (List SV)} {full:Bool} {a:Option Addr} {cap:Nat} (V:Nat→Nat→Value) (hcap:L.length≤cap) (hfull:full=true→cap=L.length)
   (hz:∀(i:Nat) cs,L[i]?=some cs→cs.length=z)
   (hat:L=[]∨∃B o,a=some ⟨B,o,none⟩∧F B∧∀(i j:Nat) cs c,L[i]?=some cs→cs[j]?=some c→w.cell? ⟨B,o+i*z+j,none⟩=some (V i j))
   (h1:∀(i j:Nat) cs (c:SV),L[i]?=some cs→cs[j]?=some c→c.jg=true)
   (hv:∀(i j:Nat) cs c,L[i]?=some cs→cs[j]?=some c→VR w F dJ c (V i j)):VR w F ρ (.ay z L full) (.slice a L.length cap)
 |bp {ρ:Map} {b cB off n:Nat} {l:Loc} {v:Value} (h:ρ b=some l) (hv:cB≤l.cB) (hc:jv v=true)
   (ha:cB=l.cB→(l.bE=true→∃a,v=.slice a 0 0∧off=0∧n=0)∧
    (l.bE=false→off+n≤l.cap∧∃a,v=.slice a n (l.cap-off)∧(off<l.cap→a=some ⟨l.cp,l.base+off*l.bT,none⟩))):VR w F ρ (.bp b cB off n) v
 |agg {ρ:Map} {cs:List SV} {vs:Array Value} (hn:cs.length=vs.size) (h1:∀(j:Nat) (c:SV),cs[j]?=some c→c.jg=true)
   (hv:∀(j:Nat) c v,cs[j]?=some c→vs[j]?=some v→VR w F ρ c v):VR w F ρ (.agg cs) (.agg vs)
 |bk {ρ:Map} {cs:List SV} {vs:Array Value} (hn:cs.length=vs.size)
   (hv:∀(j:Nat) c v,cs[j]?=some c→vs[j]?=some v→VR w F ρ c v):VR w F ρ (.bk cs) (.tuple vs)
 |fn {ρ:Map} {f:FuncId} {cs:List SV} {vs:Array Value} (hn:cs.length=vs.size)
   (hv:∀(j:Nat) c v,cs[j]?=some c→vs[j]?=some v→VR w F ρ c v):VR w F ρ (.fn f cs) (.func (.func f) #[] vs)
 |oX {ρ:Map} {f:FuncId} {cs:List SV} {vs:Array Value} (hn:cs.length=vs.size)
   (hv:∀(j:Nat) c v,cs[j]?=some c→vs[j]?=some v→VR w F ρ c v):VR w F ρ (.oX f cs) (.func (.func f) vs #[])
 |dg {ρ:Map}:VR w F ρ .dg .nilFunc
 |fA {ρ:Map} {b:Nat} {l:Loc} (h:ρ b=some l) (ha:l.arr=false):VR w F ρ (.fA b) (.func (.yield l.cp) #[] #[])
 |mp {ρ:Map} {b:Nat} {l:Loc} (h:ρ b=some l) (ha:l.arr=false):VR w F ρ (.mp b) (.map (some l.cp))
theorem VR.one{w:World}{F:Nat→Prop}{ρ:Map}{c:SV}{v:Value}(h:VR w F ρ c v)(h1:c.jg=true):jv v=true:=by
 cases h<;>first|rfl|assumption|(simp[SV.jg]at h1)
def Map.le(ρ ρ':Map):Prop:=∀b l,ρ b=some l→∃l',ρ' b=some l'∧(l'=l∨(l.arr=true∧l.cB<l'.cB))
theorem Map.le_refl(ρ:Map):ρ.le ρ:=fun _ l h=>⟨l,h,.inl rfl⟩
theorem Map.le_trans{a b c:Map}(h:a.le b)(h':b.le c):a.le c:=fun x l hl=>by
 obtain⟨l1,h1,e1⟩:=h x l hl
 obtain⟨l2,h2,e2⟩:=h' x l1 h1
 refine⟨l2,h2,?_⟩
 rcases e1 with rfl|⟨a1,v1⟩
 ·exact e2
 ·rcases e2 with rfl|⟨_,v2⟩
  ·exact .inr ⟨a1,v1⟩
  ·exact .inr ⟨a1,by omega⟩
theorem jT(ρ:Map):dJ.le ρ:=fun _ _ h=>by cases h
def dH(F:Nat→Prop)(w w':World):Prop:=∀B,F B→w'.heap[B]?=w.heap[B]?
theorem dH.cell{F:Nat→Prop}{w w':World}(h:dH F w w'){B o:Nat}(hB:F B):w'.cell? ⟨B,o,none⟩=w.cell? ⟨B,o,none⟩:=by
 simp only[World.cell?,h B hB]
theorem VR.mono{w w':World}{F F':Nat→Prop}(hk:dH F w w')(hF:∀B,F B→F' B){ρ:Map}{c:SV}{v:Value}
 (h:VR w F ρ c v):∀{ρ':Map},ρ.le ρ'→VR w' F' ρ' c v:=by
 induction h with
 |undef v=>exact fun _=>.undef v
 |iX=>exact fun _=>.iX
 |bool b=>exact fun _=>.bool b
 |int k n=>exact fun _=>.int k n
 |str s=>exact fun _=>.str s
 |dc=>exact fun _=>.dc
 |dg=>exact fun _=>.dg
 |ptr h hv hc ha=>
  intro ρ' hle
  obtain⟨l',h',e⟩:=hle _ _ h
  rcases e with rfl|⟨_,hlt⟩
  ·exact .ptr h' hv hc ha
  ·exact .ptr h' (by omega) hc (fun e=>by omega)
 |bp h hv hc ha=>
  intro ρ' hle
  obtain⟨l',h',e⟩:=hle _ _ h
  rcases e with rfl|⟨_,hlt⟩
  ·exact .bp h' hv hc ha
  ·exact .bp h' (by omega) hc (fun e=>by omega)
 |fA h ha=>
  intro ρ' hle
  obtain⟨l',h',e⟩:=hle _ _ h
  rcases e with rfl|⟨ht,_⟩
  ·exact .fA h' ha
  ·rw[ha]at ht;cases ht
 |mp h ha=>
  intro ρ' hle
  obtain⟨l',h',e⟩:=hle _ _ h
  rcases e with rfl|⟨ht,_⟩
  ·exact .mp h' ha
  ·rw[ha]at ht;cases ht
 |fN V hB hc h1 hv ih=>
  intro ρ' _
  exact .fN V (hF _ hB) (fun j c hj=>by rw[hk.cell hB];exact hc j c hj) h1 (fun j c hj=>ih j c hj (jT _))
 |ay V hcap hfull hz hat h1 hv ih=>
  intro ρ' _
  refine .ay V hcap hfull hz ?_ h1 (fun i j cs c hi hj=>ih i j cs c hi hj (jT _))
  rcases hat with h0|⟨B,o,ha,hB,hc⟩
  ·exact .inl h0
  ·exact .inr ⟨B,o,ha,hF _ hB,fun i j cs c hi hj=>by rw[hk.cell hB];exact hc i j cs c hi hj⟩
 |agg hn h1 hv ih=>
  intro ρ' hle
  exact .agg hn h1 (fun j c v hj hv=>ih j c v hj hv hle)
 |bk hn hv ih=>
  intro ρ' hle
  exact .bk hn (fun j c v hj hv=>ih j c v hj hv hle)
 |fn hn hv ih=>
  intro ρ' hle
  exact .fn hn (fun j c v hj hv=>ih j c v hj hv hle)
 |oX hn hv ih=>
  intro ρ' hle
  exact .oX hn (fun j c v hj hv=>ih j c v hj hv hle)
def Map.cut(ρ:Map)(N:Nat):Map:=fun b=>if b<N then ρ b else none
theorem Map.sH(ρ:Map)(N:Nat):(ρ.cut N).le ρ:=fun b l h=>by
 unfold Map.cut at h
 split at h
 ·exact⟨l,h,.inl rfl⟩
 ·cases h
theorem eO{cs:List SV}{N:Nat}(h:SV.refs.aJ cs≤N):∀(j:Nat) c,cs[j]?=some c→c.refs≤N:=by
 induction cs with
 |nil=>intro j c hj;simp at hj
 |cons x r ih=>
  intro j c hj
  simp only[SV.refs.aJ]at h
  cases j with
  |zero=>simp at hj;subst hj;omega
  |succ j=>simp at hj;exact ih (by omega) j c hj
theorem VR.cut{w:World}{F:Nat→Prop}{ρ:Map}{c:SV}{v:Value}(h:VR w F ρ c v):∀N,c.refs≤N→VR w F (ρ.cut N) c v:=by
 have at':∀{ρ:Map} {b N:Nat} {l:Loc},ρ b=some l→b+1≤N→ρ.cut N b=some l:=fun h hb=>by
  unfold Map.cut;rw[if_pos (by omega)];exact h
 induction h with
 |undef v=>exact fun _ _=>.undef v
 |iX=>exact fun _ _=>.iX
 |bool b=>exact fun _ _=>.bool b
 |int k n=>exact fun _ _=>.int k n
 |str s=>exact fun _ _=>.str s
 |dc=>exact fun _ _=>.dc
 |dg=>exact fun _ _=>.dg
 |ptr h hv hc ha=>exact fun N hN=>.ptr (at' h hN) hv hc ha
 |bp h hv hc ha=>exact fun N hN=>.bp (at' h hN) hv hc ha
 |fA h ha=>exact fun N hN=>.fA (at' h hN) ha
 |mp h ha=>exact fun N hN=>.mp (at' h hN) ha
 |fN V hB hc h1 hv ih=>exact fun N _=>.fN V hB hc h1 hv
 |ay V hcap hfull hz hat h1 hv ih=>exact fun N _=>.ay V hcap hfull hz hat h1 hv
 |agg hn h1 hv ih=>exact fun N hN=>.agg hn h1 (fun j c v hj hv=>ih j c v hj hv N (eO hN j c hj))
 |bk hn hv ih=>exact fun N hN=>.bk hn (fun j c v hj hv=>ih j c v hj hv N (eO hN j c hj))
 |fn hn hv ih=>exact fun N hN=>.fn hn (fun j c v hj hv=>ih j c v hj hv N (eO hN j c hj))
 |oX hn hv ih=>exact fun N hN=>.oX hn (fun j c v hj hv=>ih j c v hj hv N (eO hN j c hj))
def nh:lG→Option Code
 | .normal=>none
 | .exit id=>some (.exit id)
 | .ret=>some .ret
def ER(w:World)(F:Nat→Prop)(ρ:Map)(e:Env)(tmps:Array Value):Prop:=∀t,VR w F ρ (get e t) (tmps.getD t undef)
structure Ctx where
 P:Program
 dM:zb
def ki(fz:Nat×Nat)(n:Nat):Prop:=∀o,o<n→(decide (fz.1≤o)&&decide (o<fz.2))=false
def bL(w:World)(F:Nat→Prop)(ρ:Map)(vs:Array Value)(at_:Nat)(cs:List SV):Prop:=
 ∀(j:Nat) c,cs[j]?=some c→∃v,vs[at_+j]?=some v∧VR w F ρ c v∧c.jg=true
def l6(w:World)(F:Nat→Prop)(ρ:Map):List MapEntry→List (SV×SV)→Prop
 |[],[]=>True
 |e::en,(k,v)::es=>oJ k=some e.key∧v.jg=true∧VR w F ρ v e.val∧l6 w F ρ en es
 |_,_=>False
def BR(C:Ctx)(w:World)(F:Nat→Prop)(ρ:Map)(l:Loc):aK→Prop
 | .dead=>True
 | .box cs=>l.bE=false∧l.arr=false∧l.base=0∧l.cB=0∧l.bT=cs.length∧∃vs ty fz,w.heap[l.cp]?=some (.cells vs ty fz)∧ki fz vs.size∧vs.size=cs.length∧bL w F ρ vs 0 cs
 | .arr cB z L exact=>l.arr=true∧l.cB=cB∧l.bT=z∧(∀(i:Nat) cs,L[i]?=some cs→cs.length=z)∧L.length≤l.cap∧(exact=true→l.cap=L.length)∧
    (l.bE=true→l.cap=0)∧
    (l.bE=false→∃vs ty fz,w.heap[l.cp]?=some (.cells vs ty fz)∧ki fz vs.size∧l.base+l.cap*z≤vs.size∧
      ∀(i:Nat) cs,L[i]?=some cs→bL w F ρ vs (l.base+i*z) cs)
 | .loop r st pend=>l.bE=false∧l.arr=false∧∃q:Loop,w.heap[l.cp]?=some (.loop q)∧q.state=st∧q.pending=nh pend∧q.params.toList=r.ps∧
    (∃g nt,nt≤q.tmps.size∧(∀t∈r.ps,t<nt)∧eG C.P C.dM g nt q.assign=some r.assign∧eG C.P C.dM g nt q.body=some r.body)∧ER w F ρ r.env q.tmps
 | .map es=>l.bE=false∧l.arr=false∧∃(en:Array MapEntry) (cl:Nat),w.heap[l.cp]?=some (.map en cl)∧l6 w F ρ en.toList es
section
def aK.live:aK→Bool
 | .dead=>false
 |_=>true
def Own(ρ:Map)(H:ae)(b:Nat)(l:Loc):Prop:=(∃x,H.bl[b]?=some x∧x.live=true)∧ρ b=some l∧l.bE=false
structure HR(C:Ctx)(ρ:Map)(F:Nat→Prop)(H:ae)(w:World):Prop where
 jx:∀b l,ρ b=some l→b<H.bl.length
 live:∀(b:Nat) x,H.bl[b]?=some x→x.live=true→∃l,ρ b=some l∧BR C w F ρ l x
 apart:∀b b' l l',Own ρ H b l→Own ρ H b' l'→l.cp=l'.cp→b=b'
 own:∀b l,Own ρ H b l→¬F l.cp∧l.cp<w.heap.size
 ia:∀B,F B→B<w.heap.size
def Clean(N:Nat)(es:List (Nat×Nat)):Prop:=∀p∈es,¬(p.1<N∧N<p.2)
def AE(C:Ctx)(N:Nat)(ρ:Map)(F:Nat→Prop)(H:ae)(w:World):Prop:=∀b x l,b<N→H.bl[b]?=some x→x.live=true→ρ b=some l→BR C w F (ρ.cut N) l x
structure Ext0(C:Ctx)(ρ:Map)(F:Nat→Prop)(H:ae)(w:World)(ρ':Map)(F':Nat→Prop)(H':ae)(w':World):Prop where
 map:∀b l,ρ b=some l→∃l',ρ' b=some l'∧(l'=l∨(H.ro≤b∧l.arr=true∧l.cB<l'.cB))
 ia:∀B,F B→F' B
 new:∀B,F' B→F B∨w.heap.size≤B∨∃b l,Own ρ H b l∧H.ro≤b∧l.cp=B
 frame:∀B,B<w.heap.size→(∀b l,Own ρ H b l→H.ro≤b→l.cp≠B)→w'.heap[B]?=w.heap[B]?
 size:w.heap.size≤w'.heap.size
 old:∀b l',Own ρ' H' b l'→w.heap.size≤l'.cp∨∃l,Own ρ H b l∧l.cp=l'.cp
 ro:H'.ro=H.ro
 bV:∀p∈H.bV,p∈H'.bV
 inv:∀N,N≤H'.bl.length→Clean N H'.bV→(N≤H.bl.length→AE C N ρ F H w)→AE C N ρ' F' H' w'
 lp:∀(B:Nat) (q:Loop),w.heap[B]?=some (.loop q)→∃q':Loop,w'.heap[B]?=some (.loop q')
 ln:H.bl.length≤H'.bl.length
 out:w'.os=w.os∧w'.output=w.output
structure Ext(C:Ctx)(ρ:Map)(F:Nat→Prop)(H:ae)(w:World)(ρ':Map)(F':Nat→Prop)(H':ae)(w':World):Prop extends Ext0 C ρ F H w ρ' F' H' w' where
 nd:∀b l',ρ' b=some l'→(∃l,ρ b=some l)∨H.bl.length≤b
section
variable{C:Ctx}{ρ ρ' ρ'':Map}{F F' F'':Nat→Prop}{H H' H'':ae}{w w' w'':World}
theorem Ext.refl(ρ:Map)(F:Nat→Prop)(H:ae)(w:World):Ext C ρ F H w ρ F H w:=
 ⟨⟨fun _ l h=>⟨l,h,.inl rfl⟩,fun _ h=>h,fun _ h=>.inl h,fun _ _ _=>rfl,aa8 _,fun _ l h=>.inr ⟨l,h,rfl⟩,rfl,fun _ h=>h,fun N hN _ h=>h hN,fun _ q h=>⟨q,h⟩,aa8 _,⟨rfl,rfl⟩⟩,fun _ l h=>.inl ⟨l,h⟩⟩
theorem Ext0.trans(h:Ext0 C ρ F H w ρ' F' H' w')(h':Ext0 C ρ' F' H' w' ρ'' F'' H'' w''):Ext0 C ρ F H w ρ'' F'' H'' w'' where
 map:=fun b l hl=>by
  obtain⟨l1,h1,e1⟩:=h.map b l hl
  obtain⟨l2,h2,e2⟩:=h'.map b l1 h1
  refine⟨l2,h2,?_⟩
  rcases e1 with rfl|⟨r1,a1,v1⟩
  ·rcases e2 with rfl|⟨r2,a2,v2⟩
   ·exact .inl rfl
   ·exact .inr ⟨h.ro▸r2,a2,v2⟩
  ·rcases e2 with rfl|⟨_,_,v2⟩
   ·exact .inr ⟨r1,a1,v1⟩
   ·exact .inr ⟨r1,a1,by omega⟩
 ia:=fun B hB=>h'.ia B (h.ia B hB)
 new:=fun B hB=>by
  rcases h'.new B hB with h1|h1|⟨b,l,ho,hr,rfl⟩
  ·exact h.new B h1
  ·exact .inr (.inl (abv h.size h1))
  ·rcases h.old b l ho with h2|⟨l0,h2,e2⟩
   ·exact .inr (.inl h2)
   ·exact .inr (.inr ⟨b,l0,h2,h.ro▸hr,e2⟩)
 frame:=fun B hB hno=>by
  rw[h'.frame B (abZ hB h.size) (fun b l ho hr e=>?_),h.frame B hB hno]
  rcases h.old b l ho with h2|⟨l0,h2,e2⟩
  ·omega
  ·exact hno b l0 h2 (h.ro▸hr) (e2.trans e)
 size:=abv h.size h'.size
 old:=fun b l ho=>by
  rcases h'.old b l ho with h1|⟨l1,h1,e1⟩
  ·exact .inl (abv h.size h1)
  ·rcases h.old b l1 h1 with h2|⟨l0,h2,e2⟩
   ·exact .inl (e1▸h2)
   ·exact .inr ⟨l0,h2,e2.trans e1⟩
 ro:=h'.ro.trans h.ro
 bV:=fun p hp=>h'.bV p (h.bV p hp)
 inv:=fun N hN hc h0=>h'.inv N hN hc (fun hN'=>h.inv N hN' (fun p hp=>hc p (h'.bV p hp)) h0)
 lp:=fun B q hq=>let⟨q1,h1⟩:=h.lp B q hq;h'.lp B q1 h1
 ln:=abv h.ln h'.ln
 out:=⟨h'.out.1.trans h.out.1,h'.out.2.trans h.out.2⟩
theorem Ext.trans(h:Ext C ρ F H w ρ' F' H' w')(h':Ext C ρ' F' H' w' ρ'' F'' H'' w''):Ext C ρ F H w ρ'' F'' H'' w'':=
 ⟨h.toExt0.trans h'.toExt0,fun b l hl=>by
   rcases h'.nd b l hl with⟨l1,h1⟩|h1
   ·exact h.nd b l1 h1
   ·exact .inr (abv h.ln h1)⟩
theorem Ext0.le(h:Ext0 C ρ F H w ρ' F' H' w'):ρ.le ρ':=fun b l hl=>by
 obtain⟨l',h1,e⟩:=h.map b l hl
 exact⟨l',h1,e.imp id (fun⟨_,a,v⟩=>⟨a,v⟩)⟩
theorem Ext0.keeps(h:Ext0 C ρ F H w ρ' F' H' w')(hr:HR C ρ F H w):dH F w w':=fun B hB=>
 h.frame B (hr.ia B hB) (fun b l ho _ e=>(hr.own b l ho).1 (e▸hB))
theorem Ext0.vr(h:Ext0 C ρ F H w ρ' F' H' w')(hr:HR C ρ F H w){c:SV}{v:Value}(hv:VR w F ρ c v):VR w' F' ρ' c v:=
 hv.mono (h.keeps hr) h.ia h.le
theorem Ext0.er(h:Ext0 C ρ F H w ρ' F' H' w')(hr:HR C ρ F H w){e:Env}{t:Array Value}(hv:ER w F ρ e t):ER w' F' ρ' e t:=
 fun i=>h.vr hr (hv i)
theorem bL.mono(hk:dH F w w')(hF:∀B,F B→F' B)(hle:ρ.le ρ'){vs:Array Value}{n:Nat}{cs:List SV}(h:bL w F ρ vs n cs):bL w' F' ρ' vs n cs:=
 fun j c hj=>let⟨v,hv,hr,h1⟩:=h j c hj;⟨v,hv,hr.mono hk hF hle,h1⟩
theorem l6.mono(hk:dH F w w')(hF:∀B,F B→F' B)(hle:ρ.le ρ'):∀{en:List MapEntry} {es:List (SV×SV)},l6 w F ρ en es→l6 w' F' ρ' en es
 |[],[],_=>trivial
 |_::_,(_,_)::_,⟨h1,h2,h3,h4⟩=>⟨h1,h2,h3.mono hk hF hle,l6.mono hk hF hle h4⟩
 |[],_::_,h=>h.elim
 |_::_,[],h=>h.elim
theorem BR.mono(hk:dH F w w')(hF:∀B,F B→F' B)(hle:ρ.le ρ'){l:Loc}{x:aK}(hb:l.bE=false→w'.heap[l.cp]?=w.heap[l.cp]?)
 (h:BR C w F ρ l x):BR C w' F' ρ' l x:=by
 cases x with
 |dead=>trivial
 |box cs=>
  obtain⟨h1,h2,h3,h4,h5,vs,ty,fz,h6,h7,h8,h9⟩:=h
  exact⟨h1,h2,h3,h4,h5,vs,ty,fz,(hb h1).trans h6,h7,h8,h9.mono hk hF hle⟩
 |arr cB z L exact'=>
  obtain⟨h1,h2,h3,h4,h5,h6,h7,h8⟩:=h
  refine⟨h1,h2,h3,h4,h5,h6,h7,fun hv=>?_⟩
  obtain⟨vs,ty,fz,a,b,c,d⟩:=h8 hv
  exact⟨vs,ty,fz,(hb hv).trans a,b,c,fun i cs hi=>(d i cs hi).mono hk hF hle⟩
 |loop r st pend=>
  obtain⟨h1,h2,q,h3,h4,h5,h6,h7,h8⟩:=h
  exact⟨h1,h2,q,(hb h1).trans h3,h4,h5,h6,h7,fun t=>(h8 t).mono hk hF hle⟩
 |map es=>
  obtain⟨h1,h2,en,cl,h3,h4⟩:=h
  exact⟨h1,h2,en,cl,(hb h1).trans h3,h4.mono hk hF hle⟩
theorem HR.same(hr:HR C ρ F H w)(hs:w.heap.size≤w'.heap.size)(hh:∀B,B<w.heap.size→w'.heap[B]?=w.heap[B]?)(hout:w'.os=w.os∧w'.output=w.output:=by exact⟨rfl,rfl⟩):HR C ρ F H w'∧Ext C ρ F H w ρ F H w':=by
 have hk:dH F w w':=fun B hB=>hh B (hr.ia B hB)
 refine⟨⟨hr.jx,fun b x hb hx=>?_,hr.apart,fun b l ho=>⟨(hr.own b l ho).1,abZ (hr.own b l ho).2 hs⟩,fun B hB=>abZ (hr.ia B hB) hs⟩,?_⟩
 ·obtain⟨l,hl,hbr⟩:=hr.live b x hb hx
  exact⟨l,hl,hbr.mono hk (fun _ h=>h) (Map.le_refl _) (fun hv=>hh _ (hr.own b l ⟨⟨x,hb,hx⟩,hl,hv⟩).2)⟩
 ·refine⟨⟨fun _ l h=>⟨l,h,.inl rfl⟩,fun _ h=>h,fun _ h=>.inl h,fun B hB _=>hh B hB,hs,fun _ l h=>.inr ⟨l,h,rfl⟩,rfl,fun _ h=>h,fun N hN _ h0 b x l hb hx hxl hl=>?_,fun B q hq=>⟨q,(hh B (abq.1 hq).1).trans hq⟩,aa8 _,hout⟩,fun _ l h=>.inl ⟨l,h⟩⟩
  exact(h0 hN b x l hb hx hxl hl).mono hk (fun _ h=>h) (Map.le_refl _) (fun hv=>hh _ (hr.own b l ⟨⟨x,hx,hxl⟩,hl,hv⟩).2)
def Map.put(ρ:Map)(b:Nat)(l:Loc):Map:=fun b'=>if b'=b then some l else ρ b'
theorem Map.bJ(ρ:Map)(b:Nat)(l:Loc):ρ.put b l b=some l:=by simp[Map.put]
theorem Map.bu(ρ:Map){b b':Nat}(l:Loc)(h:b'≠b):ρ.put b l b'=ρ b':=by simp[Map.put,h]
theorem HR.push(hr:HR C ρ F H w)(hs:w.heap.size≤w'.heap.size)(hh:∀B,B<w.heap.size→w'.heap[B]?=w.heap[B]?)
 (x:aK) (l:Loc) (hl:l.bE=false→w.heap.size≤l.cp∧l.cp<w'.heap.size) (hx:BR C w' F (ρ.put H.bl.length l) l x) (hout:w'.os=w.os∧w'.output=w.output:=by exact⟨rfl,rfl⟩) :
 HR C (ρ.put H.bl.length l) F (bM H x) w'∧Ext C ρ F H w (ρ.put H.bl.length l) F (bM H x) w':=by
 have hne:∀b l',ρ b=some l'→b≠H.bl.length:=fun b l' h=>acQ (hr.jx b l' h)
 have hle:ρ.le (ρ.put H.bl.length l):=fun b l' h=>⟨l',by rw[Map.bu _ _ (hne b l' h)];exact h,.inl rfl⟩
 have hk:dH F w w':=fun B hB=>hh B (hr.ia B hB)
 have hown:∀b l',Own (ρ.put H.bl.length l) (bM H x) b l'→(b=H.bl.length∧l'=l)∨Own ρ H b l':=by
  intro b l' ⟨⟨y,hy,hyl⟩,hm,hv⟩
  by_cases hb:b=H.bl.length
  ·subst hb
   rw[Map.bJ]at hm
   exact .inl ⟨rfl,by cases hm;rfl⟩
  ·rw[Map.bu _ _ hb]at hm
   refine .inr ⟨⟨y,?_,hyl⟩,hm,hv⟩
   have hlt:=hr.jx b l' hm
   simpa[bM,aa6 hlt]using hy
 refine⟨⟨fun b l' h=>?_,fun b y hb hy=>?_,fun b b' l1 l2 h1 h2 he=>?_,fun b l' ho=>?_,fun B hB=>abZ (hr.ia B hB) hs⟩,?_⟩
 ·by_cases hb:b=H.bl.length
  ·subst hb;simp[bM]
  ·rw[Map.bu _ _ hb]at h
   have:=hr.jx b l' h
   simp[bM];omega
 ·by_cases hb':b=H.bl.length
  ·subst hb'
   simp[bM]at hb
   subst hb
   exact⟨l,Map.bJ _ _ _,hx⟩
  ·have hlt:b<H.bl.length:=by
    have:=(aaS.1 hb).1
    simp[bM]at this;omega
   rw[bM,aa6 hlt]at hb
   obtain⟨l',hl',hbr⟩:=hr.live b y hb hy
   exact⟨l',by rw[Map.bu _ _ hb'];exact hl',hbr.mono hk (fun _ h=>h) hle (fun hv=>hh _ (hr.own b l' ⟨⟨y,hb,hy⟩,hl',hv⟩).2)⟩
 ·rcases hown b l1 h1 with⟨e1,f1⟩|o1<;>rcases hown b' l2 h2 with⟨e2,f2⟩|o2
  ·rw[e1,e2]
  ·subst f1
   have:=(hr.own b' l2 o2).2
   have:=(hl h1.2.2).1
   omega
  ·subst f2
   have:=(hr.own b l1 o1).2
   have:=(hl h2.2.2).1
   omega
  ·exact hr.apart b b' l1 l2 o1 o2 he
 ·rcases hown b l' ho with⟨_,f1⟩|o1
  ·subst f1
   have h1:=hl ho.2.2
   exact⟨fun hF=>by have:=hr.ia _ hF;omega,h1.2⟩
  ·have h1:=hr.own b l' o1
   exact⟨h1.1,abZ h1.2 hs⟩
 ·refine⟨⟨fun b l' h=>⟨l',by rw[Map.bu _ _ (hne b l' h)];exact h,.inl rfl⟩,fun _ h=>h,fun _ h=>.inl h,fun B hB _=>hh B hB,hs,fun b l' ho=>?_,rfl,fun _ h=>h,fun N hN _ h0 b y l' hb hy hyl hm=>?_,fun B q hq=>⟨q,(hh B (abq.1 hq).1).trans hq⟩,by simp[bM],hout⟩,fun b l' h=>?_⟩
  ·rcases hown b l' ho with⟨_,f1⟩|o1
   ·subst f1;exact .inl (hl ho.2.2).1
   ·exact .inr ⟨l',o1,rfl⟩
  ·have hN':N≤H.bl.length+1:=by simpa[bM]using hN
   by_cases hb':b=H.bl.length
   ·subst hb'
    rw[Map.bJ]at hm;cases hm
    simp[bM]at hy
    subst hy
    refine hx.mono (fun _ _=>rfl) (fun _ h=>h) (fun b1 l1 h1=>⟨l1,?_,.inl rfl⟩) (fun _=>rfl)
    have:b1<N:=by
     by_cases e:b1=H.bl.length
     ·omega
     ·rw[Map.bu _ _ e]at h1
      have:=hr.jx b1 l1 h1
      omega
    simp[Map.cut,this,h1]
   ·have hlt:b<H.bl.length:=by omega
    rw[Map.bu _ _ hb']at hm
    rw[bM,aa6 hlt]at hy
    have hsm:=fun hv=>hh l'.cp (hr.own b l' ⟨⟨y,hy,hyl⟩,hm,hv⟩).2
    by_cases hNl:N≤H.bl.length
    ·refine(h0 hNl b y l' hb hy hyl hm).mono hk (fun _ h=>h) (fun b1 l1 h1=>⟨l1,?_,.inl rfl⟩) hsm
     unfold Map.cut at h1⊢
     split at h1
     ·rename_i h2;rw[if_pos h2,Map.bu _ _ (by omega)];exact h1
     ·cases h1
    ·obtain⟨l2,h2,hbr⟩:=hr.live b y hy hyl
     rw[hm]at h2;cases h2
     refine hbr.mono hk (fun _ h=>h) (fun b1 l1 h1=>⟨l1,?_,.inl rfl⟩) hsm
     have:=hr.jx b1 l1 h1
     unfold Map.cut
     rw[if_pos (by omega),Map.bu _ _ (by omega)];exact h1
  ·by_cases hb':b=H.bl.length
   ·exact .inr (by omega)
   ·rw[Map.bu _ _ hb']at h;exact .inl ⟨l',h⟩
theorem HR.set(hr:HR C ρ F H w){b:Nat}{x y:aK}{l l':Loc}{refs:Nat}(hH:cz H b y refs=some H')(hb:H.bl[b]?=some x)(hx:x.live=true)(hl:ρ b=some l)
 (hs:w.heap.size≤w'.heap.size) (hh:∀B,B<w.heap.size→(l.bE=false→B≠l.cp)→w'.heap[B]?=w.heap[B]?)
 (hl':l'.bE=false→(l.bE=false∧l'.cp=l.cp)∨(w.heap.size≤l'.cp∧l'.cp<w'.heap.size))
 (hver:l'=l∨(l.arr=true∧l.cB<l'.cB))
 (hy:y.live=true→BR C w' F (ρ.put b l') l' y) (hcut:y.live=true→∀N,refs≤N→b<N→BR C w F (ρ.cut N) l x→BR C w' F ((ρ.put b l').cut N) l' y)
 (hlk:(∃r st p,x=.loop r st p)→∃r st p,y=.loop r st p:=by(rintro⟨_,_,_,h⟩;cases h)) (hout:w'.os=w.os∧w'.output=w.output:=by exact⟨rfl,rfl⟩) :
 HR C (ρ.put b l') F H' w'∧Ext C ρ F H w (ρ.put b l') F H' w':=by
 have hro:H.ro≤b∧b<H.bl.length∧H'.bl=H.bl.set b y∧H'.ro=H.ro∧H'.bV=(bif decide (refs≤b+1)then H.bV else(b,refs)::H.bV):=by
  unfold cz at hH
  by_cases h:(decide (H.ro≤b)&&decide (b<H.bl.length))=true
  ·rw[h]at hH
   simp at h
   simp only[abb,abd]at hH
   subst hH
   exact⟨h.1,h.2,rfl,rfl,rfl⟩
  ·rw[ac5]at h;rw[h]at hH;simp at hH
 obtain⟨hro,hlt,hbl,hroe,hesc⟩:=hro
 have hle:ρ.le (ρ.put b l'):=fun b' l1 h=>by
  by_cases e:b'=b
  ·subst e;rw[hl]at h;cases h;exact⟨l',Map.bJ _ _ _,hver⟩
  ·exact⟨l1,by rw[Map.bu _ _ e];exact h,.inl rfl⟩
 have hbo:l.bE=false→Own ρ H b l:=fun hv=>⟨⟨x,hb,hx⟩,hl,hv⟩
 have hk:dH F w w':=fun B hB=>hh B (hr.ia B hB) (fun hv e=>(hr.own b l (hbo hv)).1 (e▸hB))
 have bn:∀b',b'≠b→H'.bl[b']?=H.bl[b']?:=fun b' e=>by rw[hbl,aa2 (Ne.symm e)]
 have hgetb:H'.bl[b]?=some y:=by rw[hbl];simp[hlt]
 have hown:∀b' l1,Own (ρ.put b l') H' b' l1→(b'=b∧l1=l'∧y.live=true)∨(b'≠b∧Own ρ H b' l1):=by
  intro b' l1 ⟨⟨z,hz,hzl⟩,hm,hv⟩
  by_cases e:b'=b
  ·subst e
   rw[Map.bJ]at hm;cases hm
   rw[hgetb]at hz;cases hz
   exact .inl ⟨rfl,rfl,hzl⟩
  ·rw[Map.bu _ _ e]at hm
   rw[bn b' e]at hz
   exact .inr ⟨e,⟨z,hz,hzl⟩,hm,hv⟩
 have hsame:∀b' l1,b'≠b→Own ρ H b' l1→w'.heap[l1.cp]?=w.heap[l1.cp]?:=fun b' l1 e ho=>
  hh _ (hr.own b' l1 ho).2 (fun hv h=>e (hr.apart b' b l1 l ho (hbo hv) h))
 refine⟨⟨fun b' l1 h=>?_,fun b' z hz hzl=>?_,fun b1 b2 l1 l2 h1 h2 he=>?_,fun b' l1 ho=>?_,fun B hB=>abZ (hr.ia B hB) hs⟩,?_⟩
 ·rw[hbl,abf]
  by_cases e:b'=b
  ·subst e;exact hlt
  ·rw[Map.bu _ _ e]at h;exact hr.jx b' l1 h
 ·by_cases e:b'=b
  ·subst e
   rw[hgetb]at hz;cases hz
   exact⟨l',Map.bJ _ _ _,hy hzl⟩
  ·rw[bn b' e]at hz
   obtain⟨l1,hl1,hbr⟩:=hr.live b' z hz hzl
   exact⟨l1,by rw[Map.bu _ _ e];exact hl1,hbr.mono hk (fun _ h=>h) hle (fun hv=>hsame b' l1 e ⟨⟨z,hz,hzl⟩,hl1,hv⟩)⟩
 ·rcases hown b1 l1 h1 with⟨e1,f1,_⟩|⟨e1,o1⟩<;>rcases hown b2 l2 h2 with⟨e2,f2,_⟩|⟨e2,o2⟩
  ·rw[e1,e2]
  ·subst f1
   rcases hl' h1.2.2 with⟨hv,hq⟩|hq
   ·exact absurd (hr.apart b2 b l2 l o2 (hbo hv) (by rw[←he,hq])) e2
   ·have:=(hr.own b2 l2 o2).2;omega
  ·subst f2
   rcases hl' h2.2.2 with⟨hv,hq⟩|hq
   ·exact absurd (hr.apart b1 b l1 l o1 (hbo hv) (by rw[he,hq])) e1
   ·have:=(hr.own b1 l1 o1).2;omega
  ·exact hr.apart b1 b2 l1 l2 o1 o2 he
 ·rcases hown b' l1 ho with⟨_,f1,_⟩|⟨_,o1⟩
  ·subst f1
   rcases hl' ho.2.2 with⟨hv,hq⟩|hq
   ·have:=hr.own b l (hbo hv)
    exact⟨hq▸this.1,hq▸abZ this.2 hs⟩
   ·exact⟨fun hF=>by have:=hr.ia _ hF;omega,hq.2⟩
  ·have:=hr.own b' l1 o1
   exact⟨this.1,abZ this.2 hs⟩
 ·refine⟨⟨fun b' l1 h=>?_,fun _ h=>h,fun _ h=>.inl h,fun B hB hno=>hh B hB (fun hv e=>hno b l (hbo hv) hro e.symm),hs,fun b' l1 ho=>?_,hroe,fun p hp=>?_,fun N hN hc h0 b' z l1 hb1 hz hzl hm=>?_,fun B q hq=>?_,by rw[hbl,abf];exact aa8 _,hout⟩,fun b' l1 h=>?_⟩
  ·by_cases e:b'=b
   ·subst e;rw[hl]at h;cases h
    exact⟨l',Map.bJ _ _ _,hver.imp id (fun⟨a,v⟩=>⟨hro,a,v⟩)⟩
   ·exact⟨l1,by rw[Map.bu _ _ e];exact h,.inl rfl⟩
  ·rcases hown b' l1 ho with⟨e1,f1,_⟩|⟨e1,o1⟩
   ·subst f1;subst e1
    rcases hl' ho.2.2 with⟨hv,hq⟩|hq
    ·exact .inr ⟨l,hbo hv,hq.symm⟩
    ·exact .inl hq.1
   ·exact .inr ⟨l1,o1,rfl⟩
  ·rw[hesc]
   cases decide (refs≤b+1)with
   |true=>exact hp
   |false=>exact abP _ hp
  ·have hN':N≤H.bl.length:=by rw[hbl,abf]at hN;exact hN
   by_cases e:b'=b
   ·subst e
    rw[hgetb]at hz;cases hz
    rw[Map.bJ]at hm;cases hm
    refine hcut hzl N ?_ hb1 (h0 hN' b' x l hb1 hb hx hl)
    by_cases hd:refs≤b'+1
    ·omega
    ·have:(b',refs)∈H'.bV:=by
      rw[hesc];simp[hd]
     have:=hc _ this
     simp only at this
     omega
   ·rw[bn b' e]at hz
    rw[Map.bu _ _ e]at hm
    refine(h0 hN' b' z l1 hb1 hz hzl hm).mono hk (fun _ h=>h) (fun b1 l2 h1=>?_) (fun hv=>hsame b' l1 e ⟨⟨z,hz,hzl⟩,hm,hv⟩)
    unfold Map.cut at h1⊢
    split at h1
    ·rename_i h2
     rw[if_pos h2]
     by_cases e1:b1=b
     ·subst e1;rw[hl]at h1;cases h1;exact⟨l',Map.bJ _ _ _,hver⟩
     ·exact⟨l2,by rw[Map.bu _ _ e1];exact h1,.inl rfl⟩
    ·cases h1
  ·have hB:=(abq.1 hq).1
   by_cases hbl:l.bE=false∧B=l.cp
   ·obtain⟨hv,rfl⟩:=hbl
    obtain⟨l1,hl1,hbr⟩:=hr.live b x hb hx
    rw[hl]at hl1;cases hl1
    cases x with
    |dead=>cases hx
    |box cs=>obtain⟨_,_,_,_,_,vs,ty,fz,h6,_⟩:=hbr;rw[hq]at h6;cases h6
    |arr cB z L ex=>
     obtain⟨_,_,_,_,_,_,_,h8⟩:=hbr
     obtain⟨vs,ty,fz,h6,_⟩:=h8 hv
     rw[hq]at h6;cases h6
    |map es=>obtain⟨_,_,en,cl,h6,_⟩:=hbr;rw[hq]at h6;cases h6
    |loop r st p=>
     obtain⟨r',st',p',rfl⟩:=hlk ⟨r,st,p,rfl⟩
     obtain⟨_,ha,_⟩:=hbr
     have:l'=l:=by
      rcases hver with e|⟨e,_⟩
      ·exact e
      ·rw[ha]at e;cases e
     subst this
     obtain⟨_,_,q',h3,_⟩:=hy rfl
     exact⟨q',h3⟩
   ·exact⟨q,(hh B hB (fun hv e=>hbl ⟨hv,e⟩)).trans hq⟩
  ·by_cases e:b'=b
   ·subst e;exact .inl ⟨l,hl⟩
   ·rw[Map.bu _ _ e]at h;exact .inl ⟨l1,h⟩
end
end
section
section
variable{C:Ctx}{ρ:Map}{F:Nat→Prop}{H H':ae}{w w':World}{e:Env}{a:Act}
theorem aj{A:Type}{c:Bool}{x:Option A}{y:A}(h:(bif c then x else none)=some y):c=true∧x=some y:=by
 cases c with
 |true=>exact⟨rfl,h⟩
 |false=>cases h
theorem nU{A:Type}{l:List (Option A)}{r:List A}(h:bQ l=some r):l=r.map some:=by
 induction l generalizing r with
 |nil=>simp[bQ]at h;subst h;rfl
 |cons x l ih=>
  cases x with
  |none=>simp[bQ]at h
  |some x=>
   simp only[bQ,aaW]at h
   obtain⟨r',h1,rfl⟩:=h
   rw[ih h1];rfl
theorem dY{A B:Type}{f:A→Option B}{l:List A}{r:List B}(h:bQ (l.map f)=some r) :
 r.length=l.length∧∀(j:Nat) x y,l[j]?=some x→r[j]?=some y→f x=some y:=by
 have h1:=nU h
 have hl:r.length=l.length:=by have:=congrArg List.length h1;simpa using this.symm
 refine⟨hl,fun j x y hx hy=>?_⟩
 have h2:=congrArg (·[j]?) h1
 simp[hx,hy]at h2
 exact h2
theorem tK:∀(d:Nat) {v:Value} {s:SV},lW d v=some s→VR w F ρ s v:=by
 intro d
 induction d with
 |zero=>intro v s h;simp[lW]at h
 |succ d ih=>
  intro v s h
  unfold lW at h
  split at h
  ·cases h;exact .bool _
  ·cases h;exact .int _ _
  ·cases h;exact .str _
  ·cases h;exact .dc
  ·cases h
   exact VR.ay (L:=[]) (fun _ _=>undef) (aa8 _) (fun _=>rfl) (by simp) (.inl rfl) (by simp) (by simp)
  ·cases h;exact .dg
  ·rename_i cs
   simp only[aaY]at h
   obtain⟨r,h1,h2⟩:=h
   by_cases hok:r.all SV.jg=true
   ·rw[hok]at h2
    simp only[abb,abd]at h2
    subst h2
    obtain⟨hl,hp⟩:=dY h1
    refine .agg (by simpa using hl) (fun j c hj=>?_) (fun j c v hj hv=>ih (hp j v c (by simpa using hv) hj))
    exact abj.1 hok c (aa3 hj)
   ·rw[ac5]at hok;rw[hok]at h2;simp at h2
  ·cases h
theorem bc{x:Operand}{y:bZ}(h:bC x=some y)(he:ER w F ρ e a.tmps):VR w F ρ (ev e y) (a.eval x):=by
 unfold bC at h
 split at h
 ·cases h;exact he _
 ·simp only[aaW]at h
  obtain⟨s,h1,rfl⟩:=h
  exact tK 2 h1
 ·cases h
  exact .fn rfl (by simp)
 ·cases h
theorem iH{xs:Array Operand}{ys:List bZ}(h:je xs=some ys)(he:ER w F ρ e a.tmps) :
 (ys.map (ev e)).length=xs.size∧∀(j:Nat) c v,(ys.map (ev e))[j]?=some c→(xs.map a.eval)[j]?=some v→VR w F ρ c v:=by
 obtain⟨hl,hp⟩:=dY h
 refine⟨by simpa using hl,fun j c v hc hv=>?_⟩
 simp at hc hv
 obtain⟨y,hy,rfl⟩:=hc
 obtain⟨x,hx,rfl⟩:=hv
 exact bc (hp j x y (by simpa using hx) hy) he
def dF(C:Ctx)(ρ:Map)(F:Nat→Prop)(H:ae)(w:World)(v:SV)(H':ae)(val:Value)(w':World):Prop:=
 ∃ρ' F',VR w' F' ρ' v val∧HR C ρ' F' H' w'∧Ext C ρ F H w ρ' F' H' w'
theorem dF.same(hr:HR C ρ F H w){v:SV}{val:Value}(hv:VR w F ρ v val):dF C ρ F H w v H val w:=⟨ρ,F,hv,hr,Ext.refl _ _ _ _⟩
def Dh(P:Program)(w:World)(s:Sem Next)(val:Value)(w':World):Prop:=s.run P w=.ok (.value val) w'∨(s.run P w=.ok .skip w'∧val=undef)
def bO(C:Ctx)(s:Sem Next)(ρ:Map)(F:Nat→Prop)(H:ae)(w:World)(v:SV)(H':ae):Prop:=
 ∃val w',Dh C.P w s val w'∧dF C ρ F H w v H' val w'
theorem bO.val{s:Sem Value}(hr:HR C ρ F H w){v:SV}{val:Value}(hs:s.run C.P w=.ok val w)(hv:VR w F ρ v val) :
 bO C (do pure (.value (←s))) ρ F H w v H:=
 ⟨val,w,.inl (by simp[hs,pure,Sem.run]),dF.same hr hv⟩
theorem bO.sI{s:Sem Value}{v:SV}{val:Value}(hs:s.run C.P w=.ok val w')(hd:dF C ρ F H w v H' val w') :
 bO C (do pure (.value (←s))) ρ F H w v H':=
 ⟨val,w',.inl (by simp[hs,pure,Sem.run]),hd⟩
theorem fm{cs:List SV}{v:Value}(h:VR w F ρ (.agg cs) v):∃vs,v=.agg vs∧cs.length=vs.size∧bL w F ρ vs 0 cs:=by
 cases h with
 |agg hn h1 hv=>
  rename_i vs
  refine⟨vs,rfl,hn,fun j c hj=>?_⟩
  have hlt:=(aaS.1 hj).1
  have hv':vs[j]?=some vs[j]:=abU (by omega)
  exact⟨vs[j],by simpa using hv',hv j c _ hj hv',h1 j c hj⟩
theorem gG{c:SV}{cs:List SV}{v:Value}(h:cu c=some cs)(hv:VR w F ρ c v):cs.length=v.cells.size∧bL w F ρ v.cells 0 cs∧c.refs=SV.refs.aJ cs:=by
 unfold cu at h
 split at h
 ·cases h
  obtain⟨vs,rfl,h1,h2⟩:=fm hv
  exact⟨h1,h2,rfl⟩
 ·rename_i hna
  by_cases hok:c.jg=true
  ·rw[hok]at h
   simp only[abb,abd]at h
   subst h
   have h1:=hv.one hok
   have hc:v.cells= #[v]:=by cases v<;>simp_all [Value.cells,jv]
   rw[hc]
   refine⟨rfl,fun j d hj=>?_,by simp[SV.refs.aJ]⟩
   cases j with
   |zero=>simp at hj;subst hj;exact⟨v,rfl,hv,hok⟩
   |succ j=>simp at hj
  ·rw[ac5]at hok;rw[hok]at h;simp at h
theorem qi{ag:Bool}{n o at_:Nat}{cs:List SV}{s:SV}{vs:Array Value}(h:cX ag n cs o=some s)(hc:bL w F ρ vs at_ cs)
 (hsz:at_+cs.length≤vs.size):(ag=true→VR w F ρ s (.agg (vs.extract (at_+o) (at_+o+n))))∧(ag=false→∃v,vs[at_+o]?=some v∧VR w F ρ s v):=by
 unfold cX at h
 cases ag with
 |false=>
  refine⟨by simp,fun _=>?_⟩
  simp only[abc]at h
  obtain⟨v,h1,h2,_⟩:=hc o s h
  exact⟨v,h1,h2⟩
 |true=>
  refine⟨fun _=>?_,by simp⟩
  by_cases hle:o+n≤cs.length
  ·simp[hle]at h
   subst h
   have hj:∀j c,((cs.drop o).take n)[j]?=some c→j<n∧cs[o+j]?=some c:=by
    intro j c hj
    rw[abp]at hj
    split at hj
    ·rw[abI]at hj;exact⟨by assumption,hj⟩
    ·cases hj
   refine .agg (by simp;omega) (fun j c h=>?_) (fun j c v h hv=>?_)
   ·obtain⟨_,h2⟩:=hj j c h
    obtain⟨_,_,_,h3⟩:=hc _ c h2
    exact h3
   ·obtain⟨hlt,h2⟩:=hj j c h
    obtain⟨v',h3,h4,_⟩:=hc _ c h2
    rw[adS]at hv
    have:v'=v:=by
     split at hv
     ·rw[←aa5]at h3;rw[h3]at hv;exact acV hv
     ·cases hv
    exact this▸h4
  ·simp[hle]at h
end
end
section
section
variable{P:Program}{w:World}
theorem eX{t:TypeId}{ag:Bool}(h:jk P t=some ag):(isAgg t).run P w=.ok ag w:=by
 unfold jk at h
 cases hu:P.underlying t with
 |none=>rw[hu]at h;cases h
 |some d=>
  rw[hu]at h
  unfold isAgg
  simp only[Sem.run_bind,run_underlying hu,Result.andThen]
  cases d<;>simp at h<;>subst h<;>rfl
theorem bR{t:TypeId}{n:Nat}(h:fQ P t=some n):(sizeOf t).run P w=.ok n w:=by
 unfold fQ at h
 simp only[aaW]at h
 obtain⟨i,hi,rfl⟩:=h
 unfold sizeOf
 simp only[Sem.run_bind,run_typeInfo w hi,Result.andThen]
 rfl
theorem dp(B o j:Nat):(⟨B,o,none⟩:Addr).add j=⟨B,o+j,none⟩:=by unfold Addr.add;split<;>simp_all
theorem mX{B o:Nat}{vs:Array Value}{ty:TypeId}{fz:Nat×Nat}(h:w.heap[B]?=some (.cells vs ty fz)):w.cell? ⟨B,o,none⟩=vs[o]?:=by
 simp[World.cell?,h]
theorem j8{t:TypeId}{ag:Bool}{n:Nat}(hag:jk P t=some ag)(hsz:fQ P t=some n){B o:Nat}(f:Nat→Value)
 (hc:∀j,j<(if ag then n else 1)→w.cell? ⟨B,o+j,none⟩=some (f j)) :
 (loadVar t ⟨B,o,none⟩).run P w=.ok (if ag then .agg ((List.range n).map f).toArray else f 0) w:=by
 unfold loadVar
 simp only[Sem.run_bind,eX hag,Result.andThen]
 cases ag with
 |true=>
  simp only[if_true]at hc⊢
  simp only[Sem.run_bind,bR hsz,Result.andThen,run_loadCells w ⟨B,o,none⟩ n f (fun j hj=>by rw[dp];exact hc j hj)]
  rfl
 |false=>
  have:=hc 0 (by simp)
  simp only[acL]at this
  simp only[abE,if_false,run_load,this]
theorem qO{t:TypeId}{ag:Bool}{n:Nat}(hag:jk P t=some ag)(hsz:fQ P t=some n){B o:Nat}{vs:Array Value}{ty:TypeId}{fz:Nat×Nat}
 (hb:w.heap[B]?=some (.cells vs ty fz)) (hle:o+(if ag then n else 1)≤vs.size) :
 (ag=true→(loadVar t ⟨B,o,none⟩).run P w=.ok (.agg (vs.extract o (o+n))) w)∧(ag=false→∀v,vs[o]?=some v→(loadVar t ⟨B,o,none⟩).run P w=.ok v w):=by
 have h:=j8 (w:=w) hag hsz (B:=B) (o:=o) (fun j=>vs.getD (o+j) undef) (fun j hj=>by
  rw[mX hb]
  have:o+j<vs.size:=by omega
  simp[this])
 constructor
 ·rintro rfl
  rw[h]
  simp only[if_true]at hle⊢
  congr 2
  apply Array.ext
  ·simp;omega
  ·intro i h1 h2
   simp at h1
   have:o+i<vs.size:=by omega
   simp[this]
 ·rintro rfl v hv
  rw[h]
  simp[hv]
def my(vs:Array Value)(k:Nat)(xs:List Value):Array Value:=(vs.toList.take k++xs++vs.toList.drop (k+xs.length)).toArray
def ff(w:World)(B:Nat)(vs:Array Value)(ty:TypeId)(fz:Nat×Nat):World:={w with heap:=w.heap.setIfInBounds B (.cells vs ty fz)}
theorem gZ{B B':Nat}{vs:Array Value}{ty:TypeId}{fz:Nat×Nat}(h:B'≠B):(ff w B vs ty fz).heap[B']?=w.heap[B']?:=by
 simp[ff,abN (Ne.symm h)]
theorem rZ{B:Nat}{vs:Array Value}{ty:TypeId}{fz:Nat×Nat}:(ff w B vs ty fz).heap.size=w.heap.size:=by simp[ff]
theorem ja{B:Nat}{vs:Array Value}{ty:TypeId}{fz:Nat×Nat}(h:B<w.heap.size):(ff w B vs ty fz).heap[B]?=some (.cells vs ty fz):=by
 simp[ff,h]
theorem iM{vs:Array Value}{k:Nat}{xs:List Value}(h:k+xs.length≤vs.size):(my vs k xs).size=vs.size:=by
 simp[my];omega
theorem jt{vs:Array Value}{k:Nat}{xs:List Value}(h:k+xs.length≤vs.size)(j:Nat) :
 (my vs k xs)[j]?=if j<k then vs[j]? else if j<k+xs.length then xs[j-k]? else vs[j]?:=by
 unfold my
 simp only[acR]
 rw[aaU,acf]
 have hl:(vs.toList.take k).length=k:=by simp;omega
 rw[hl]
 split
 ·rw[abp];simp[*]
 ·rw[acf]
  split
  ·rw[if_pos (by omega)]
  ·rw[if_neg (by omega),abI]
   simp only[adZ]
   congr 1;omega
theorem Ia(v:Value):jv v=v.oneCell':=by cases v<;>rfl
theorem dS(B o:Nat)(ty:TypeId)(fz:Nat×Nat):∀(xs:List Value) (i:Nat) (vs:Array Value) (w:World),w.heap[B]?=some (.cells vs ty fz)→ki fz vs.size→
 o+i+xs.length≤vs.size→(∀v∈xs,jv v=true)→(storeCells ⟨B,o,none⟩ xs i).run P w=.ok () (ff w B (my vs (o+i) xs) ty fz)
 |[],i,vs,w,hb,ht,hle,h1=>by
  have hB:B<w.heap.size:=(abq.1 hb).1
  have:my vs (o+i) []=vs:=by simp[my]
  rw[this]
  simp only[storeCells]
  have:ff w B vs ty fz=w:=by
   unfold ff
   have:w.heap.setIfInBounds B (.cells vs ty fz)=w.heap:=by
    apply adp
    intro j
    by_cases e:B=j
    ·subst e;rw[hb];simp[hB]
    ·rw[abN e]
   rw[this]
  rw[this];rfl
 |v::r,i,vs,w,hb,ht,hle,h1=>by
  have hB:B<w.heap.size:=(abq.1 hb).1
  simp only[abg]at hle
  have hlt:o+i<vs.size:=by omega
  have hcell:w.cell? ⟨B,o+i,none⟩=some vs[o+i]:=by rw[mX hb];simp[hlt]
  have hfz:w.frozen? ⟨B,o+i,none⟩=false:=by simp only[World.frozen?,hb];exact ht _ hlt
  have cz:w.setCell ⟨B,o+i,none⟩ v=ff w B (vs.setIfInBounds (o+i) v) ty fz:=by
   unfold World.setCell ff
   congr 1
   apply adp
   intro j
   by_cases e:B=j
   ·subst e
    have hb':=(abq.1 hb).2
    rw[ad0]
    simp[hb,hB]
    rw[hb']
   ·rw[abN e]
    simp[ad0,e]
  have hst:(store ((⟨B,o,none⟩:Addr).add i) v).run P w=.ok () (ff w B (vs.setIfInBounds (o+i) v) ty fz):=by
   rw[dp,run_store P w _ v _ (by rw[←Ia];exact h1 v (by simp)),hcell]
   simp only[hfz,cz]
   rfl
  have ih:=dS B o ty fz r (i+1) (vs.setIfInBounds (o+i) v) (ff w B (vs.setIfInBounds (o+i) v) ty fz) (ja hB) (by simpa using ht) (by simp;omega) (fun x hx=>h1 x (by simp[hx]))
  simp only[storeCells,Sem.run_bind,hst,Result.andThen_ok,ih]
  congr 1
  unfold ff
  congr 1
  rw[Array.setIfInBounds_setIfInBounds]
  congr 2
  apply adp
  intro j
  rw[jt (by simp;omega),jt (by simp;omega)]
  simp only[abg]
  by_cases e1:j<o+i
  ·rw[if_pos (by omega),if_pos e1,abN (by omega)]
  ·by_cases e2:j=o+i
   ·subst e2
    rw[if_pos (by omega),if_neg (by omega),if_pos (by omega)]
    simp[hlt]
   ·have a1:¬j<o+(i+1):=by omega
    simp only[a1,e1,if_false]
    by_cases e3:j<o+(i+1)+r.length
    ·have e4:j<o+i+(r.length+1):=by omega
     simp only[e3,e4,if_true]
     rw[show j-(o+i)=(j-(o+(i+1)))+1 by omega]
     simp
    ·have e4:¬j<o+i+(r.length+1):=by omega
     simp only[e3,e4,if_false]
     rw[abN (by omega)]
theorem jL{t:TypeId}{n:Nat}(hsz:fQ P t=some n){B o:Nat}{vs:Array Value}{ty:TypeId}{fz:Nat×Nat}{v:Value}
 (hb:w.heap[B]?=some (.cells vs ty fz)) (ht:ki fz vs.size) (hn:v.cells.size=n) (hle:o+n≤vs.size) (h1:∀x∈v.cells.toList,jv x=true) :
 (storeVar t ⟨B,o,none⟩ v).run P w=.ok () (ff w B (my vs o v.cells.toList) ty fz):=by
 unfold storeVar
 simp only[Sem.run_bind,bR hsz,Result.andThen,hn,ne_eq,not_true,if_false]
 have:=dS (P:=P) B o ty fz v.cells.toList 0 vs w hb ht (by simp;omega) h1
 simp only[acL]at this
 simpa[Sem.run_bind]using this
end
end
section
section
variable{C:Ctx}{ρ:Map}{F:Nat→Prop}{H H':ae}{w:World}{e:Env}{a:Act}{s:SV}
theorem ze{v:Value}{cs:List SV}(h:bL w F ρ v.cells 0 cs)(hn:cs.length=v.cells.size):∀x∈v.cells.toList,jv x=true:=by
 intro x hx
 obtain⟨j,hj,rfl⟩:=List.mem_iff_getElem.1 hx
 simp at hj
 obtain⟨v',h1,h2,h3⟩:=h j _ (aa9 (by omega))
 have h4:v'=v.cells.toList[j]:=by
  rw[ach,abU hj]at h1
  simpa using(acV h1).symm
 rw[←h4]
 exact h2.one h3
theorem uq(hr:HR C ρ F H w){cs:List SV}{vs:Array Value}{ty:TypeId}(hn:cs.length=vs.size)(hc:bL w F ρ vs 0 cs) :
 dF C ρ F H w (.ptr H.bl.length 0 0 0) (bM H (.box cs)) (.pointer (some ⟨w.heap.size,0,none⟩)) {w with heap:=w.heap.push (.cells vs ty)}:=by
 let l:Loc:={cp:=w.heap.size,base:=0,cap:=0,bT:=cs.length,cB:=0,bE:=false,arr:=false}
 have hh:∀B,B<w.heap.size→({w with heap:=w.heap.push (.cells vs ty)}:World).heap[B]?=w.heap[B]?:=fun B hB=>by
  simp[acO,acQ hB]
 have hk:dH F w ({w with heap:=w.heap.push (.cells vs ty)}:World):=fun B hB=>hh B (hr.ia B hB)
 have hle:ρ.le (ρ.put H.bl.length l):=fun b l' h=>⟨l',by rw[Map.bu _ _ (acQ (hr.jx b l' h))];exact h,.inl rfl⟩
 have hp:=hr.push (w':={w with heap:=w.heap.push (.cells vs ty)}) (by simp) hh (.box cs) l (fun _=>⟨aa8 _,by simp[l]⟩)
  ⟨rfl,rfl,rfl,rfl,rfl,vs,ty,(0,0),by simp[l],fun o ho=>by simp,hn.symm,hc.mono hk (fun _ h=>h) hle⟩
 exact⟨_,F,.ptr (l:=l) (Map.bJ _ _ _) (aa8 _) rfl (fun _=>⟨rfl,by simp[l]⟩),hp.1,hp.2⟩
theorem zV{x:Operand}{y:bZ}(hx:bC x=some y)(hr:HR C ρ F H w)(he:ER w F ρ e a.tmps):bO C (pure (.value (a.eval x))) ρ F H w (ev e y) H:=
 ⟨a.eval x,w,.inl rfl,dF.same hr (bc hx he)⟩
theorem eC{b:Bool}{v:Value}(h:VR w F ρ (.bool b) v):v=.bool b:=by cases h;rfl
theorem fH{k:IntKind}{n:Int}{v:Value}(h:VR w F ρ (.int k n) v):v=.int k n:=by cases h;rfl
theorem jE{t:ByteArray}{v:Value}(h:VR w F ρ (.str t) v):v=.string t:=by cases h;rfl
theorem Ef{c x y:Operand}{c' x' y':bZ}(hc:bC c=some c')(hx:bC x=some x')(hy:bC y=some y')(hr:HR C ρ F H w)(he:ER w F ρ e a.tmps)
 (h:kB (ev e c') (ev e x') (ev e y')=some s):bO C (do pure (.value (if←asBool (a.eval c)then a.eval x else a.eval y))) ρ F H w s H:=by
 have h1:=bc hc he
 have h2:=bc hx he
 have h3:=bc hy he
 generalize ev e c'=c1,ev e x'=x1,ev e y'=y1 at *
 have key:∀t,c1=.bool t→VR w F ρ s (if t then a.eval x else a.eval y)→bO C (do pure (.value (if←asBool (a.eval c)then a.eval x else a.eval y))) ρ F H w s H:=by
  intro t ht hv
  subst ht
  rw[eC h1]
  exact⟨_,w,.inl rfl,dF.same hr hv⟩
 have ht:∃t,c1=.bool t:=by
  unfold kB at h
  split at h
  ·exact⟨_,rfl⟩
  ·exact⟨_,rfl⟩
  ·cases h
 obtain⟨t,rfl⟩:=ht
 refine key t rfl ?_
 unfold kB at h
 split at h
 ·rename_i h0
  cases h
  cases h0
  rw[eC h2,eC h3]
  cases t<;>exact .bool _
 ·rename_i t' heq _
  cases heq
  cases t<;>simp at h<;>subst h<;>assumption
 ·cases h
theorem HB{t:TypeId}{x:Operand}{y:bZ}(hx:bC x=some y)(hr:HR C ρ F H w)(he:ER w F ρ e a.tmps){cs:List SV}(h:cu (ev e y)=some cs) :
 bO C (do pure (.value (←Instr.box t (a.eval x)))) ρ F H w (.ptr H.bl.length 0 0 0) (bM H (.box cs)):=by
 obtain⟨h1,h2,_⟩:=gG h (bc hx he)
 refine bO.sI (w':={w with heap:=w.heap.push (.cells (a.eval x).cells t)}) ?_ (uq hr h1 h2)
 simp[Instr.box,newVar,newRow,newObj,Sem.run]
theorem gj{t:TypeId}{z:List SV}(h:gI C.P t=some z):∃i v,C.P.info? t=some i∧i.zero=some v∧z.length=v.cells.size∧bL w F ρ v.cells 0 z:=by
 unfold gI at h
 split at h
 ·rename_i i hi
  split at h
  ·rename_i v hv
   simp only[aaY]at h
   obtain⟨r,h1,h2⟩:=h
   by_cases hok:r.all SV.jg=true
   ·rw[hok]at h2
    simp only[abb,abd]at h2
    subst h2
    obtain⟨hl,hp⟩:=dY h1
    refine⟨i,v,hi,hv,by simpa using hl,fun j c hj=>?_⟩
    have hlt:=(aaS.1 hj).1
    have hlt':j<v.cells.size:=by simp at hl;omega
    have hv':v.cells[j]?=some v.cells[j]:=abU hlt'
    exact⟨v.cells[j],by simpa using hv',tK 1 (hp j _ c (by simpa using hv') hj),abj.1 hok c (aa3 hj)⟩
   ·rw[ac5]at hok;rw[hok]at h2;simp at h2
  ·cases h
 ·cases h
theorem dK{t:TypeId}{i:TypeInfo}{v:Value}(hi:C.P.info? t=some i)(hz:i.zero=some v):(zeroValue t).run C.P w=.ok v w:=by
 unfold zeroValue
 simp only[Sem.run_bind,run_typeInfo w hi,Result.andThen,hz]
 rfl
theorem CD{t:TypeId}{z:List SV}(hz:gI C.P t=some z)(hr:HR C ρ F H w) :
 bO C (do pure (.value (←Instr.alloc t true (.tuple #[])))) ρ F H w (.ptr H.bl.length 0 0 0) (bM H (.box z)):=by
 obtain⟨i,v,hi,hv,h1,h2⟩:=gj (w:=w) (F:=F) (ρ:=ρ) hz
 refine bO.sI (w':={w with heap:=w.heap.push (.cells v.cells t)}) ?_ (uq hr h1 h2)
 simp[Instr.alloc,dK hi hv,newVar,newRow,newObj,Sem.run]
end
end
section
section
variable{C:Ctx}{ρ:Map}{F:Nat→Prop}{H H':ae}{w:World}{e:Env}{a:Act}{s:SV}
theorem u7{ag:Bool}{n o:Nat}{cs:List SV}(h:cX ag n cs o=some s):o+(if ag then n else 1)≤cs.length:=by
 unfold cX at h
 cases ag with
 |false=>simp only[abc]at h;have:=(aaS.1 h).1;simp;omega
 |true=>
  by_cases hle:o+n≤cs.length
  ·simpa using hle
  ·simp[hle]at h
theorem pN{P:Program}{t:TypeId}{ag:Bool}{n o at_ B:Nat}{cs:List SV}{vs:Array Value}{ty:TypeId}{fz:Nat×Nat}(hag:jk P t=some ag)(hsz:fQ P t=some n)
 (hb:w.heap[B]?=some (.cells vs ty fz)) (hc:bL w F ρ vs at_ cs) (hle:at_+cs.length≤vs.size) (h:cX ag n cs o=some s) :
 ∃val,(loadVar t ⟨B,at_+o,none⟩).run P w=.ok val w∧VR w F ρ s val:=by
 have h1:=u7 h
 obtain⟨h2,h3⟩:=qi h hc hle
 obtain⟨r1,r2⟩:=qO (o:=at_+o) hag hsz hb (by omega)
 cases ag with
 |true=>exact⟨_,r1 rfl,h2 rfl⟩
 |false=>obtain⟨v,hv,hr⟩:=h3 rfl;exact⟨v,r2 rfl v hv,hr⟩
theorem yC(hr:HR C ρ F H w){b cB i o:Nat}{v:Value}{cs:List SV}(hv:VR w F ρ (.ptr b cB i o) v)(hb:bn H b=some (.box cs))(hi:i=0) :
 ∃l vs ty fz,ρ b=some l∧l.bE=false∧l.arr=false∧l.cB=0∧v=.pointer (some ⟨l.cp,o,none⟩)∧w.heap[l.cp]?=some (.cells vs ty fz)∧ki fz vs.size∧vs.size=cs.length∧bL w F ρ vs 0 cs∧
  BR C w F ρ l (.box cs):=by
 obtain⟨l,hl,hbr⟩:=hr.live b _ hb rfl
 have hbr':=hbr
 obtain⟨h1,h2,h3,h4,h5,vs,ty,fz,h6,h7,h8,h9⟩:=hbr
 cases hv with
 |ptr h hv hc ha=>
  rw[hl]at h;cases h
  obtain⟨_,rfl⟩:=ha (by omega)
  subst hi
  exact⟨l,vs,ty,fz,hl,h1,h2,h4,by simp[h3],h6,h7,h8,h9,hbr'⟩
theorem xI(hr:HR C ρ F H w){b cB i o z:Nat}{v:Value}{L:List (List SV)}{ex:Bool}(hv:VR w F ρ (.ptr b cB i o) v)(hb:bn H b=some (.arr cB z L ex)) :
 ∃l vs ty fz,ρ b=some l∧l.bE=false∧l.cB=cB∧l.arr=true∧l.bT=z∧v=.pointer (some ⟨l.cp,l.base+i*z+o,none⟩)∧w.heap[l.cp]?=some (.cells vs ty fz)∧ki fz vs.size∧
  l.base+l.cap*z≤vs.size∧L.length≤l.cap∧(∀(i:Nat) cs,L[i]?=some cs→cs.length=z)∧(∀(i:Nat) cs,L[i]?=some cs→bL w F ρ vs (l.base+i*z) cs)∧BR C w F ρ l (.arr cB z L ex):=by
 obtain⟨l,hl,hbr⟩:=hr.live b _ hb rfl
 have hbr':=hbr
 obtain⟨h1,h2,h3,h4,h5,h6,h7,h8⟩:=hbr
 cases hv with
 |ptr h hv hc ha=>
  rw[hl]at h;cases h
  obtain⟨hvi,rfl⟩:=ha h2.symm
  obtain⟨vs,ty,fz,k1,k2,k3,k4⟩:=h8 hvi
  exact⟨l,vs,ty,fz,hl,hvi,h2,h1,h3,by rw[h3],k1,k2,k3,h5,h4,k4,hbr'⟩
theorem xO{L:List (List SV)}{i z cap base n:Nat}{cs:List SV}(hi:L[i]?=some cs)(hz:cs.length=z)(hL:L.length≤cap)(hn:base+cap*z≤n):base+i*z+cs.length≤n:=by
 have h1:=(aaS.1 hi).1
 have h2:(i+1)*z≤cap*z:=abX z (by omega)
 rw[abY,acW]at h2
 omega
theorem yb{c:SV}{t:TypeId}{ag:Bool}{n:Nat}{u:Value}(hag:jk C.P t=some ag)(hsz:fQ C.P t=some n)(hr:HR C ρ F H w)(hv:VR w F ρ c u)
 (h:db ag n H c=some s):∃q val,u=.pointer (some q)∧(loadVar t q).run C.P w=.ok val w∧VR w F ρ s val:=by
 unfold db at h
 split at h
 ·rename_i b cB i o
  split at h
  ·rename_i cs hb
   replace h:=aj h
   obtain⟨hi,h⟩:=h
   obtain⟨l,vs,ty,fz,hl,k1,k1a,k2,k3,k4,k5,k6,k7,_⟩:=yC hr hv hb (by simpa using hi)
   subst k3
   obtain⟨val,r1,r2⟩:=pN hag hsz k4 k7 (by omega) h
   rw[ach]at r1
   exact⟨_,val,rfl,r1,r2⟩
  ·rename_i ver' z L ex hb
   replace h:=aj h
   obtain⟨hve,h⟩:=h
   have hve:cB=ver':=by simpa using hve
   subst hve
   split at h
   ·rename_i cs hcs
    obtain⟨l,vs,ty,fz,hl,k1,k2,k2a,k3,k4,k5,k6,k7,k8,k9,k10,_⟩:=xI hr hv hb
    subst k4
    obtain⟨val,r1,r2⟩:=pN hag hsz k5 (k10 i cs hcs) (xO hcs (k9 i cs hcs) k8 k7) h
    exact⟨_,val,rfl,r1,r2⟩
   ·cases h
  ·cases h
 ·rename_i cs
  cases hv with
  |fN V hF hc h1 hv=>
   rename_i B o
   have hle:=u7 h
   have r:=j8 (w:=w) hag hsz (B:=B) (o:=o) V (fun j hj=>hc j _ (aa9 (by omega)))
   refine⟨_,_,rfl,r,?_⟩
   unfold cX at h
   cases ag with
   |false=>
    simp only[abc]at h
    exact(hv 0 s h).mono (fun _ _=>rfl) (fun _ h=>h) (jT _)
   |true=>
    simp at hle
    simp[hle]at h
    subst h
    refine .agg (by simp;omega) (fun j c hj=>?_) (fun j c v hj hv'=>?_)
    ·rw[abp]at hj
     split at hj
     ·exact h1 j c hj
     ·cases hj
    ·rw[abp]at hj
     split at hj
     ·rename_i hlt
      simp[hlt]at hv'
      subst hv'
      exact(hv j c hj).mono (fun _ _=>rfl) (fun _ h=>h) (jT _)
     ·cases hj
 ·cases h
theorem D9{t:TypeId}{ag:Bool}{n:Nat}{x:Operand}{y:bZ}(hag:jk C.P t=some ag)(hsz:fQ C.P t=some n)(hx:bC x=some y)(hr:HR C ρ F H w)(he:ER w F ρ e a.tmps)
 (h:db ag n H (ev e y)=some s):bO C (do pure (.value (←Instr.loadAt t (a.eval x)))) ρ F H w s H:=by
 obtain⟨q,val,hu,h1,h2⟩:=yb hag hsz hr (bc hx he) h
 refine bO.val hr (val:=val) ?_ h2
 unfold Instr.loadAt
 rw[hu]
 simpa[Instr.sureAddr,Sem.run]using h1
theorem kT{vs:Array Value}{at_ o n:Nat}{cs xs:List SV}{v:Value}(hc:bL w F ρ vs at_ cs)(hx:bL w F ρ v.cells 0 xs)(hn:xs.length=n)(hxn:xs.length=v.cells.size)(hle:o+n≤cs.length)
 (hsz:at_+cs.length≤vs.size):bL w F ρ (my vs (at_+o) v.cells.toList) at_ (fJ cs o n xs):=by
 intro j c hj
 have hl:v.cells.toList.length=n:=by simp;omega
 rw[jt (by omega),hl]
 unfold fJ at hj
 rw[aaU,acf]at hj
 have ht:(cs.take o).length=o:=by simp;omega
 rw[ht]at hj
 split at hj
 ·rename_i hlt
  rw[abp,if_pos hlt]at hj
  rw[if_pos (by omega)]
  exact hc j c hj
 ·rename_i hge
  rw[acf]at hj
  split at hj
  ·rename_i hlt
   rw[if_neg (by omega),if_pos (by omega)]
   obtain⟨v',h1,h2,h3⟩:=hx _ c hj
   refine⟨v',?_,h2,h3⟩
   rw[adZ,show at_+j-(at_+o)=0+(j-o) by omega]
   exact h1
  ·rename_i hge2
   rw[abI]at hj
   rw[if_neg (by omega),if_neg (by omega)]
   have:o+n+(j-o-xs.length)=j:=by omega
   rw[this]at hj
   exact hc j c hj
theorem ik{cs xs:List SV}{o n:Nat}(hn:xs.length=n)(hle:o+n≤cs.length):(fJ cs o n xs).length=cs.length:=by
 unfold fJ;simp;omega
theorem lS{vs:Array Value}{k n at_:Nat}{xs:List Value}{cs:List SV}(hc:bL w F ρ vs at_ cs)(hle:k+xs.length≤vs.size)(hap:at_+cs.length≤k∨k+xs.length≤at_) :
 bL w F ρ (my vs k xs) at_ cs:=by
 intro j c hj
 have hlt:=(aaS.1 hj).1
 obtain⟨v,h1,h2⟩:=hc j c hj
 refine⟨v,?_,h2⟩
 rw[jt hle]
 rcases hap with h|h
 ·rw[if_pos (by omega)];exact h1
 ·rw[if_neg (by omega),if_neg (by omega)];exact h1
theorem ca{b:Nat}{l:Loc}(h:ρ b=some l):ρ.put b l=ρ:=by
 funext b'
 by_cases e:b'=b
 ·subst e;rw[Map.bJ,h]
 ·rw[Map.bu _ _ e]
theorem kN(hr:HR C ρ F H w){b:Nat}{x y:aK}{l:Loc}{refs:Nat}{vs':Array Value}{ty:TypeId}{fz:Nat×Nat}(hH:cz H b y refs=some H')(hb:H.bl[b]?=some x)(hx:x.live=true)
 (hl:ρ b=some l) (hv:l.bE=false) (hy:y.live=true→∀ρ1:Map,(ρ1=ρ∨∃N,refs≤N∧ρ1=ρ.cut N)→BR C w F ρ1 l x→BR C (ff w l.cp vs' ty fz) F ρ1 l y)
 (hlk:(∃r st p,x=.loop r st p)→∃r st p,y=.loop r st p:=by(rintro⟨_,_,_,h⟩;cases h)) :
 HR C ρ F H' (ff w l.cp vs' ty fz)∧Ext C ρ F H w ρ F H' (ff w l.cp vs' ty fz):=by
 have:=hr.set (w':=ff w l.cp vs' ty fz) (l':=l) hH hb hx hl (by rw[rZ];exact aa8 _) (fun B hB hne=>gZ (hne hv)) (fun _=>.inl ⟨hv,rfl⟩) (.inl rfl) (fun hyl=>by
  rw[ca hl]
  obtain⟨l2,h2,hbr⟩:=hr.live b x hb hx
  rw[hl]at h2;cases h2
  exact hy hyl ρ (.inl rfl) hbr) (fun hyl N hN hbN hbr=>by rw[ca hl];exact hy hyl _ (.inr ⟨N,hN,rfl⟩) hbr) hlk
 rwa [ca hl]at this
def yg(C:Ctx)(ρ:Map)(F:Nat→Prop)(H H':ae)(w w':World)(refs:Nat):Prop:=
 ∀N,refs≤N→∀(b:Nat) z z' l,H.bl[b]?=some z→z.live=true→H'.bl[b]?=some z'→ρ b=some l→BR C w F (ρ.cut N) l z→BR C w' F (ρ.cut N) l z'
theorem sk(hr:HR C ρ F H w){b:Nat}{x y:aK}{l:Loc}{refs:Nat}{vs':Array Value}{ty:TypeId}{fz:Nat×Nat}(hH:cz H b y refs=some H')(hb:H.bl[b]?=some x)(hx:x.live=true)
 (hl:ρ b=some l) (hv:l.bE=false) (hy:∀ρ1:Map,(ρ1=ρ∨∃N,refs≤N∧ρ1=ρ.cut N)→BR C w F ρ1 l x→BR C (ff w l.cp vs' ty fz) F ρ1 l y) :
 yg C ρ F H H' w (ff w l.cp vs' ty fz) refs:=by
 intro N hN b' z z' l' hz hzl hz' hl' hbr
 have hbl:H'.bl=H.bl.set b y∧b<H.bl.length:=by
  unfold cz at hH
  replace hH:=aj hH
  obtain⟨h1,h2⟩:=hH
  simp only[aa1,aaX]at h1
  cases h2
  exact⟨rfl,h1.2⟩
 have hk:dH F w (ff w l.cp vs' ty fz):=fun B hB=>gZ (fun h=>(hr.own b l ⟨⟨x,hb,hx⟩,hl,hv⟩).1 (h▸hB))
 rw[hbl.1]at hz'
 by_cases e:b'=b
 ·subst e
  rw[hz]at hb;cases hb
  rw[hl]at hl';cases hl'
  simp[hbl.2]at hz'
  subst hz'
  exact hy _ (.inr ⟨N,hN,rfl⟩) hbr
 ·rw[aa2 (Ne.symm e),hz]at hz'
  cases hz'
  exact hbr.mono hk (fun _ h=>h) (Map.le_refl _) (fun hv'=>gZ (fun h=>e (hr.apart b' b l' l ⟨⟨z,hz,hzl⟩,hl',hv'⟩ ⟨⟨x,hb,hx⟩,hl,hv⟩ h)))
theorem jC(hr:HR C ρ F H w){b:Nat}{x:aK}{l:Loc}(hb:H.bl[b]?=some x)(hx:x.live=true)(hl:ρ b=some l)(hv:l.bE=false){vs:Array Value}{ty:TypeId}{fz:Nat×Nat} :
 dH F w (ff w l.cp vs ty fz):=fun B hB=>gZ (fun h=>(hr.own b l ⟨⟨x,hb,hx⟩,hl,hv⟩).1 (h▸hB))
theorem xW{A:Prop}{P Q R:Prop}(h1:A→P∧Q)(h2:A→R)(a:A):P∧Q∧R:=⟨(h1 a).1,(h1 a).2,h2 a⟩
theorem vu{t:TypeId}{n:Nat}{c p:SV}{u val:Value}(hsz:fQ C.P t=some n)(hr:HR C ρ F H w)(hp:VR w F ρ p u)(hv:VR w F ρ c val)
 (h:dZ n H c p=some H'):∃w',(Instr.storeAt t u val).run C.P w=.ok () w'∧HR C ρ F H' w'∧Ext C ρ F H w ρ F H' w'∧yg C ρ F H H' w w' c.refs:=by
 have hv1:∀ρ1:Map,(ρ1=ρ∨∃N,c.refs≤N∧ρ1=ρ.cut N)→VR w F ρ1 c val:=fun ρ1 h=>by
  rcases h with rfl|⟨N,hN,rfl⟩
  ·exact hv
  ·exact hv.cut N hN
 unfold Instr.storeAt
 unfold dZ at h
 split at h
 ·rename_i b cB i o
  simp only[aaY]at h
  obtain⟨xs,hxs,h⟩:=h
  obtain⟨q1,q2,_⟩:=gG hxs hv
  have q3:=ze q2 q1
  replace h:=aj h
  obtain⟨hn,h⟩:=h
  have hn:xs.length=n:=by simpa using hn
  ·split at h
   ·rename_i cs hb
    replace h:=aj h
    obtain⟨hi,h⟩:=h
    simp only[aa1,ab0,aaX]at hi
    ·obtain⟨hi,hle⟩:=hi
     obtain⟨l,vs,ty,fz,hl,k1,k1a,k2,k3,k4,k5,k6,k7,kb⟩:=yC hr hp hb hi
     rw[k3]
     have r:=jL (o:=o) hsz k4 k5 (by omega) (by omega) q3
     have hk:dH F w (ff w l.cp (my vs o val.cells.toList) ty fz):=jC hr hb rfl hl k1
     have hsz':(my vs o val.cells.toList).size=vs.size:=iM (by simp;omega)
     have hlt:l.cp<w.heap.size:=(abq.1 k4).1
     refine⟨_,by simpa[Instr.sureAddr,Sem.run]using r,xW (fun hy=>(kN hr h hb rfl hl k1 (fun _=>hy))) (fun hy=>sk hr h hb rfl hl k1 hy) (fun ρ1 hρ kb1=>?_)⟩
     obtain⟨g1,g2,g3,g4,g5,vs2,ty2,fz2,j1,j2,j3,j4⟩:=kb1
     rw[k4]at j1;cases j1
     obtain⟨_,q2',_⟩:=gG hxs (hv1 ρ1 hρ)
     refine⟨g1,g2,g3,g4,by rw[ik hn hle];exact g5,_,ty,fz,ja hlt,by rw[hsz'];exact k5,by rw[hsz',ik hn hle];exact k6,?_⟩
     have:=kT (at_:=0) j4 q2' hn q1 hle (by omega)
     rw[ach]at this
     exact this.mono hk (fun _ h=>h) (Map.le_refl _)
   ·rename_i ver' z L ex hb
    replace h:=aj h
    obtain⟨hve,h⟩:=h
    have hve:cB=ver':=by simpa using hve
    ·subst hve
     split at h
     ·rename_i cs hcs
      replace h:=aj h
      obtain⟨hle,h⟩:=h
      have hle:o+n≤cs.length:=by simpa using hle
      ·skip
       obtain⟨l,vs,ty,fz,hl,k1,k2,k2a,k3,k4,k5,k6,k7,k8,k9,k10,kb⟩:=xI hr hp hb
       rw[k4]
       have hel:=xO hcs (k9 i cs hcs) k8 k7
       have r:=jL (o:=l.base+i*z+o) hsz k5 k6 (by omega) (by omega) q3
       have hk:dH F w (ff w l.cp (my vs (l.base+i*z+o) val.cells.toList) ty fz):=jC hr hb rfl hl k1
       have hsz':(my vs (l.base+i*z+o) val.cells.toList).size=vs.size:=iM (by simp;omega)
       have hlt:l.cp<w.heap.size:=(abq.1 k5).1
       have hli:=(aaS.1 hcs).1
       refine⟨_,by simpa[Instr.sureAddr,Sem.run]using r,xW (fun hy=>(kN hr h hb rfl hl k1 (fun _=>hy))) (fun hy=>sk hr h hb rfl hl k1 hy) (fun ρ1 hρ kb1=>?_)⟩
       obtain⟨g1,g2,g3,g4,g5,g6,g7,g8⟩:=kb1
       obtain⟨vs2,ty2,fz2,j1,j2,j3,j4⟩:=g8 k1
       rw[k5]at j1;cases j1
       obtain⟨_,q2',_⟩:=gG hxs (hv1 ρ1 hρ)
       refine⟨g1,g2,g3,fun j ds hj=>?_,by simpa using g5,by simpa using g6,g7,fun _=>⟨_,ty,fz,ja hlt,by rw[hsz'];exact k6,by rw[hsz'];exact k7,fun j ds hj=>?_⟩⟩
       ·by_cases e1:j=i
        ·subst e1
         simp[hli]at hj
         subst hj
         rw[ik hn hle];exact k9 j cs hcs
        ·rw[aa2 (Ne.symm e1)]at hj
         exact g4 j ds hj
       ·by_cases e1:j=i
        ·subst e1
         simp[hli]at hj
         subst hj
         exact(kT (j4 j cs hcs) q2' hn q1 hle hel).mono hk (fun _ h=>h) (Map.le_refl _)
        ·rw[aa2 (Ne.symm e1)]at hj
         have hd:=k9 j ds hj
         have hz:=k9 i cs hcs
         refine(lS (n:=0) (j4 j ds hj) (by simp;omega) ?_).mono hk (fun _ h=>h) (Map.le_refl _)
         simp only[ada]
         rcases aea e1 with hlt'|hlt'
         ·left
          have:(j+1)*z≤i*z:=abX z hlt'
          rw[abY,acW]at this
          omega
         ·right
          have:(i+1)*z≤j*z:=abX z hlt'
          rw[abY,acW]at this
          omega
     ·cases h
   ·cases h
 ·cases h
theorem Bp{t:TypeId}{n:Nat}{x y:Operand}{x' y':bZ}(hsz:fQ C.P t=some n)(hx:bC x=some x')(hy:bC y=some y')(hr:HR C ρ F H w)(he:ER w F ρ e a.tmps)
 (h:dZ n H (ev e y') (ev e x')=some H'):bO C (do Instr.storeAt t (a.eval x) (a.eval y);pure .skip) ρ F H w .undef H':=by
 obtain⟨w',h1,h2,h3,_⟩:=vu hsz hr (bc hx he) (bc hy he) h
 exact⟨undef,w',.inr ⟨by simp[h1,pure,Sem.run],rfl⟩,ρ,F,.undef _,h2,h3⟩
end
end
section
section
variable{C:Ctx}{ρ:Map}{F:Nat→Prop}{H H':ae}{w:World}{e:Env}{a:Act}{s c d:SV}
theorem sU(hr:HR C ρ F H w){b cB i o:Nat}{v:Value}(hc:cur H (.ptr b cB i o)=true)(hv:VR w F ρ (.ptr b cB i o) v) :
 ∃l,ρ b=some l∧cB=l.cB∧l.bE=false∧v=.pointer (some ⟨l.cp,l.base+i*l.bT+o,none⟩):=by
 have key:∀l,ρ b=some l→cB=l.cB→∃l,ρ b=some l∧cB=l.cB∧l.bE=false∧v=.pointer (some ⟨l.cp,l.base+i*l.bT+o,none⟩):=by
  intro l hl hve
  cases hv with
  |ptr h h1 h2 h3=>
   rw[hl]at h;cases h
   obtain⟨k1,k2⟩:=h3 hve
   exact⟨l,hl,hve,k1,k2⟩
 unfold cur at hc
 split at hc
 ·rename_i b' v' i' o' heq
  cases heq
  split at hc
  ·rename_i cs hb
   obtain⟨l,hl,hbr⟩:=hr.live b _ hb rfl
   refine key l hl ?_
   cases hv with
   |ptr h h1 h2 h3=>rw[hl]at h;cases h;have:=hbr.2.2.2.1;omega
  ·rename_i v'' z L ex hb
   obtain⟨l,hl,hbr⟩:=hr.live b _ hb rfl
   refine key l hl ?_
   have:=hbr.2.1
   simp at hc;omega
  ·cases hc
 ·rename_i heq;cases heq
 ·rename_i hne _;exact absurd rfl (hne b cB i o)
theorem ec(hr:HR C ρ F H w){b cB off n:Nat}{v:Value}(hc:cur H (.bp b cB off n)=true)(hv:VR w F ρ (.bp b cB off n) v) :
 ∃l z L ex,ρ b=some l∧bn H b=some (.arr cB z L ex)∧BR C w F ρ l (.arr cB z L ex)∧(l.bE=true→∃a,v=.slice a 0 0∧off=0∧n=0)∧
  (l.bE=false→off+n≤l.cap∧∃a,v=.slice a n (l.cap-off)∧(off<l.cap→a=some ⟨l.cp,l.base+off*l.bT,none⟩)):=by
 unfold cur at hc
 split at hc
 ·rename_i heq;cases heq
 ·rename_i b' v' o' n' heq
  cases heq
  split at hc
  ·rename_i v'' z L ex hb
   simp at hc
   subst hc
   obtain⟨l,hl,hbr⟩:=hr.live b _ hb rfl
   cases hv with
   |bp h h1 h2 h3=>
    rw[hl]at h;cases h
    obtain⟨k1,k2⟩:=h3 hbr.2.1.symm
    exact⟨l,z,L,ex,hl,hb,hbr,k1,k2⟩
  ·cases hc
 ·rename_i hne;exact absurd rfl (hne b cB off n)
theorem nD{z:Nat}(h:ed H z c=true):cur H c=true:=by
 unfold ed at h
 split at h
 ·unfold cur
  split at h
  ·rename_i hb;simp only[hb];simp at h;simpa using h.1
  ·cases h
 ·rfl
 ·cases h
theorem zw{x:Operand}{y:bZ}(hx:bC x=some y)(hr:HR C ρ F H w)(he:ER w F ρ e a.tmps)(o:Oper)(ho:o.op=.nilCheck x)
 (h:cf e H (.eb y)=some (s,H')):bO C (execOp a.eval o) ρ F H w s H':=by
 have hv:=bc hx he
 simp only[cf]at h
 replace h:=aj h;obtain⟨hc,h⟩:=h
 simp only[aaW,abi]at h
 obtain⟨s',h,rfl,rfl⟩:=h
 suffices hs:∃u,a.eval x=.pointer (some u)∧s'=ev e y by
  obtain⟨u,hu,rfl⟩:=hs
  refine⟨a.eval x,w,.inl ?_,dF.same hr hv⟩
  unfold execOp
  simp only[ho,hu]
  rfl
 generalize ev e y=c at *
 generalize a.eval x=u at *
 unfold ld at h
 split at h
 ·cases h
  obtain⟨l,_,_,_,rfl⟩:=sU hr hc hv
  exact⟨_,rfl,rfl⟩
 ·cases h
  cases hv
  exact⟨_,rfl,rfl⟩
 ·cases h
theorem nA{op:BinOp}{t:TypeId}{x y:Operand}{u v:Value}(hu:jv u=true)(hn:u≠.nilIface):(eqGuard op t x y u v).run C.P w=.ok () w:=by
 unfold eqGuard
 cases op<;>simp<;>(try rfl)<;>(cases u<;>first|rfl|exact absurd rfl hn|(simp[jv]at hu;done))
theorem tR{op:BinOp}{t:TypeId}{x y:Operand}{u v:Value}(hu:jv u=true)(hn:u≠.nilIface){val:Value}(hr:HR C ρ F H w)(h:(binOp op t u v).run C.P w=.ok val w)(hs:VR w F ρ s val) :
 bO C (do pure (.value (←(do eqGuard op t x y u v;binOp op t u v)))) ρ F H w s H:=by
 refine bO.val hr ?_ hs
 simp only[Sem.run_bind,nA hu hn,Result.andThen,h]
theorem Du{op:BinOp}{t:TypeId}{k k2:IntKind}{p q:Int}(h:cS op (.int k p) (.int k2 q)=some s):∃val,(binOp op t (.int k p) (.int k2 q)).run C.P w=.ok val w∧VR w F ρ s val:=by
 cases op<;>simp only[cS]at h<;>(try (cases h;done))<;>(replace h:=aj h)<;>(obtain⟨hc,h⟩:=h)<;>(try simp only[aa1,ab0,abx,aa0,aaX]at hc) <;>
  simp only[abd]at h<;>subst h
 case add=>subst hc;exact⟨_,by simp[binOp,Op.intArith,Sem.run,pure],.int _ _⟩
 case sub=>subst hc;exact⟨_,by simp[binOp,Op.intArith,Sem.run,pure],.int _ _⟩
 case mul=>subst hc;exact⟨_,by simp[binOp,Op.intArith,Sem.run,pure],.int _ _⟩
 case quo=>obtain⟨rfl,hq⟩:=hc;exact⟨_,by simp[binOp,Op.intDiv,hq,Sem.run,pure],.int _ _⟩
 case rem=>obtain⟨rfl,hq⟩:=hc;exact⟨_,by simp[binOp,Op.intDiv,hq,Sem.run,pure],.int _ _⟩
 case and=>subst hc;exact⟨_,by simp[binOp,Op.intBits,Sem.run,pure],.int _ _⟩
 case or=>subst hc;exact⟨_,by simp[binOp,Op.intBits,Sem.run,pure],.int _ _⟩
 case xor=>subst hc;exact⟨_,by simp[binOp,Op.intBits,Sem.run,pure],.int _ _⟩
 case shl=>exact⟨_,by simp[binOp,Op.shift,Int.not_lt.2 hc,Sem.run,pure],.int _ _⟩
 case shr=>exact⟨_,by simp[binOp,Op.shift,Int.not_lt.2 hc,Sem.run,pure],.int _ _⟩
 case lss=>subst hc;exact⟨_,by simp[binOp,Op.intCmp,Sem.run,pure],.bool _⟩
 case leq=>subst hc;exact⟨_,by simp[binOp,Op.intCmp,Sem.run,pure],.bool _⟩
 case gtr=>subst hc;exact⟨_,by simp[binOp,Op.intCmp,Sem.run,pure],.bool _⟩
 case geq=>subst hc;exact⟨_,by simp[binOp,Op.intCmp,Sem.run,pure],.bool _⟩
 case eql=>subst hc;refine⟨.bool (p==q),by simp[binOp,Op.intCmp,Sem.run,pure],?_⟩;rw[show decide (p=q)=(p==q) by by_cases h:p=q<;>simp[h]];exact .bool _
 case neq=>subst hc;refine⟨.bool (p != q),by simp[binOp,Op.intCmp,Sem.run,pure],?_⟩;rw[show(!decide (p=q))=(p != q) by by_cases h:p=q<;>simp[h,bne]];exact .bool _
end
end
section
section
variable{C:Ctx}{ρ:Map}{F:Nat→Prop}{H H':ae}{w:World}{e:Env}{a:Act}{s c d:SV}
theorem qG(p q:ByteArray):(p.toList==q.toList)=decide (p=q):=by
 have h:∀x:ByteArray,x.toList=x.data.toList:=fun x=>by
  simp[ByteArray.toList_eq]
 rw[h,h]
 by_cases e:p=q
 ·subst e;simp
 ·have:p.data.toList≠q.data.toList:=fun h=>e (by cases p;cases q;simp at h;rw[h])
  simp[e]
  exact fun h=>this (by rw[h])
theorem DU{op:BinOp}{t:TypeId}{p q:ByteArray}(h:cS op (.str p) (.str q)=some s):∃val,(binOp op t (.string p) (.string q)).run C.P w=.ok val w∧VR w F ρ s val:=by
 cases op<;>simp only[cS]at h<;>(try (cases h;done))
 case add=>
  replace h:=aj h
  obtain⟨hc,h⟩:=h
  cases h
  simp at hc
  refine⟨_,?_,.str _⟩
  have:¬((p.size+q.size:Nat):Int)>IntKind.i64.max:=by
   have:IntKind.i64.max=9223372036854775807:=by decide
   omega
  simp only[binOp,Op.stringOp,if_neg this]
  rfl
 case eql=>cases h;exact⟨_,by simp[binOp,Op.stringOp,qG,Sem.run,pure],.bool _⟩
 case neq=>cases h;exact⟨_,by simp[binOp,Op.stringOp,qG,Sem.run,pure],.bool _⟩
theorem BS{op:BinOp}{t:TypeId}{p q:Bool}(ht:C.P.underlying t=some .bool)(h:vp op (.bool p) (.bool q)=some s):∃val,(binOp op t (.bool p) (.bool q)).run C.P w=.ok val w∧VR w F ρ s val:=by
 have he:(Op.equal t (.bool p) (.bool q)).run C.P w=.ok (p==q) w:=by
  have h1:∀d,(Op.equalIn (d+1) t (.bool p) (.bool q)).run C.P w=.ok (p==q) w:=fun d=>by
   simp only[Op.equalIn,Sem.run_bind,run_underlying ht,Result.andThen]
   rfl
  exact h1 9999
 cases op<;>simp only[vp]at h<;>(try (cases h;done))
 case eql=>cases h;exact⟨_,by simp[binOp,he],.bool _⟩
 case neq=>cases h;exact⟨_,by simp[binOp,he],.bool _⟩
theorem xl{op:BinOp}(h:cS op c d=some s):(∃k p k2 q,c=.int k p∧d=.int k2 q)∨(∃p q,c=.str p∧d=.str q):=by
 unfold cS at h
 split at h<;>first|exact .inl ⟨_,_,_,_,rfl,rfl⟩|exact .inr ⟨_,_,rfl,rfl⟩|(cases h;done)
theorem AF{op:BinOp}{t:TypeId}{x y:Operand}{x' y':bZ}(hx:bC x=some x')(hy:bC y=some y')
 (hr:HR C ρ F H w) (he:ER w F ρ e a.tmps) (h:cS op (ev e x') (ev e y')=some s) :
 bO C (do pure (.value (←(do eqGuard op t x y (a.eval x) (a.eval y);binOp op t (a.eval x) (a.eval y))))) ρ F H w s H:=by
 have h1:=bc hx he
 have h2:=bc hy he
 generalize ev e x'=c at *
 generalize ev e y'=d at *
 rcases xl h with⟨k,p,k2,q,rfl,rfl⟩|⟨p,q,rfl,rfl⟩
 ·rw[fH h1,fH h2]
  obtain⟨val,r1,r2⟩:=Du (C:=C) (w:=w) (F:=F) (ρ:=ρ) (t:=t) h
  exact tR rfl (by simp) hr r1 r2
 ·rw[jE h1,jE h2]
  obtain⟨val,r1,r2⟩:=DU (C:=C) (w:=w) (F:=F) (ρ:=ρ) (t:=t) h
  exact tR rfl (by simp) hr r1 r2
theorem Eh{op:BinOp}{t:TypeId}{x y:Operand}{x' y':bZ}(hx:bC x=some x')(hy:bC y=some y')
 (hr:HR C ρ F H w) (he:ER w F ρ e a.tmps) (hb2:C.P.underlying t=some .bool) (h:vp op (ev e x') (ev e y')=some s) :
 bO C (do pure (.value (←(do eqGuard op t x y (a.eval x) (a.eval y);binOp op t (a.eval x) (a.eval y))))) ρ F H w s H:=by
 have h1:=bc hx he
 have h2:=bc hy he
 generalize ev e x'=c at *
 generalize ev e y'=d at *
 have hk:∃p q,c=.bool p∧d=.bool q:=by
  unfold vp at h
  split at h<;>first|exact⟨_,_,rfl,rfl⟩|(cases h;done)
 obtain⟨p,q,rfl,rfl⟩:=hk
 rw[eC h1,eC h2]
 obtain⟨val,r1,r2⟩:=BS (w:=w) (F:=F) (ρ:=ρ) hb2 h
 exact tR rfl (by simp) hr r1 r2
theorem D7{t:TypeId}{x:Operand}{y:bZ}(hx:bC x=some y)(hr:HR C ρ F H w)(he:ER w F ρ e a.tmps){b:Bool}(h:ev e y=.bool b) :
 bO C (do pure (.value (←Op.unary .not (a.eval x)))) ρ F H w (.bool (!b)) H:=by
 have h1:=bc hx he
 rw[h]at h1
 rw[eC h1]
 exact bO.val hr (val:=.bool (!b)) rfl (.bool _)
theorem DJ{x:Operand}{y:bZ}(hx:bC x=some y)(hr:HR C ρ F H w)(he:ER w F ρ e a.tmps){k:IntKind}{n:Int}(h:ev e y=.int k n) :
 bO C (do pure (.value (←Op.unary .neg (a.eval x)))) ρ F H w (.int k (k.wrap (0-n))) H:=by
 have h1:=bc hx he
 rw[h]at h1
 rw[fH h1]
 exact bO.val hr (val:=.int k (k.wrap (0-n))) rfl (.int _ _)
theorem AY{sr ds:TypeId}{k j:IntKind}{x:Operand}{y:bZ}(hx:bC x=some y)(hs:C.P.underlying sr=some (.int j))(hd:C.P.underlying ds=some (.int k))(hr:HR C ρ F H w)(he:ER w F ρ e a.tmps)
 {k':IntKind} {n:Int} (h:ev e y=.int k' n):bO C (do pure (.value (←convert sr ds (a.eval x)))) ρ F H w (.int k (k.wrap n)) H:=by
 have h1:=bc hx he
 rw[h]at h1
 rw[fH h1]
 refine bO.val hr (val:=.int k (k.wrap n)) ?_ (.int _ _)
 unfold convert
 simp only[Sem.run_bind,run_underlying hs,run_underlying hd,Result.andThen]
 rfl
theorem B9{sr ds:TypeId}{x:Operand}{y:bZ}(hx:bC x=some y)(hs:C.P.underlying sr=some .string)(hd:C.P.underlying ds=some .string)(hr:HR C ρ F H w)(he:ER w F ρ e a.tmps)
 {t:ByteArray} (h:ev e y=.str t):bO C (do pure (.value (←convert sr ds (a.eval x)))) ρ F H w (.str t) H:=by
 have h1:=bc hx he
 rw[h]at h1
 rw[jE h1]
 refine bO.val hr (val:=.string t) ?_ (.str _)
 unfold convert
 simp only[Sem.run_bind,run_underlying hs,run_underlying hd,Result.andThen]
 rfl
theorem Ek{f:FuncId}{fs cs:Array Operand}{cs':List bZ}(hf:fs.isEmpty=true)(hx:je cs=some cs')(hr:HR C ρ F H w)(he:ER w F ρ e a.tmps) :
 bO C (do pure (.value (←Instr.makeFunc (.func f) (fs.map a.eval) (cs.map a.eval)))) ρ F H w (.fn f (cs'.map (ev e))) H:=by
 obtain⟨h1,h2⟩:=iH hx he
 have:fs.map a.eval= #[]:=by
  have:fs= #[]:=by simpa using hf
  subst this;simp
 rw[this]
 exact bO.val hr (val:=.func (.func f) #[] (cs.map a.eval)) rfl (.fn (by simpa using h1) h2)
theorem An{f:FuncId}{fs cs:Array Operand}{cs':List bZ}(hf:cs.isEmpty=true)(hx:je fs=some cs')(hr:HR C ρ F H w)(he:ER w F ρ e a.tmps) :
 bO C (do pure (.value (←Instr.makeFunc (.func f) (fs.map a.eval) (cs.map a.eval)))) ρ F H w (.oX f (cs'.map (ev e))) H:=by
 obtain⟨h1,h2⟩:=iH hx he
 have:cs.map a.eval= #[]:=by
  have:cs= #[]:=by simpa using hf
  subst this;simp
 rw[this]
 exact bO.val hr (val:=.func (.func f) (fs.map a.eval) #[]) rfl (.oX (by simpa using h1) h2)
theorem oU{t:TypeId}{fs:List Field}{i:Nat}{f:Field}(h:kI C.P t=some fs)(hf:fs[i]?=some f):∃gs,C.P.underlying t=some (.struct gs)∧gs[i]?=some f:=by
 unfold kI at h
 split at h
 ·rename_i gs hu
  cases h
  exact⟨gs,hu,by simpa using hf⟩
 ·cases h
theorem uK{off:Nat}{v:Value}(hr:HR C ρ F H w)(hc:cur H c=true)(hv:VR w F ρ c v)(h:fp off c=some s) :
 ∃B o,v=.pointer (some ⟨B,o,none⟩)∧VR w F ρ s (.pointer (some ⟨B,o+off,none⟩)):=by
 unfold fp at h
 split at h
 ·rename_i b cB i o
  cases h
  obtain⟨l,h1,h2,h3,rfl⟩:=sU hr hc hv
  exact⟨_,_,rfl,.ptr h1 (by omega) rfl (fun _=>⟨h3,by rw[aa5]⟩)⟩
 ·rename_i cs
  cases h
  cases hv with
  |fN V hF hk h1 hv=>
   refine⟨_,_,rfl,.fN (fun j=>V (off+j)) hF (fun j c hj=>?_) (fun j c hj=>?_) (fun j c hj=>?_)⟩<;>rw[abI]at hj
   ·rw[aa5];exact hk _ c hj
   ·exact h1 _ c hj
   ·exact hv _ c hj
 ·cases h
theorem Az{t:TypeId}{i n:Nat}{fs:List Field}{f:Field}{x:Operand}{y:bZ}(hx:bC x=some y)(hfs:kI C.P t=some fs)(hf:fs[i]?=some f)(hn:fQ C.P f.type=some (n+1))
 (hr:HR C ρ F H w) (he:ER w F ρ e a.tmps) (hc:cur H (ev e y)=true) (h:fp f.offset (ev e y)=some s):bO C (do pure (.value (←Instr.fieldAt t (a.eval x) i))) ρ F H w s H:=by
 obtain⟨gs,h1,h2⟩:=oU hfs hf
 obtain⟨B,o,h3,h4⟩:=uK hr hc (bc hx he) h
 refine bO.val hr ?_ h4
 unfold Instr.fieldAt
 simp only[Sem.run_bind,run_underlying h1,Result.andThen,h2,h3,Instr.sureAddr,fieldPlace,bR hn]
 simp[Sem.run,pure,dp]
theorem AL{t:TypeId}{i n:Nat}{ag:Bool}{fs:List Field}{f:Field}{x:Operand}{y:bZ}{cs:List SV}(hx:bC x=some y)(hfs:kI C.P t=some fs)(hf:fs[i]?=some f)(hag:jk C.P f.type=some ag)
 (hn:fQ C.P f.type=some n) (hr:HR C ρ F H w) (he:ER w F ρ e a.tmps) (hc:ev e y=.agg cs) (h:cX ag n cs f.offset=some s):bO C (do pure (.value (←Instr.field t (a.eval x) i))) ρ F H w s H:=by
 obtain⟨gs,h1,h2⟩:=oU hfs hf
 have hv:=bc hx he
 rw[hc]at hv
 obtain⟨vs,h3,h4,h5⟩:=fm hv
 obtain⟨p1,p2⟩:=qi h h5 (by omega)
 suffices hs:∃val,(part f.type vs f.offset).run C.P w=.ok val w∧VR w F ρ s val by
  obtain⟨val,r1,r2⟩:=hs
  refine bO.val hr ?_ r2
  unfold Instr.field
  simp only[Sem.run_bind,run_underlying h1,Result.andThen,h2,h3,asAgg]
  simpa[Sem.run,pure]using r1
 unfold part
 cases ag with
 |true=>
  refine⟨_,by simp only[Sem.run_bind,eX hag,Result.andThen,if_true,bR hn];rfl,by simpa using p1 rfl⟩
 |false=>
  obtain⟨v,k1,k2⟩:=p2 rfl
  rw[ach]at k1
  refine⟨v,by simp only[Sem.run_bind,eX hag,Result.andThen,abE,if_false,k1];rfl,k2⟩
theorem wz{x:Operand}{y:bZ}{vs:List SV}{i:Nat}(hx:bC x=some y)(hr:HR C ρ F H w)(he:ER w F ρ e a.tmps)(hc:ev e y=.bk vs)(h:vs[i]?=some s) :
 bO C (do pure (.value (←Instr.extract (a.eval x) i))) ρ F H w s H:=by
 have hv:=bc hx he
 rw[hc]at hv
 generalize a.eval x=u at *
 cases hv with
 |bk hn hv=>
  rename_i us
  have hlt:=(aaS.1 h).1
  have hu:us[i]?=some us[i]:=abU (by omega)
  refine bO.val hr (val:=us[i]) ?_ (hv i s _ h hu)
  simp only[Instr.extract,hu]
  rfl
theorem mR{n i:Nat}{v:Value}(h:iC n c=some i)(hv:VR w F ρ c v):∃k j,v=.int k j∧0≤j∧j<n∧i=j.toNat:=by
 unfold iC at h
 split at h
 ·rename_i k j
  replace h:=aj h
  obtain⟨hc,h⟩:=h
  cases h
  simp at hc
  exact⟨k,j,fH hv,hc.1,hc.2,rfl⟩
 ·cases h
theorem yE{t el:TypeId}{len n i:Nat}{x ix:Operand}{x' i':bZ}(hx:bC x=some x')(hi:bC ix=some i')(hu:C.P.underlying t=some (.array len el))(hn:fQ C.P el=some (n+1))
 (hr:HR C ρ F H w) (he:ER w F ρ e a.tmps) (hc:cur H (ev e x')=true) (h1:iC len (ev e i')=some i) (h:fp (i*(n+1)) (ev e x')=some s) :
 bO C (do pure (.value (←Instr.indexAt t (a.eval x) (a.eval ix)))) ρ F H w s H:=by
 obtain⟨B,o,h3,h4⟩:=uK hr hc (bc hx he) h
 obtain⟨k,j,h5,h6,h7,rfl⟩:=mR h1 (bc hi he)
 refine bO.val hr ?_ h4
 unfold Instr.indexAt
 simp only[Sem.run_bind,h5,asIntOf,run_underlying hu,Result.andThen,h3,Instr.sureAddr]
 simp only[pure,Sem.run,Result.andThen,h6,h7,and_self,if_true,Sem.run_bind,bR hn,dp]
theorem y5{t el:TypeId}{n:Nat}{x ix:Operand}{x' i':bZ}(hx:bC x=some x')(hi:bC ix=some i')(hu:C.P.underlying t=some (.slice el))(hn:fQ C.P el=some (n+1))
 (hr:HR C ρ F H w) (he:ER w F ρ e a.tmps) (hc:ed H (n+1) (ev e x')=true) (h:iy (ev e x') (ev e i')=some s) :
 bO C (do pure (.value (←Instr.indexAt t (a.eval x) (a.eval ix)))) ρ F H w s H:=by
 have hv:=bc hx he
 have hvi:=bc hi he
 generalize ev e x'=c at *
 generalize ev e i'=d at *
 suffices hs:∃B o len cap k j,a.eval x=.slice (some ⟨B,o,none⟩) len cap∧a.eval ix=.int k j∧0≤j∧j<len∧VR w F ρ s (.pointer (some ⟨B,o+j.toNat*(n+1),none⟩)) by
  obtain⟨B,o,len,cap,k,j,h1,h2,h3,h4,h5⟩:=hs
  refine bO.val hr ?_ h5
  unfold Instr.indexAt
  simp only[Sem.run_bind,h2,asIntOf,run_underlying hu,Result.andThen,h1,Instr.sureAddr]
  simp only[pure,Sem.run,Result.andThen,h3,h4,and_self,if_true,Sem.run_bind,bR hn,dp]
 generalize a.eval x=u at *
 unfold iy at h
 split at h
 ·rename_i z L f
  simp only[aaY,aaW]at h
  obtain⟨i,hi',cs,hcs,rfl⟩:=h
  obtain⟨k,j,h5,h6,h7,rfl⟩:=mR hi' hvi
  cases hv with
  |ay V hcap hfull hz hat h1 hv=>
   have hzn:z=n+1:=by
    unfold ed at hc
    simp at hc
    rcases hc with hc|hc
    ·exact hc
    ·subst hc;simp at hcs
   subst hzn
   rcases hat with h0|⟨B,o,ha,hF,hk⟩
   ·subst h0;simp at hcs
   ·subst ha
    exact⟨B,o,_,_,k,j,rfl,h5,h6,h7,.fN (fun q=>V j.toNat q) hF (fun q c hq=>hk _ q cs c hcs hq) (fun q c hq=>h1 _ q cs c hcs hq) (fun q c hq=>hv _ q cs c hcs hq)⟩
 ·rename_i b cB off m
  simp only[aaW]at h
  obtain⟨i,hi',rfl⟩:=h
  obtain⟨k,j,h5,h6,h7,rfl⟩:=mR hi' hvi
  obtain⟨l,z,L,ex,hl,hb,hbr,g1,g2⟩:=ec hr (nD hc) hv
  have hzn:z=n+1:=by
   unfold ed at hc
   simp[hb]at hc
   exact hc
  subst hzn
  cases hvi':l.bE with
  |true=>
   obtain⟨_,_,_,rfl⟩:=g1 hvi'
   simp at h7;omega
  |false=>
   obtain⟨g3,q,rfl,g4⟩:=g2 hvi'
   have:=g4 (by omega)
   subst this
   refine⟨_,_,_,_,k,j,rfl,h5,h6,h7,.ptr hl (acX hbr.2.1.symm) rfl (fun _=>⟨hvi',?_⟩)⟩
   have e1:l.bT=n+1:=hbr.2.2.1
   rw[e1,abY]
   congr 3
   simp[aa5]
 ·cases h
end
end
section
section
variable{C:Ctx}{ρ:Map}{F:Nat→Prop}{H H':ae}{w:World}{e:Env}{a:Act}{s c d:SV}
theorem zD{t el:TypeId}{len n i:Nat}{ag:Bool}{x ix:Operand}{x' i':bZ}{cs:List SV}(hx:bC x=some x')(hi:bC ix=some i')(hu:C.P.underlying t=some (.array len el))(hag:jk C.P el=some ag)(hn:fQ C.P el=some n)
 (hr:HR C ρ F H w) (he:ER w F ρ e a.tmps) (hc:ev e x'=.agg cs) (h1:iC len (ev e i')=some i) (h:cX ag n cs (i*n)=some s) :
 bO C (do pure (.value (←Instr.index t (a.eval x) (a.eval ix)))) ρ F H w s H:=by
 have hv:=bc hx he
 rw[hc]at hv
 obtain⟨vs,h3,h4,h5⟩:=fm hv
 obtain⟨k,j,k5,k6,k7,rfl⟩:=mR h1 (bc hi he)
 obtain⟨p1,p2⟩:=qi h h5 (by omega)
 suffices hs:∃val,(part el vs (j.toNat*n)).run C.P w=.ok val w∧VR w F ρ s val by
  obtain⟨val,r1,r2⟩:=hs
  refine bO.val hr ?_ r2
  unfold Instr.index
  simp only[Sem.run_bind,k5,asIntOf,run_underlying hu,Result.andThen,h3]
  simp only[pure,Sem.run,Result.andThen,k6,k7,and_self,if_true,Sem.run_bind,bR hn]
  exact r1
 unfold part
 cases ag with
 |true=>exact⟨_,by simp only[Sem.run_bind,eX hag,Result.andThen,if_true,bR hn];rfl,by simpa using p1 rfl⟩
 |false=>
  obtain⟨v,k1,k2⟩:=p2 rfl
  rw[ach]at k1
  exact⟨v,by simp only[Sem.run_bind,eX hag,Result.andThen,abE,if_false,k1];rfl,k2⟩
theorem yX{t:TypeId}{i:Nat}{x ix:Operand}{x' i':bZ}{b:ByteArray}{y:UInt8}(hx:bC x=some x')(hi:bC ix=some i')(hu:C.P.underlying t=some .string)
 (hr:HR C ρ F H w) (he:ER w F ρ e a.tmps) (hc:ev e x'=.str b) (h1:iC b.size (ev e i')=some i) (h:b.data[i]?=some y) :
 bO C (do pure (.value (←Instr.index t (a.eval x) (a.eval ix)))) ρ F H w (.int .u8 y.toNat) H:=by
 have hv:=bc hx he
 rw[hc]at hv
 obtain⟨k,j,k5,k6,k7,rfl⟩:=mR h1 (bc hi he)
 have hb:b[j.toNat]?=some y:=by
  obtain⟨hlt,hv'⟩:=abq.1 h
  have hlt':j.toNat<b.size:=hlt
  rw[getElem?_pos b j.toNat hlt']
  exact congrArg some hv'
 refine bO.val hr (val:=.int .u8 y.toNat) ?_ (.int _ _)
 unfold Instr.index
 simp only[Sem.run_bind,k5,asIntOf,run_underlying hu,Result.andThen,jE hv]
 simp only[pure,Sem.run,Result.andThen,k6,if_true,hb]
theorem D8{ats:Array TypeId}{t0 ty:TypeId}{x:Operand}{y:bZ}{b:ByteArray}(hx:bC x=some y)(h0:ats[0]?=some t0)(hu:C.P.underlying t0=some .string)(hr:HR C ρ F H w)(he:ER w F ρ e a.tmps)(hc:ev e y=.str b) :
 bO C (do pure (.value (←Builtin.len_ ats ty #[a.eval x]))) ρ F H w (.int .i64 b.size) H:=by
 have hv:=bc hx he
 rw[hc]at hv
 refine bO.val hr (val:=.int .i64 b.size) ?_ (.int _ _)
 unfold Builtin.len_
 simp only[h0]
 simp[run_underlying hu,jE hv,goInt]
theorem Dq{n:Nat}{v:Value}(hr:HR C ρ F H w)(hc:cur H c=true)(h:pc c=some n)(hv:VR w F ρ c v):∃q cap,v=.slice q n cap:=by
 unfold pc at h
 split at h
 ·cases h
  cases hv
  exact⟨_,_,rfl⟩
 ·cases h
  obtain⟨l,z,L,ex,_,_,_,g1,g2⟩:=ec hr hc hv
  cases hvi:l.bE with
  |true=>obtain⟨q,rfl,_,rfl⟩:=g1 hvi;exact⟨_,_,rfl⟩
  |false=>obtain⟨_,q,rfl,_⟩:=g2 hvi;exact⟨_,_,rfl⟩
 ·cases h
theorem EM{ats:Array TypeId}{t0 el ty:TypeId}{x:Operand}{y:bZ}{n:Nat}(hx:bC x=some y)(h0:ats[0]?=some t0)(hu:C.P.underlying t0=some (.slice el))(hr:HR C ρ F H w)(he:ER w F ρ e a.tmps)
 (hc:cur H (ev e y)=true) (h:pc (ev e y)=some n):bO C (do pure (.value (←Builtin.len_ ats ty #[a.eval x]))) ρ F H w (.int .i64 n) H:=by
 obtain⟨q,cap,hq⟩:=Dq hr hc h (bc hx he)
 refine bO.val hr (val:=.int .i64 n) ?_ (.int _ _)
 unfold Builtin.len_
 simp only[h0]
 simp[run_underlying hu,hq,goInt]
theorem E0{ats:Array TypeId}{t0 el ty:TypeId}{x:Operand}{n:Nat}(h0:ats[0]?=some t0)(hu:C.P.underlying t0=some (.array n el))(hr:HR C ρ F H w) :
 bO C (do pure (.value (←Builtin.len_ ats ty #[a.eval x]))) ρ F H w (.int .i64 n) H:=by
 refine bO.val hr (val:=.int .i64 n) ?_ (.int _ _)
 unfold Builtin.len_
 simp only[h0]
 simp[run_underlying hu,goInt]
theorem zc{f:Int→Int→Int}{g:Value→Value→Sem Value}(hg:∀k x k2 y,g (.int k x) (.int k2 y)=pure (.int k (f x y))) :
 ∀(cs:List SV) (vs:List Value) (x:Int) (k:IntKind) (s:SV),cs.length=vs.length→(∀(j:Nat) c v,cs[j]?=some c→vs[j]?=some v→VR w F ρ c v)→foldI f x k cs=some s→
 ∃n,s=.int k n∧(vs.foldlM g (.int k x)).run C.P w=.ok (.int k n) w:=by
 intro cs
 induction cs with
 |nil=>
  intro vs x k s hn _ h
  simp[foldI]at h
  subst h
  cases vs with
  |nil=>exact⟨x,rfl,rfl⟩
  |cons _ _=>simp at hn
 |cons c cs ih=>
  intro vs x k s hn hv h
  cases vs with
  |nil=>simp at hn
  |cons v vs=>
   cases c<;>simp only[foldI]at h<;>(try (cases h;done))
   rename_i k2 y
   replace h:=aj h
   obtain⟨_,h⟩:=h
   have h0:=fH (hv 0 _ v rfl rfl)
   subst h0
   obtain⟨n,rfl,hrun⟩:=ih vs (f x y) k s (by simpa using hn) (fun j c v hc hv'=>hv (j+1) c v (by simpa using hc) (by simpa using hv')) h
   refine⟨n,rfl,?_⟩
   simp only[aem,Sem.run_bind,hg]
   exact hrun
theorem rR{f:Int→Int→Int}{g:Value→Value→Sem Value}(hg:∀k x k2 y,g (.int k x) (.int k2 y)=pure (.int k (f x y))){xs:Array Operand}{ys:List bZ}(hx:je xs=some ys)(he:ER w F ρ e a.tmps)
 (h:kq f (ys.map (ev e))=some s):∃k n x r,s=.int k n∧(xs.map a.eval).toList=x::r∧(r.foldlM g x).run C.P w=.ok (.int k n) w:=by
 obtain⟨h1,h2⟩:=iH hx he
 generalize ys.map (ev e)=cs at *
 cases cs with
 |nil=>simp[kq]at h
 |cons c cs=>
  cases c<;>simp only[kq]at h<;>(try (cases h;done))
  rename_i k x
  cases hl:(xs.map a.eval).toList with
  |nil=>simp at hl;subst hl;simp at h1
  |cons v vs=>
   have hg':∀j:Nat,(xs.map a.eval)[j]?=(v::vs)[j]?:=fun j=>by rw[←hl];simp
   have h0:=fH (h2 0 _ v rfl (by rw[hg'];rfl))
   subst h0
   have hlen:=congrArg List.length hl
   obtain⟨n,rfl,hrun⟩:=zc (C:=C) (w:=w) (F:=F) (ρ:=ρ) hg cs vs x k s (by simp at h1 hlen;omega) (fun j c v hc hv=>h2 (j+1) c v (by simpa using hc) (by rw[hg'];simpa using hv)) h
   exact⟨k,n,_,_,rfl,rfl,hrun⟩
theorem GZ{ats:Array TypeId}{ty:TypeId}{xs:Array Operand}{ys:List bZ}(hx:je xs=some ys)(hr:HR C ρ F H w)(he:ER w F ρ e a.tmps)
 (h:kq (fun a b=>if b>a then b else a) (ys.map (ev e))=some s):bO C (do pure (.value (←Builtin.max_ ats ty (xs.map a.eval)))) ρ F H w s H:=by
 obtain⟨k,n,x,r,rfl,h1,h2⟩:=rR (C:=C) (g:=Builtin.max2) (fun _ _ _ _=>rfl) hx he h
 refine bO.val hr ?_ (.int k n)
 unfold Builtin.max_
 simp only[h1]
 exact h2
theorem Hp{ats:Array TypeId}{ty:TypeId}{xs:Array Operand}{ys:List bZ}(hx:je xs=some ys)(hr:HR C ρ F H w)(he:ER w F ρ e a.tmps)
 (h:kq (fun a b=>if b<a then b else a) (ys.map (ev e))=some s):bO C (do pure (.value (←Builtin.min_ ats ty (xs.map a.eval)))) ρ F H w s H:=by
 obtain⟨k,n,x,r,rfl,h1,h2⟩:=rR (C:=C) (g:=Builtin.min2) (fun _ _ _ _=>rfl) hx he h
 refine bO.val hr ?_ (.int k n)
 unfold Builtin.min_
 simp only[h1]
 exact h2
theorem jU{y n:Nat}{v:Value}{code:BoundsCode}(h:Av y c=some n)(hv:VR w F ρ c v):n≤y∧∀z,y≤z→(Instr.sliceBound v z code).run C.P w=.ok n w:=by
 unfold Av at h
 split at h
 ·rename_i k j
  replace h:=aj h
  obtain⟨hc,h⟩:=h
  cases h
  simp at hc
  refine⟨by omega,fun z hz=>?_⟩
  rw[fH hv]
  unfold Instr.sliceBound
  have:0≤j∧j≤(z:Int):=by omega
  simp only[Sem.run_bind,asIntOf,pure,Sem.run,Result.andThen,this,and_self,if_true]
 ·cases h
theorem gm{x:Option Operand}{y:Option bZ}(h:fZ x=some y)(he:ER w F ρ e a.tmps):(x=none∧y=none)∨∃p q,x=some p∧y=some q∧VR w F ρ (ev e q) (a.eval p):=by
 cases x with
 |none=>simp[fZ]at h;exact .inl ⟨rfl,h.symm⟩
 |some p=>
  simp only[fZ,aaW]at h
  obtain⟨q,h1,rfl⟩:=h
  exact .inr ⟨p,q,rfl,rfl,bc h1 he⟩
theorem nC{isS:Bool}{n cap h l:Nat}{lo hi:Option Operand}{lo' hi':Option bZ}(hlo:fZ lo=some lo')(hhi:fZ hi=some hi')(he:ER w F ρ e a.tmps)(hcap:n≤cap)
 (h1:gk n n (hi'.map (ev e))=some h) (h2:gk h 0 (lo'.map (ev e))=some l):l≤h∧h≤n∧(Instr.sliceBounds isS n cap (lo.map a.eval) (hi.map a.eval) none).run C.P w=.ok (l,h,cap) w:=by
 have a1:h≤n∧(match hi.map a.eval,(none:Option Value)with
  |some v,some _=>Instr.sliceBound v cap .slice3B
  |some v,none=>Instr.sliceBound v cap (if isS then .sliceAcap else .sliceAlen)
  |none,none=>pure n
  |none,some _=>stuck "Slice: max without high").run C.P w=.ok h w:=by
  rcases gm hhi he with⟨rfl,rfl⟩|⟨p,q,rfl,rfl,hv⟩
  ·simp[gk]at h1;subst h1;exact⟨aa8 _,rfl⟩
  ·obtain⟨k1,k2⟩:=jU (C:=C) (code:=if isS then .sliceAcap else .sliceAlen) h1 hv
   exact⟨k1,k2 cap hcap⟩
 have a2:l≤h∧(match lo.map a.eval with
  |some v=>Instr.sliceBound v h (if(none:Option Value).isSome then .slice3C else .sliceB)
  |none=>pure 0).run C.P w=.ok l w:=by
  rcases gm hlo he with⟨rfl,rfl⟩|⟨p,q,rfl,rfl,hv⟩
  ·simp[gk]at h2;subst h2;exact⟨adb _,rfl⟩
  ·obtain⟨k1,k2⟩:=jU (C:=C) (code:=.sliceB) h2 hv
   exact⟨k1,k2 h (aa8 _)⟩
 refine⟨a2.1,a1.1,?_⟩
 have b1:=a1.2
 have b2:=a2.2
 unfold Instr.sliceBounds
 simp only[Sem.run_bind,pure,Sem.run,Result.andThen_ok]at b1 b2⊢
 cases hi<;>cases lo<;>simp only[adt,abL]at b1 b2⊢ <;>simp_all [Sem.run,pure]
end
end
section
section
variable{C:Ctx}{ρ:Map}{F:Nat→Prop}{H H':ae}{w:World}{e:Env}{a:Act}{s c d:SV}
theorem yY{t:TypeId}{x:Operand}{y:bZ}{lo hi:Option Operand}{lo' hi':Option bZ}{b:ByteArray}(hx:bC x=some y)(hlo:fZ lo=some lo')(hhi:fZ hi=some hi')(hu:C.P.underlying t=some .string)
 (hr:HR C ρ F H w) (he:ER w F ρ e a.tmps) (hc:ev e y=.str b) (h:tT b (lo'.map (ev e)) (hi'.map (ev e))=some s) :
 bO C (do pure (.value (←Instr.sliceAt t (a.eval x) (lo.map a.eval) (hi.map a.eval) ((none:Option Operand).map a.eval)))) ρ F H w s H:=by
 have hv:=bc hx he
 rw[hc]at hv
 unfold tT at h
 simp only[aaY,aaW]at h
 obtain⟨h1,k1,l1,k2,rfl⟩:=h
 obtain⟨_,_,hrun⟩:=nC (C:=C) (w:=w) (isS:=false) hlo hhi he (aa8 b.size) k1 k2
 refine bO.val hr (val:=.string (b.extract l1 h1)) ?_ (.str _)
 unfold Instr.sliceAt
 simp only[Sem.run_bind,run_underlying hu,Result.andThen,Instr.slice,jE hv,adt,hrun]
 simp[Sem.run,pure,hrun]
theorem cT{A:Type}{L:List A}{h l i:Nat}{x:A}(hx:((L.take h).drop l)[i]?=some x):L[l+i]?=some x∧l+i<h:=by
 rw[abI,abp]at hx
 split at hx
 ·exact⟨hx,by assumption⟩
 ·cases hx
theorem orElse_some{A:Type}{x:Option A}{f:Unit→Option A}{s:A}(h:x.orElse f=some s):x=some s∨f ()=some s:=by
 cases x with
 |none=>exact .inr h
 |some y=>exact .inl h
theorem yO{t el:TypeId}{n:Nat}{x:Operand}{y:bZ}{lo hi mx:Option Operand}{lo' hi' mx':Option bZ}(hx:bC x=some y)(hlo:fZ lo=some lo')(hhi:fZ hi=some hi')(hmx:fZ mx=some mx')
 (hu:C.P.underlying t=some (.slice el)) (hn:fQ C.P el=some n) (hr:HR C ρ F H w) (he:ER w F ρ e a.tmps) (hc:ed H n (ev e y)=true)
 (h:iv H (ev e y) (lo'.map (ev e)) (hi'.map (ev e)) (mx'.map (ev e))=some s) :
 bO C (do pure (.value (←Instr.sliceAt t (a.eval x) (lo.map a.eval) (hi.map a.eval) (mx.map a.eval)))) ρ F H w s H:=by
 have hv:=bc hx he
 generalize ev e y=c at *
 unfold iv at h
 split at h
 ·rename_i b v off m hvv hh hm
  cases hmx':mx' with
  |some q=>rw[hmx']at hm;cases hm
  |none=>
   have hmn:mx=none:=by
    rcases gm hmx he with⟨e1,_⟩|⟨_,_,_,e2,_⟩
    ·exact e1
    ·rw[hmx']at e2;cases e2
   subst hmx' hmn
   split at h
   ·rename_i v0 z L ex hb0
    simp only[aaY,aaW]at h
    obtain⟨h1,k1,l1,k2,rfl⟩:=h
    obtain⟨l,z9,L9,ex9,hl,hb,hbr,g1,g2⟩:=ec hr (nD hc) hv
    rw[hb0]at hb
    cases hb
    have hb:=hb0
    have hzn:z=n:=by
     unfold ed at hc
     simp[hb]at hc
     exact hc
    subst hzn
    have hver:v=l.cB:=hbr.2.1.symm
    have hesz:l.bT=z:=hbr.2.2.1
    have hLc:L.length≤l.cap:=hbr.2.2.2.2.1
    have k1':gk (L.length-off) (L.length-off) (hi'.map (ev e))=some h1:=by rw[hh];exact k1
    have his:∃u,hi=some u:=by
     rcases gm hhi he with⟨_,e2⟩|⟨p,q,e1,_,_⟩
     ·rw[e2]at hh;cases hh
     ·exact⟨p,e1⟩
    obtain⟨u,rfl⟩:=his
    suffices hs:∃q len cap,a.eval x=.slice q len cap∧L.length-off≤cap∧(L.length-off≤cap→l1≤h1→h1≤L.length-off→VR w F ρ (.bp b v (off+l1) (h1-l1)) (.slice (if cap=l1 then q else q.map (·.add (l1*z))) (h1-l1) (cap-l1))) by
     obtain⟨q,len,cap,j1,j2,j3⟩:=hs
     obtain⟨p1,p2,hrun⟩:=nC (C:=C) (w:=w) (isS:=true) hlo hhi he j2 k1' k2
     refine bO.val hr ?_ (j3 j2 p1 p2)
     unfold Instr.sliceAt
     have hrun':(Instr.sliceBounds true len cap (lo.map a.eval) (some (a.eval u)) none).run C.P w=.ok (l1,h1,cap) w:=hrun
     simp only[Sem.run_bind,run_underlying hu,Result.andThen,Instr.slice,j1,abL,adt,hrun',bR hn]
     rfl
    cases hvi:l.bE with
    |true=>
     obtain⟨q,hq,rfl,rfl⟩:=g1 hvi
     have hcap0:=hbr.2.2.2.2.2.2.1 hvi
     refine⟨q,0,0,hq,by omega,fun j2 p1 p2=>?_⟩
     have:h1=0:=by omega
     subst this
     have:l1=0:=by omega
     subst this
     exact .bp hl (acX hver) rfl (fun _=>⟨fun _=>⟨q,rfl,rfl,rfl⟩,(fun hf=>by rw[hvi]at hf;cases hf)⟩)
    |false=>
     obtain⟨g3,q,hq,g4⟩:=g2 hvi
     refine⟨q,m,l.cap-off,hq,by omega,fun j2 p1 p2=>?_⟩
     refine .bp hl (acX hver) rfl (fun _=>⟨(fun hf=>by rw[hvi]at hf;cases hf),fun _=>⟨by omega,_,by congr 1;omega,fun hlt=>?_⟩⟩)
     rw[if_neg (by omega),g4 (by omega)]
     simp[dp,hesz,abY,aa5]
   ·cases h
 ·cases h
theorem zA{t el:TypeId}{n:Nat}{x:Operand}{y:bZ}{lo hi mx:Option Operand}{lo' hi' mx':Option bZ}(hx:bC x=some y)(hlo:fZ lo=some lo')(hhi:fZ hi=some hi')(hmx:fZ mx=some mx')
 (hu:C.P.underlying t=some (.slice el)) (hn:fQ C.P el=some n) (hr:HR C ρ F H w) (he:ER w F ρ e a.tmps) (hc:ed H n (ev e y)=true) (hsome:mx'.isSome=true→hi'.isSome=true)
 (h:mm (ev e y) (lo'.map (ev e)) (hi'.map (ev e)) (mx'.map (ev e))=some s) :
 bO C (do pure (.value (←Instr.sliceAt t (a.eval x) (lo.map a.eval) (hi.map a.eval) (mx.map a.eval)))) ρ F H w s H:=by
 have hv:=bc hx he
 generalize ev e y=c at *
 suffices hs:∃q len cap l1 h1 m1,a.eval x=.slice q len cap∧(Instr.sliceBounds true len cap (lo.map a.eval) (hi.map a.eval) (mx.map a.eval)).run C.P w=.ok (l1,h1,m1) w∧
  VR w F ρ s (.slice (if m1=l1 then q else q.map (·.add (l1*n))) (h1-l1) (m1-l1)) by
  obtain⟨q,len,cap,l1,h1,m1,k1,k2,k3⟩:=hs
  refine bO.val hr ?_ k3
  unfold Instr.sliceAt
  simp only[Sem.run_bind,run_underlying hu,Result.andThen,Instr.slice,k1,k2,bR hn]
  rfl
 cases hmx':mx' with
 |none=>
  have hmn:mx=none:=by
   rcases gm hmx he with⟨e1,_⟩|⟨_,_,_,e2,_⟩
   ·exact e1
   ·rw[hmx']at e2;cases e2
  subst hmx' hmn
  simp only[adt]at h⊢
  unfold mm at h
  split at h
  ·rename_i z L f
   simp only[aaY,aaW,gk,abd]at h
   obtain⟨m,rfl,h1,k1,l1,k2,rfl⟩:=h
   generalize a.eval x=u at *
   cases hv with
   |ay V hcap hfull hz hat h1' hv=>
    rename_i q cap
    obtain⟨p1,p2,hrun⟩:=nC (C:=C) (w:=w) (isS:=true) hlo hhi he hcap k1 k2
    refine⟨q,_,cap,l1,h1,cap,rfl,hrun,?_⟩
    have hlen:((L.take h1).drop l1).length=h1-l1:=by simp;omega
    rw[←hlen]
    refine .ay (fun i j=>V (l1+i) j) (by rw[hlen];omega) (fun hf=>?_) (fun i cs hi=>hz _ cs (cT hi).1) ?_ (fun i j cs c hi hj=>h1' _ j cs c (cT hi).1 hj) (fun i j cs c hi hj=>hv _ j cs c (cT hi).1 hj)
    ·simp at hf
     rw[hlen,hfull hf.1,hf.2]
    ·by_cases hemp:(L.take h1).drop l1=[]
     ·exact .inl hemp
     ·right
      have hlt:l1<h1:=by
       have:0<((L.take h1).drop l1).length:=ad7.2 hemp
       omega
      rcases hat with h0|⟨B,o,ha,hF,hk⟩
      ·subst h0;simp at p2;omega
      ·subst ha
       have hne:L≠[]:=fun h=>by subst h;simp at p2;omega
       have hzn:z=n:=by
        unfold ed at hc
        simp at hc
        rcases hc with hc|hc
        ·exact hc
        ·exact absurd hc hne
       subst hzn
       refine⟨B,o+l1*z,?_,hF,fun i j cs c hi hj=>?_⟩
       ·rw[if_neg (by omega)];simp[dp]
       ·have:=hk _ j cs c (cT hi).1 hj
        rw[abY]at this
        rw[aa5 o]
        exact this
  ·rename_i b cB off m
   simp only[aaY,aaW]at h
   obtain⟨h1,k1,l1,k2,rfl⟩:=h
   obtain⟨l,z,L,ex,hl,hb,hbr,g1,g2⟩:=ec hr (nD hc) hv
   have hzn:z=n:=by
    unfold ed at hc
    simp[hb]at hc
    exact hc
   subst hzn
   have hver:cB=l.cB:=hbr.2.1.symm
   have hesz:l.bT=z:=hbr.2.2.1
   cases hvi:l.bE with
   |true=>
    obtain⟨q,hq,rfl,rfl⟩:=g1 hvi
    obtain⟨p1,p2,hrun⟩:=nC (C:=C) (w:=w) (isS:=true) hlo hhi he (aa8 0) k1 k2
    have:h1=0:=by omega
    subst this
    have:l1=0:=by omega
    subst this
    exact⟨q,0,0,0,0,0,hq,hrun,.bp hl (acX hver) rfl (fun _=>⟨fun _=>⟨q,rfl,rfl,rfl⟩,(fun hf=>by rw[hvi]at hf;cases hf)⟩)⟩
   |false=>
    obtain⟨g3,q,hq,g4⟩:=g2 hvi
    obtain⟨p1,p2,hrun⟩:=nC (C:=C) (w:=w) (isS:=true) hlo hhi he (show m≤l.cap-off by omega) k1 k2
    refine⟨q,m,l.cap-off,l1,h1,l.cap-off,hq,hrun,.bp hl (acX hver) rfl (fun _=>⟨(fun hf=>by rw[hvi]at hf;cases hf),fun _=>⟨by omega,_,by congr 1;omega,fun hlt=>?_⟩⟩)⟩
    rw[if_neg (by omega),g4 (by omega)]
    simp[dp,hesz,abY,aa5]
  ·cases h
 |some mq=>
  obtain⟨mo,rfl,hmv⟩:∃mo,mx=some mo∧VR w F ρ (ev e mq) (a.eval mo):=by
   rcases gm hmx he with⟨_,e2⟩|⟨p,q,e1,e2,e3⟩
   ·rw[hmx']at e2;cases e2
   ·rw[hmx']at e2;cases e2;exact⟨p,e1,e3⟩
  subst hmx'
  simp only[abL]at h⊢
  have hb3:∀{n0 cap m h1 l1:Nat},n0≤cap→Av n0 (ev e mq)=some m→gk m n0 (hi'.map (ev e))=some h1→gk h1 0 (lo'.map (ev e))=some l1→hi'.isSome=true→
   l1≤h1∧h1≤m∧m≤n0∧(Instr.sliceBounds true n0 cap (lo.map a.eval) (hi.map a.eval) (some (a.eval mo))).run C.P w=.ok (l1,h1,m) w:=by
   intro n0 cap m h1 l1 hcap km kh kl hsome
   obtain⟨m1,m2⟩:=jU (C:=C) (code:=.slice3Acap) km hmv
   rcases gm hhi he with⟨_,rfl⟩|⟨hp,hq,rfl,rfl,hhv⟩
   ·cases hsome
   ·obtain⟨h3,h4⟩:=jU (C:=C) (code:=.slice3B) kh hhv
    have a2:l1≤h1∧(match lo.map a.eval with
     |some v=>Instr.sliceBound v h1 (if(some (a.eval mo)).isSome then .slice3C else .sliceB)
     |none=>pure 0).run C.P w=.ok l1 w:=by
     rcases gm hlo he with⟨rfl,rfl⟩|⟨p,q,rfl,rfl,hv⟩
     ·simp[gk]at kl;subst kl;exact⟨adb _,rfl⟩
     ·obtain⟨k1,k2⟩:=jU (C:=C) (code:=.slice3C) kl hv
      exact⟨k1,k2 h1 (aa8 _)⟩
    refine⟨a2.1,h3,m1,?_⟩
    have b2:=a2.2
    have b1:=h4 m (aa8 _)
    have b0:=m2 cap hcap
    unfold Instr.sliceBounds
    simp only[Sem.run_bind,pure,Sem.run,Result.andThen_ok]at b0 b1 b2⊢
    cases lo<;>simp only[adt,abL]at b2⊢ <;>simp_all [Sem.run,pure]
  have hsome:=hsome rfl
  unfold mm at h
  split at h
  ·rename_i z L f
   simp only[aaY,aaW,gk]at h
   obtain⟨m,km,h1,k1,l1,k2,rfl⟩:=h
   generalize a.eval x=u at *
   cases hv with
   |ay V hcap hfull hz hat h1' hv=>
    rename_i q cap
    obtain⟨p1,p2,p3,hrun⟩:=hb3 hcap km k1 k2 hsome
    refine⟨q,_,cap,l1,h1,m,rfl,hrun,?_⟩
    have hlen:((L.take h1).drop l1).length=h1-l1:=by simp;omega
    rw[←hlen]
    refine .ay (fun i j=>V (l1+i) j) (by rw[hlen];omega) (fun hf=>?_) (fun i cs hi=>hz _ cs (cT hi).1) ?_ (fun i j cs c hi hj=>h1' _ j cs c (cT hi).1 hj) (fun i j cs c hi hj=>hv _ j cs c (cT hi).1 hj)
    ·simp at hf
     rw[hlen,hf]
    ·by_cases hemp:(L.take h1).drop l1=[]
     ·exact .inl hemp
     ·right
      have hlt:l1<h1:=by
       have:0<((L.take h1).drop l1).length:=ad7.2 hemp
       omega
      rcases hat with h0|⟨B,o,ha,hF,hk⟩
      ·subst h0;simp at p3;omega
      ·subst ha
       have hne:L≠[]:=fun h=>by subst h;simp at p3;omega
       have hzn:z=n:=by
        unfold ed at hc
        simp at hc
        rcases hc with hc|hc
        ·exact hc
        ·exact absurd hc hne
       subst hzn
       refine⟨B,o+l1*z,?_,hF,fun i j cs c hi hj=>?_⟩
       ·rw[if_neg (by omega)];simp[dp]
       ·have:=hk _ j cs c (cT hi).1 hj
        rw[abY]at this
        rw[aa5 o]
        exact this
  ·rename_i b cB off m0
   simp only[aaY,aaW,gk]at h
   obtain⟨m,km,h1,k1,l1,k2,h⟩:=h
   obtain⟨l,z,L,ex,hl,hb,hbr,g1,g2⟩:=ec hr (nD hc) hv
   have hsl:∃q cap,a.eval x=.slice q m0 cap∧m0≤cap:=by
    cases hvi:l.bE with
    |true=>obtain⟨q,hq,_,rfl⟩:=g1 hvi;exact⟨q,0,hq,aa8 _⟩
    |false=>obtain⟨g3,q,hq,_⟩:=g2 hvi;exact⟨q,_,hq,by omega⟩
   obtain⟨q,cap,hq,hcap⟩:=hsl
   obtain⟨p1,p2,p3,hrun⟩:=hb3 hcap km k1 k2 hsome
   refine⟨q,m0,cap,l1,h1,m,hq,hrun,?_⟩
   replace h:=acV h
   cases hml:m==l1 with
   |false=>rw[hml,abc]at h;rw[←h];exact VR.undef _
   |true=>
   rw[hml,abb]at h
   rw[←h]
   have hml:m=l1:=by simpa using hml
   have e1:h1-l1=0:=by omega
   have e2:m-l1=0:=by omega
   rw[e1,e2]
   exact VR.ay (L:=[]) (fun _ _=>undef) (aa8 _) (fun _=>rfl) (by simp) (.inl rfl) (by simp) (by simp)
  ·cases h
end
end
section
section
variable{C:Ctx}{ρ:Map}{F:Nat→Prop}{H H':ae}{w:World}{e:Env}{a:Act}{s c d:SV}
theorem u3(off:Nat):∀(l:List Value) (k:Nat) (cells:Array Value),off+k+l.length≤cells.size→
 (l.zipIdx k).foldl (fun(cs:Array Value) (p:Value×Nat)=>cs.setIfInBounds (off+p.2) p.1) cells=my cells (off+k) l
 |[],k,cells,_=>by simp[my]
 |v::r,k,cells,h=>by
  simp only[abg]at h
  rw[List.zipIdx_cons,ab1,u3 off r (k+1) _ (by simp;omega)]
  apply adp
  intro j
  rw[jt (by simp;omega),jt (by simp;omega)]
  simp only[abg]
  by_cases e1:j<off+k
  ·have e2:j<off+(k+1):=by omega
   simp only[e1,e2,if_true]
   rw[abN (by omega)]
  ·by_cases e2:j=off+k
   ·subst e2
    have e3:off+k<off+(k+1):=by omega
    have e4:¬off+k<off+k:=by omega
    have e5:off+k<off+k+(r.length+1):=by omega
    simp only[e3,e4,e5,if_true,if_false]
    have:off+k<cells.size:=by omega
    simp[this]
   ·have a1:¬j<off+(k+1):=by omega
    simp only[a1,e1,if_false]
    by_cases e3:j<off+(k+1)+r.length
    ·have e4:j<off+k+(r.length+1):=by omega
     simp only[e3,e4,if_true]
     rw[show j-(off+k)=(j-(off+(k+1)))+1 by omega]
     simp
    ·have e4:¬j<off+k+(r.length+1):=by omega
     simp only[e3,e4,if_false]
     rw[abN (by omega)]
theorem rY{place:Nat→Option (Nat×Nat)}{cells:Array Value}{i off:Nat}{v:Value}{rest:List (Nat×Value)}(hp:place i=some (off,v.cells.size))(hle:off+v.cells.size≤cells.size) :
 Instr.fill place cells ((i,v)::rest)=Instr.fill place (my cells off v.cells.toList) rest:=by
 have:(v.cells.zipIdx.foldl (fun cs (c,j)=>cs.setIfInBounds (off+j) c) cells)=my cells off v.cells.toList:=by
  have:=u3 off v.cells.toList 0 cells (by simpa using hle)
  rw[acL]at this
  rw[←this,←Array.foldl_toList,Array.toList_zipIdx]
 simp only[Instr.fill,hp]
 rw[if_neg (by simp;omega),this]
theorem oB{place:Nat→Option (Nat×Nat)}:∀(qs:List (Nat×Operand)) (ps:List (Nat×Nat×bZ)) (z r:List SV) (cells:Array Value),
 ps.length=qs.length→(∀(j:Nat) p q,qs[j]?=some q→ps[j]?=some p→place q.1=some (p.1,p.2.1)∧bC q.2=some p.2.2)→ER w F ρ e a.tmps→z.length=cells.size→bL w F ρ cells 0 z→gJ (ev e) z ps=some r→
 ∃out,Instr.fill place cells (qs.map fun q=>(q.1,a.eval q.2))=some out∧r.length=out.size∧bL w F ρ out 0 r
 |[],[],z,r,cells,_,_,_,hz,hc,h=>by
  simp[gJ]at h;subst h
  exact⟨cells,rfl,hz,hc⟩
 |[],_::_,_,_,_,hl,_,_,_,_,_=>by simp at hl
 |_::_,[],_,_,_,hl,_,_,_,_,_=>by simp at hl
 |q::qs,(off,n,x)::ps,z,r,cells,hl,hp,he,hz,hc,h=>by
  obtain⟨h1,h2⟩:=hp 0 _ _ rfl rfl
  simp only[gJ,aaY]at h
  obtain⟨cs,hcs,h⟩:=h
  replace h:=aj h
  obtain⟨hb,h⟩:=h
  simp at hb
  obtain⟨hn,hle⟩:=hb
  obtain⟨k1,k2,_⟩:=gG hcs (bc h2 he)
  have hsz:(my cells off (a.eval q.2).cells.toList).size=cells.size:=iM (by simp;omega)
  have bM:=kT (at_:=0) hc k2 hn k1 hle (by omega)
  rw[ach]at bM
  obtain⟨out,o1,o2,o3⟩:=oB qs ps _ r (my cells off (a.eval q.2).cells.toList) (by simpa using hl) (fun j p q hq hp'=>hp (j+1) p q (by simpa using hq) (by simpa using hp')) he
   (by rw[ik hn hle,hsz];exact hz) bM h
  refine⟨out,?_,o2,o3⟩
  simp only[abB]
  rw[rY (by rw[h1,←k1,hn]) (by omega)]
  exact o1
theorem run_places{P:Program}{w:World}:∀(fs:List Field),(∀f∈fs,(fQ P f.type).isSome=true)→Sem.run P (fs.mapM (fun(f:Field)=>(do pure (f.offset,←sizeOf f.type):Sem (Nat×Nat)))) w=.ok (fs.map fun(f:Field)=>(f.offset,(fQ P f.type).getD 0)) w
 |[],_=>rfl
 |f::fs,h=>by
  obtain⟨n,hn⟩:=Option.isSome_iff_exists.1 (h f (by simp))
  have ih:=run_places (P:=P) (w:=w) fs (fun g hg=>h g (by simp[hg]))
  simp only[List.mapM_cons,Sem.run_bind,bR hn,Result.andThen,abB,hn,acj]
  simp only[pure,Sem.run,Result.andThen,Sem.run_bind]at ih⊢
  rw[ih]
theorem Co{t:TypeId}{qs:Array (Nat×Operand)}{z r:List SV}{ps:List (Nat×Nat×bZ)}(hz:gI C.P t=some z)(hp:v9 C.P t qs.toList=some ps)(hr:HR C ρ F H w)(he:ER w F ρ e a.tmps)
 (h:gJ (ev e) z ps=some r):bO C (do pure (.value (←Instr.build t (qs.map fun(i,x)=>(i,a.eval x))))) ρ F H w (.agg r) H:=by
 obtain⟨i,v,hi,hv,h1,h2⟩:=gj (w:=w) (F:=F) (ρ:=ρ) hz
 have fin:∀out:Array Value,r.length=out.size→bL w F ρ out 0 r→VR w F ρ (.agg r) (.agg out):=fun out o1 o2=>
  .agg o1 (fun j c hj=>let⟨_,_,_,h⟩:=o2 j c hj;h) (fun j c v hj hv=>by
   obtain⟨v',h3,h4,_⟩:=o2 j c hj
   rw[ach]at h3
   rw[h3]at hv;cases hv;exact h4)
 have hlist:(qs.map fun(i,x)=>(i,a.eval x)).toList=qs.toList.map fun q=>(q.1,a.eval q.2):=by simp
 unfold v9 at hp
 split at hp
 ·rename_i fs hu
  cases hall:fs.toList.all (fun f=>(fQ C.P f.type).isSome)with
  |false=>rw[hall]at hp;simp at hp
  |true=>
   rw[hall]at hp
   simp only[abJ,abc]at hp
   obtain⟨p1,p2⟩:=dY hp
   have hpl:=run_places (P:=C.P) (w:=w) fs.toList (fun f hf=>abj.1 hall f hf)
   obtain⟨out,o1,o2,o3⟩:=oB (place:=((fs.toList.map fun f=>(f.offset,(fQ C.P f.type).getD 0)).toArray[·]?)) qs.toList ps z r v.cells p1 (fun j p q hq hp'=>by
    have:=p2 j q p hq hp'
    split at this
    ·rename_i f hf
     split at this
     ·rename_i n x hn hx
      cases this
      refine⟨?_,hx⟩
      simp[hf,hn]
     ·cases this
    ·cases this) he h1 h2 h
   refine bO.val hr ?_ (fin out o2 o3)
   unfold Instr.build
   simp only[Sem.run_bind,dK hi hv,Result.andThen,run_underlying hu,Array.mapM_eq_mapM_toList]
   rw[Sem.run_map,hpl]
   simp only[Result.andThen,hlist,o1]
   rfl
 ·rename_i n el hu
  split at hp
  ·rename_i m hm
   obtain⟨p1,p2⟩:=dY hp
   obtain⟨out,o1,o2,o3⟩:=oB (place:=fun i=>some (i*m,m)) qs.toList ps z r v.cells p1 (fun j p q hq hp'=>by
    have:=p2 j q p hq hp'
    simp only[aaW]at this
    obtain⟨x,hx,rfl⟩:=this
    exact⟨rfl,hx⟩) he h1 h2 h
   refine bO.val hr ?_ (fin out o2 o3)
   unfold Instr.build
   simp only[Sem.run_bind,dK hi hv,Result.andThen,run_underlying hu,bR hm,hlist,o1]
   rfl
  ·cases hp
 ·cases hp
end
end
section
section
variable{C:Ctx}{ρ:Map}{F:Nat→Prop}{H H':ae}{w:World}{e:Env}{a:Act}{s c d:SV}
def ez(w:World)(F:Nat→Prop)(ρ:Map)(vs:Array Value)(at_ z:Nat)(L:List (List SV)):Prop:=
 (∀(i:Nat) cs,L[i]?=some cs→cs.length=z)∧∀(i:Nat) cs,L[i]?=some cs→bL w F ρ vs (at_+i*z) cs
theorem kp(hr:HR C ρ F H w){L:List (List SV)}{z cap:Nat}{ex:Bool}{vs:Array Value}{ty:TypeId}{w':World}(hw:w'.heap=w.heap.push (.cells vs ty))(hcap:L.length≤cap)(hex:ex=true→cap=L.length)
 (hsz:cap*z≤vs.size) (hc:ez w F ρ vs 0 z L) (n:Nat) (hn:n≤L.length) (hout:w'.os=w.os∧w'.output=w.output:=by exact⟨rfl,rfl⟩) :
 dF C ρ F H w (.bp H.bl.length 0 0 n) (bM H (.arr 0 z L ex)) (.slice (some ⟨w.heap.size,0,none⟩) n cap) w':=by
 let l:Loc:={cp:=w.heap.size,base:=0,cap:=cap,bT:=z,cB:=0,bE:=false,arr:=true}
 have hh:∀B,B<w.heap.size→w'.heap[B]?=w.heap[B]?:=fun B hB=>by
  rw[hw];simp[acO,acQ hB]
 have hk:dH F w w':=fun B hB=>hh B (hr.ia B hB)
 have hle:ρ.le (ρ.put H.bl.length l):=fun b l' h=>⟨l',by rw[Map.bu _ _ (acQ (hr.jx b l' h))];exact h,.inl rfl⟩
 have hp:=hr.push (w':=w') (by rw[hw];simp) hh (.arr 0 z L ex) l (fun _=>⟨aa8 _,by rw[hw];simp[l]⟩)
  ⟨rfl,rfl,rfl,hc.1,hcap,hex,(fun h=>by cases h),fun _=>⟨vs,ty,(0,0),by rw[hw];simp[l],fun o ho=>by simp,by simpa[l]using hsz,fun i cs hi=>by
   have:=hc.2 i cs hi
   exact this.mono hk (fun _ h=>h) hle⟩⟩ hout
 exact⟨_,F,.bp (l:=l) (Map.bJ _ _ _) (aa8 _) rfl (fun _=>⟨(fun h=>by cases h),fun _=>⟨by simp[l];omega,_,rfl,fun _=>by simp[l]⟩⟩),hp.1,hp.2⟩
theorem sf{z:Nat}:∀(qs:List (Nat×Operand)) (ps:List (Nat×bZ)) (L r:List (List SV)) (cells:Array Value),
 ps.length=qs.length→(∀(j:Nat) p q,qs[j]?=some q→ps[j]?=some p→q.1=p.1∧bC q.2=some p.2)→ER w F ρ e a.tmps→L.length*z≤cells.size→ez w F ρ cells 0 z L→eQ (ev e) z L ps=some r→
 ∃out,Instr.fill (fun i=>some (i*z,z)) cells (qs.map fun q=>(q.1,a.eval q.2))=some out∧r.length=L.length∧out.size=cells.size∧ez w F ρ out 0 z r
 |[],[],L,r,cells,_,_,_,hz,hc,h=>by
  simp[eQ]at h;subst h
  exact⟨cells,rfl,rfl,rfl,hc⟩
 |[],_::_,_,_,_,hl,_,_,_,_,_=>by simp at hl
 |_::_,[],_,_,_,hl,_,_,_,_,_=>by simp at hl
 |q::qs,(i,x)::ps,L,r,cells,hl,hp,he,hz,hc,h=>by
  obtain⟨h1,h2⟩:=hp 0 _ _ rfl rfl
  simp only[eQ,aaY]at h
  obtain⟨cs,hcs,h⟩:=h
  replace h:=aj h
  obtain⟨hb,h⟩:=h
  simp at hb
  obtain⟨hn,hlt⟩:=hb
  simp only at h1 h2
  obtain⟨k1,k2,_⟩:=gG hcs (bc h2 he)
  have hm:(i+1)*z≤L.length*z:=abX z hlt
  rw[abY,acW]at hm
  have hle:i*z+(a.eval q.2).cells.size≤cells.size:=by omega
  have hsz:(my cells (i*z) (a.eval q.2).cells.toList).size=cells.size:=iM (by simp;omega)
  have hrow:ez w F ρ (my cells (i*z) (a.eval q.2).cells.toList) 0 z (L.set i cs):=by
   refine⟨fun j ds hj=>?_,fun j ds hj=>?_⟩
   ·by_cases e1:j=i
    ·subst e1;simp[hlt]at hj;subst hj;exact hn
    ·rw[aa2 (Ne.symm e1)]at hj;exact hc.1 j ds hj
   ·by_cases e1:j=i
    ·subst e1
     simp[hlt]at hj
     subst hj
     obtain⟨old,hold⟩:∃o,L[j]?=some o:=⟨L[j],aa9 hlt⟩
     have:=kT (at_:=0+j*z) (o:=0) (n:=z) (hc.2 j old hold) k2 hn k1 (by rw[hc.1 j old hold];omega) (by rw[hc.1 j old hold];omega)
     rw[acL,ach]at this
     rw[ach]
     intro q' c' hq'
     refine this q' c' ?_
     have hlen:=(aaS.1 hq').1
     unfold fJ
     rw[adn,abM,aa6 hlen]
     exact hq'
    ·rw[aa2 (Ne.symm e1)]at hj
     refine lS (n:=0) (hc.2 j ds hj) (by simp;omega) ?_
     have hd:=hc.1 j ds hj
     simp only[ada]
     rcases aea e1 with hlt'|hlt'
     ·left
      have:(j+1)*z≤i*z:=abX z hlt'
      rw[abY,acW]at this
      omega
     ·right
      have:(i+1)*z≤j*z:=abX z hlt'
      rw[abY,acW]at this
      omega
  obtain⟨out,o1,o2,o3,o4⟩:=sf qs ps _ r (my cells (i*z) (a.eval q.2).cells.toList) (by simpa using hl) (fun j p q hq hp'=>hp (j+1) p q (by simpa using hq) (by simpa using hp')) he
   (by rw[hsz];simpa using hz) hrow h
  refine⟨out,?_,by simpa using o2,o3.trans hsz,o4⟩
  simp only[abB]
  rw[h1,rY (by rw[←k1,hn]) hle]
  exact o1
def cG(zs:Array Value)(n:Nat):Array Value:=(Array.range n).map fun i=>zs[i%zs.size]!
theorem jm{z n:Nat}{zs:Array Value}{zl:List SV}(hz:zl.length=z)(hzs:zl.length=zs.size)(hc:bL w F ρ zs 0 zl)(h0:0<z):ez w F ρ (cG zs (n*z)) 0 z (List.replicate n zl):=by
 refine⟨fun i cs hi=>?_,fun i cs hi=>?_⟩<;>rw[ac6]at hi<;>split at hi<;>(try (cases hi;done))<;>cases hi
 ·exact hz
 ·rename_i hlt
  intro j c hj
  have hjl:=(aaS.1 hj).1
  obtain⟨v,h1,h2,h3⟩:=hc j c hj
  have hm:(i+1)*z≤n*z:=abX z hlt
  rw[abY,acW]at hm
  refine⟨v,?_,h2,h3⟩
  rw[ach]at h1⊢
  unfold cG
  have hmod:(i*z+j)%zs.size=j:=by
   rw[←hzs,hz,aer,Nat.add_mul_mod_self_right,aen (by omega)]
  simp only[Array.getElem?_map,Array.getElem?_range,show i*z+j<n*z by omega,if_true,abL,hmod]
  congr 1
  have hj':j<zs.size:=by omega
  rw[getElem!_pos zs j hj']
  rw[abU hj']at h1
  exact acV h1
theorem zB{t el:TypeId}{n z:Nat}{qs:Array (Nat×Operand)}{zl:List SV}{ps:List (Nat×bZ)}{L:List (List SV)}(he0:lF C.P t=some el)(hsz:fQ C.P el=some (z+1))(hz:gI C.P el=some zl)
 (hp:bQ (qs.toList.map fun p=>(bC p.2).map fun x=>(p.1,x))=some ps) (hlim:n*(z+1)≤16777216) (hzl:zl.length=z+1) (hr:HR C ρ F H w) (he:ER w F ρ e a.tmps)
 (h:eQ (ev e) (z+1) (List.replicate n zl) ps=some L):bO C (do pure (.value (←Instr.buildSlice t n (qs.map fun(i,x)=>(i,a.eval x))))) ρ F H w (.bp H.bl.length 0 0 n) (bM H (.arr 0 (z+1) L true)):=by
 obtain⟨i,v,hi,hv,h1,h2⟩:=gj (w:=w) (F:=F) (ρ:=ρ) hz
 have hu:C.P.underlying t=some (.slice el):=by
  unfold lF at he0
  split at he0
  ·cases he0;assumption
  ·cases he0
 have hlist:(qs.map fun(i,x)=>(i,a.eval x)).toList=qs.toList.map fun q=>(q.1,a.eval q.2):=by simp
 obtain⟨p1,p2⟩:=dY hp
 have hzr:(cG v.cells (n*(z+1))).size=n*(z+1):=by simp[cG]
 obtain⟨out,o1,o2,o3,o4⟩:=sf qs.toList ps (List.replicate n zl) L (cG v.cells (n*(z+1))) p1 (fun j p q hq hp'=>by
  have:=p2 j q p hq hp'
  simp only[aaW]at this
  obtain⟨x,hx,rfl⟩:=this
  exact⟨rfl,hx⟩) he (by rw[hzr];simp) (jm hzl h1 h2 (Nat.succ_pos z)) h
 have hlen:L.length=n:=by simpa using o2
 refine bO.sI (w':={w with heap:=w.heap.push (.cells out el)}) ?_ (kp hr rfl (aa8 L.length) (fun _=>rfl) (by rw[o3,hzr,hlen];exact aa8 _) o4 n (by omega))
 have hlim':¬n*(z+1)>2 ^ 24:=by omega
 unfold Instr.buildSlice
 simp only[Sem.run_bind,run_underlying hu,Result.andThen,bR hsz,if_neg hlim']
 by_cases h0:n*(z+1)=0
 ·have hzz:(Array.range (n*(z+1))).map (fun x=>(#[]:Array Value)[x%(#[]:Array Value).size]!)=cG v.cells (n*(z+1)):=by
   unfold cG;rw[h0];simp
  simp only[h0,if_true,pure,Sem.run,Result.andThen,Sem.run_bind]
  rw[h0]at hzz
  rw[h0]at o1
  simp only[hzz,hlist,o1]
  simp[newRow,newObj,Sem.run,hlen]
 ·simp only[h0,if_false,Sem.run_bind,dK hi hv,Result.andThen,pure,Sem.run]
  have hzz:(Array.range (n*(z+1))).map (fun x=>v.cells[x%v.cells.size]!)=cG v.cells (n*(z+1)):=rfl
  simp only[hzz,hlist,o1]
  simp[newRow,newObj,Sem.run,hlen]
end
end
section
section
variable{C:Ctx}{ρ:Map}{F:Nat→Prop}{H H':ae}{w:World}{e:Env}{a:Act}{s c d:SV}
theorem sC{w':World}(h:w'.heap=w.heap)(ad:Addr):w'.cell? ad=w.cell? ad:=by simp[World.cell?,h]
theorem mL{vs:Array Value}{at_ z:Nat}:ez w F ρ vs at_ z []:=⟨by simp,by simp⟩
theorem yc{vs:Array Value}{z:Nat}{X:List (List SV)}(h:ez w F ρ vs 0 z X)(hn:vs.size=X.length*z):∀v∈vs.toList,jv v=true:=by
 intro v hv
 obtain⟨j,hj,rfl⟩:=List.mem_iff_getElem.1 hv
 simp at hj
 have hz:0<z:=by
  rcases Nat.eq_zero_or_pos z with h0|h0
  ·subst h0;omega
  ·exact h0
 have hi:j/z<X.length:=by
  apply Nat.div_lt_of_lt_mul
  rw[ad1];omega
 have hx:X[j/z]?=some X[j/z]:=aa9 hi
 have hl:=h.1 _ _ hx
 have hm:j%z<(X[j/z]).length:=by rw[hl];exact aeu _ hz
 obtain⟨v',h1,h2,h3⟩:=h.2 _ _ hx (j%z) _ (aa9 hm)
 have:0+j/z*z+j%z=j:=by
  rw[ach,ad1];exact Nat.div_add_mod j z
 rw[this,abU (by omega)]at h1
 have:v'=vs.toList[j]:=by simpa using(acV h1).symm
 rw[←this]
 exact h2.one h3
def Ed(C:Ctx)(w:World)(F:Nat→Prop)(H:ae)(ρ ρ1:Map)(c:SV):Prop:=∀b cB off n l x,c=.bp b cB off n→ρ b=some l→bn H b=some x→x.live=true→BR C w F ρ1 l x
theorem eF(hr:HR C ρ F H w):Ed C w F H ρ ρ c:=fun b cB off n l x _ hl hb hx=>by
 obtain⟨l',h1,h2⟩:=hr.live b x hb hx
 rw[hl]at h1;cases h1
 exact h2
theorem kD(hr:HR C ρ F H w){z:Nat}(hz:0<z){X:List (List SV)}{v:Value}(hv:VR w F ρ c v)(h:nG z H c=some X) :
 ∃q cap cells,v=.slice q X.length cap∧(∀w':World,w'.heap=w.heap→(Builtin.firstCells z X.length v).run C.P w'=.ok cells w')∧cells.size=X.length*z∧∀ρ1:Map,Ed C w F H ρ ρ1 c→ez w F ρ1 cells 0 z X:=by
 unfold nG at h
 split at h
 ·rename_i z' L f
  replace h:=aj h
  obtain⟨hc,h⟩:=h
  have h':L=X:=acV h
  subst h'
  clear h
  cases hv with
  |ay V hcap hfull hz' hat h1 hv=>
   rename_i q cap
   rcases hat with h0|⟨B,o,ha,hF,hk⟩
   ·subst h0
    refine⟨q,cap,#[],rfl,fun w' hw=>?_,by simp,fun _ _=>mL⟩
    cases q with
    |none=>rfl
    |some q=>simp only[Builtin.firstCells,abh,adH];rfl
   ·subst ha
    by_cases h0:L=[]
    ·subst h0
     exact⟨_,cap,#[],rfl,fun w' hw=>by simp only[Builtin.firstCells,abh,adH];rfl,by simp,fun _ _=>mL⟩
    ·have hzz:z'=z:=by
      simp at hc
      rcases hc with hc|hc
      ·exact hc
      ·exact absurd hc h0
     subst hzz
     refine⟨_,cap,((List.range (L.length*z')).map fun j=>V (j/z') (j%z')).toArray,rfl,fun w' hw=>?_,by simp,fun ρ1 _=>⟨fun i cs hi=>hz' i cs hi,fun i cs hi j c hj=>?_⟩⟩
     ·simp only[Builtin.firstCells]
      refine run_loadCells w' _ _ _ (fun j hj=>?_)
      rw[dp,sC hw]
      have hi:j/z'<L.length:=Nat.div_lt_of_lt_mul (by rw[ad1];exact hj)
      have hx:L[j/z']?=some L[j/z']:=aa9 hi
      have hm:j%z'<(L[j/z']).length:=by rw[hz' _ _ hx];exact aeu _ hz
      have:=hk _ _ _ _ hx (aa9 hm)
      rw[aa5,ad1,Nat.div_add_mod]at this
      exact this
     ·have hil:=(aaS.1 hi).1
      have hjl:=(aaS.1 hj).1
      rw[hz' i cs hi]at hjl
      have hm:(i+1)*z'≤L.length*z':=abX z' hil
      rw[abY,acW]at hm
      refine⟨V i j,?_,(hv i j cs c hi hj).mono (fun _ _=>rfl) (fun _ h=>h) (jT _),h1 i j cs c hi hj⟩
      have e1:(i*z'+j)/z'=i:=by
       rw[aer,Nat.add_mul_div_right _ _ hz,Nat.div_eq_of_lt hjl,ach]
      have e2:(i*z'+j)%z'=j:=by rw[aer,Nat.add_mul_mod_self_right,aen hjl]
      rw[ach]
      have hlt:i*z'+j<L.length*z':=by omega
      simp only[acR,acs,acZ hlt,abL,e1,e2]
 ·rename_i b cB off n
  split at h
  ·rename_i ver' z' L ex hb
   replace h:=aj h
   obtain⟨hc,h⟩:=h
   simp at hc
   obtain⟨⟨rfl,rfl⟩,hle⟩:=hc
   cases h
   obtain⟨l,z2,L2,ex2,hl,hb2,hbr,g1,g2⟩:=ec hr (by unfold cur;simp[hb]) hv
   rw[hb]at hb2;cases hb2
   have hlen:((L.drop off).take n).length=n:=by simp;omega
   cases hvi:l.bE with
   |true=>
    obtain⟨q,rfl,rfl,rfl⟩:=g1 hvi
    simp only[adn,abh,adH]
    refine⟨q,0,#[],rfl,fun w' hw=>?_,by simp,fun _ _=>mL⟩
    cases q with
    |none=>rfl
    |some q=>simp only[Builtin.firstCells,adH];rfl
   |false=>
    obtain⟨g3,q,rfl,g4⟩:=g2 hvi
    obtain⟨h1,h2,h3,h4,h5,h6,h7,h8⟩:=hbr
    obtain⟨vs,ty,fz,k1,k2,k3,k4⟩:=h8 hvi
    rw[hlen]
    by_cases hn0:n=0
    ·subst hn0
     simp only[adn]
     refine⟨q,_,#[],rfl,fun w' hw=>?_,by simp,fun _ _=>mL⟩
     cases q with
     |none=>rfl
     |some q=>simp only[Builtin.firstCells,adH];rfl
    ·have:=g4 (by omega)
     subst this
     have hm:(off+n)*z'≤l.cap*z':=abX z' g3
     rw[abY]at hm
     refine⟨_,_,vs.extract (l.base+off*z') (l.base+off*z'+n*z'),rfl,fun w' hw=>?_,by simp;omega,fun ρ1 hρ1=>⟨fun i cs hi=>?_,fun i cs hi=>?_⟩⟩
     ·simp only[Builtin.firstCells,h3]
      rw[run_loadCells w' _ _ (fun j=>vs.getD (l.base+off*z'+j) undef) (fun j hj=>by
       rw[dp,sC hw,mX k1]
       have:l.base+off*z'+j<vs.size:=by omega
       simp[this])]
      congr 1
      apply Array.ext
      ·simp;omega
      ·intro j h1 h2
       simp at h1
       have:l.base+off*z'+j<vs.size:=by omega
       simp[this]
     ·obtain⟨e1,_⟩:L[off+i]?=some cs∧True:=by
       rw[abp]at hi
       split at hi
       ·rw[abI]at hi;exact⟨hi,trivial⟩
       ·cases hi
      exact h4 _ cs e1
     ·obtain⟨e1,e2⟩:L[off+i]?=some cs∧i<n:=by
       rw[abp]at hi
       split at hi
       ·rw[abI]at hi;exact⟨hi,by assumption⟩
       ·cases hi
      intro j c hj
      have hjl:=(aaS.1 hj).1
      rw[h4 _ cs e1]at hjl
      obtain⟨_,_,_,_,_,_,_,h9⟩:=hρ1 b _ _ _ l _ rfl hl hb rfl
      obtain⟨vs2,ty2,fz2,m1,m2,m3,m4⟩:=h9 hvi
      rw[k1]at m1;cases m1
      obtain⟨v',p1,p2⟩:=m4 _ cs e1 j c hj
      refine⟨v',?_,p2⟩
      have hm2:(i+1)*z'≤n*z':=abX z' e2
      rw[abY,acW]at hm2
      rw[adS,if_pos (by omega)]
      rw[abY]at p1
      rw[show l.base+off*z'+(0+i*z'+j)=l.base+(off*z'+i*z')+j by omega]
      exact p1
  ·cases h
 ·cases h
end
end
section
section
variable{C:Ctx}{ρ:Map}{F:Nat→Prop}{H H':ae}{w:World}{e:Env}{a:Act}{s c d:SV}
structure Dg(P:Program)(ats:Array TypeId)(el:TypeId)(z:Nat)(i:TypeInfo)(zv:Value):Prop where
 t0:∃t,ats[0]?=some t∧P.underlying t=some (.slice el)
 t1:∃t el',ats[1]?=some t∧P.underlying t=some (.slice el')
 inf:P.info? el=some i
 size:i.size=z
 zero:i.zero=some zv
 YM:zv.cells.size=z
 Af:0<z
 Ym:0<i.bytes
theorem Dg.fQ{P:Program}{ats:Array TypeId}{el:TypeId}{z:Nat}{i:TypeInfo}{zv:Value}(h:Dg P ats el z i zv):fQ P el=some z:=by
 unfold Go.Sh.fQ;rw[h.inf];simp[h.size]
theorem run_append_fits{P:Program}{ats:Array TypeId}{el:TypeId}{z:Nat}{i:TypeInfo}{zv:Value}(hT:Dg P ats el z i zv){ty:TypeId}{base q:Option Addr}{sl sc m mc:Nat}{cells:Array Value}
 (hx:(Builtin.firstCells z m (.slice q m mc)).run P w=.ok cells w) (hfit:sl+m≤sc) {w':World} (hst:∀ad,base=some ad→(storeCells (ad.add (sl*z)) cells.toList).run P w=.ok () w') (hno:base=none→w'=w) :
 (Builtin.append_ ats ty #[.slice base sl sc,.slice q m mc]).run P w=.ok (.slice base (sl+m) sc) w':=by
 obtain⟨t0,h0,hu0⟩:=hT.t0
 obtain⟨t1,el',h1,hu1⟩:=hT.t1
 unfold Builtin.append_
 simp only[h0,h1,acR,acm,adL,Sem.run_bind,run_underlying hu0,run_underlying hu1,Result.andThen,bR hT.fQ]
 simp only[pure,Sem.run,Result.andThen,Builtin.lenOf,abE,if_false,hfit,if_true,Sem.run_bind,acb]
 rw[hx]
 cases base with
 |none=>simp only[hno rfl];rfl
 |some ad=>simp only[hst ad rfl,Sem.run_bind,Result.andThen];rfl
theorem nO{P:Program}{ats:Array TypeId}{el:TypeId}{z:Nat}{i:TypeInfo}{zv:Value}(hT:Dg P ats el z i zv){ty:TypeId}{base q:Option Addr}{sl sc m mc:Nat}{cells old:Array Value}
 (hx:∀w',w'.heap=w.heap→(Builtin.firstCells z m (.slice q m mc)).run P w'=.ok cells w') (ho:∀w',w'.heap=w.heap→(Builtin.firstCells z sl (.slice base sl sc)).run P w'=.ok old w') (hfit:¬sl+m≤sc) (hb:(sl+m)*i.bytes≤bX) :
 ∃nc w' vs ty',sl+m≤nc∧(w'.heap=w.heap.push (.cells vs ty')∧w'.os=w.os∧w'.output=w.output)∧(∃rest,vs=old++cells++rest∧rest.size=(nc-(sl+m))*z)∧
  (Builtin.append_ ats ty #[.slice base sl sc,.slice q m mc]).run P w=.ok (.slice (some ⟨w.heap.size,0,none⟩) (sl+m) nc) w':=by
 obtain⟨t0,h0,hu0⟩:=hT.t0
 obtain⟨t1,el',h1,hu1⟩:=hT.t1
 have hbp:=hT.Ym
 have hml:bX=1099511627776:=rfl
 have g1:¬Builtin.nextslicecap (sl+m) sc*i.bytes>2 ^ 48:=by
  have:=growslice_fits (need:=sl+m) (old:=sc) (bytes:=i.bytes) (by omega) (by omega)
  omega
 have hle:sl+m≤(sl+m)*i.bytes:=Nat.le_mul_of_pos_right _ hbp
 have g2:¬(9223372036854775807<((sl:Int)+(m:Int))):=by omega
 have g1':¬(281474976710656<Builtin.nextslicecap (sl+m) sc*i.bytes):=by omega
 refine⟨grownCap w (sl+m) sc el,w.drew.alloc (.cells (old++cells++Builtin.zeroCells zv.cells (grownCap w (sl+m) sc el-(sl+m))) el),_,el,?_,⟨rfl,rfl,rfl⟩,⟨_,rfl,by simp[Builtin.zeroCells,hT.YM]⟩,?_⟩
 ·show sl+m≤(sl+m)+_%_
  omega
 ·have hf:=hx w.drew rfl
  have hfo:=ho w.drew rfl
  have hi:=hT.inf
  have hsz:=hT.size
  have hz:=hT.zero
  simp[Builtin.append_,h0,h1,run_underlying hu0,run_underlying hu1,sizeOf,typeInfo,zeroValue,hi,hz,hsz,Builtin.lenOf,hfit,g2,g1',Question.forced,hf,hfo,newRow,grownCap]
end
end
section
section
variable{C:Ctx}{ρ:Map}{F:Nat→Prop}{H H':ae}{w:World}{e:Env}{a:Act}{s c d:SV}
theorem l9{vs ws:Array Value}{at_:Nat}{cs:List SV}(hc:bL w F ρ vs at_ cs):bL w F ρ (vs++ws) at_ cs:=by
 intro j c hj
 obtain⟨v,h1,h2⟩:=hc j c hj
 have:=(abq.1 h1).1
 exact⟨v,by rw[adA this];exact h1,h2⟩
theorem vf{vs ws:Array Value}{at_:Nat}{cs:List SV}(hc:bL w F ρ ws at_ cs):bL w F ρ (vs++ws) (vs.size+at_) cs:=by
 intro j c hj
 obtain⟨v,h1,h2⟩:=hc j c hj
 refine⟨v,?_,h2⟩
 rw[Array.getElem?_append_right (by omega),show vs.size+at_+j-vs.size=at_+j by omega]
 exact h1
theorem vb{vs ws rest:Array Value}{z:Nat}{Y X:List (List SV)}(hy:ez w F ρ vs 0 z Y)(hs:vs.size=Y.length*z)(hx:ez w F ρ ws 0 z X):ez w F ρ (vs++ws++rest) 0 z (Y++X):=by
 refine⟨fun i cs hi=>?_,fun i cs hi=>?_⟩<;>rw[acf]at hi<;>split at hi
 ·exact hy.1 i cs hi
 ·exact hx.1 _ cs hi
 ·exact l9 (l9 (hy.2 i cs hi))
 ·rename_i hge
  have:=l9 (ws:=rest) (vf (vs:=vs) (hx.2 _ cs hi))
  rw[hs,ach,←abY,show Y.length+(i-Y.length)=i by omega]at this
  rwa [ach]
theorem vL{vs xs:Array Value}{z base off cap:Nat}{L X:List (List SV)}(hL:∀(i:Nat) cs,L[i]?=some cs→cs.length=z)(hc:∀(i:Nat) cs,L[i]?=some cs→bL w F ρ vs (base+i*z) cs)(hx:ez w F ρ xs 0 z X)(hn:xs.size=X.length*z)
 (ho:off≤L.length) (hfit:off+X.length≤cap) (hLc:L.length≤cap) (hsz:base+cap*z≤vs.size) :
 ez w F ρ (my vs (base+off*z) xs.toList) base z (L.take off++X++L.drop (off+X.length)):=by
 have hm:(off+X.length)*z≤cap*z:=abX z hfit
 rw[abY]at hm
 have hle:base+off*z+xs.toList.length≤vs.size:=by simp;omega
 have ht:(L.take off).length=off:=by simp;omega
 have key:∀(i:Nat) cs,(L.take off++X++L.drop (off+X.length))[i]?=some cs→(off≤i∧i<off+X.length∧X[i-off]?=some cs)∨((i<off∨off+X.length≤i)∧L[i]?=some cs):=by
  intro i cs hi
  rw[aaU,acf,ht]at hi
  split at hi
  ·rename_i hlt
   rw[abp,if_pos hlt]at hi
   exact .inr ⟨.inl hlt,hi⟩
  ·rename_i hge
   rw[acf]at hi
   split at hi
   ·exact .inl ⟨by omega,by omega,hi⟩
   ·rename_i h2
    rw[abI,show off+X.length+(i-off-X.length)=i by omega]at hi
    exact .inr ⟨.inr (by omega),hi⟩
 refine⟨fun i cs hi=>?_,fun i cs hi=>?_⟩
 ·rcases key i cs hi with⟨_,_,h⟩|⟨_,h⟩
  ·exact hx.1 _ cs h
  ·exact hL i cs h
 ·rcases key i cs hi with⟨h1,h2,h⟩|⟨h1,h⟩
  ·intro j c hj
   have hjl:=(aaS.1 hj).1
   rw[hx.1 _ cs h]at hjl
   obtain⟨v,p1,p2⟩:=hx.2 _ cs h j c hj
   refine⟨v,?_,p2⟩
   have hp:=(abq.1 p1).1
   have e1:i*z=off*z+(i-off)*z:=by rw[←abY];congr 1;omega
   rw[jt hle,if_neg (by omega),if_pos (by simp;omega),adZ]
   rw[show base+i*z+j-(base+off*z)=0+(i-off)*z+j by omega]
   exact p1
  ·refine lS (n:=0) (hc i cs h) hle ?_
   rw[hL i cs h]
   simp only[ada,hn]
   rcases h1 with h1|h1
   ·left
    have:(i+1)*z≤off*z:=abX z h1
    rw[abY,acW]at this
    omega
   ·right
    have:(off+X.length)*z≤i*z:=abX z h1
    rw[abY]at this
    omega
theorem Bq{vs:Array Value}{z at_ N:Nat}{X:List (List SV)}(h:ez w F ρ vs at_ z X)(hN:SV.refs.aJ X.flatten≤N):ez w F (ρ.cut N) vs at_ z X:=by
 refine⟨h.1,fun i cs hi j c hj=>?_⟩
 obtain⟨v,h1,h2,h3⟩:=h.2 i cs hi j c hj
 have hm:c∈X.flatten:=adF.2 ⟨cs,aa3 hi,aa3 hj⟩
 obtain⟨m,hm⟩:=abw hm
 exact⟨v,h1,h2.cut N (eO hN m c hm),h3⟩
def wV(ρ ρ1:Map)(r:Nat):Prop:=ρ1=ρ∨∃N,r≤N∧ρ1=ρ.cut N
theorem nI{vs:Array Value}{z at_:Nat}{X:List (List SV)}{ρ1:Map}(h:ez w F ρ vs at_ z X)(hN:wV ρ ρ1 (SV.refs.aJ X.flatten)):ez w F ρ1 vs at_ z X:=by
 rcases hN with rfl|⟨N,hN,rfl⟩
 ·exact h
 ·exact Bq h hN
theorem jr{ats:Array TypeId}{el:TypeId}{z:Nat}{i:TypeInfo}{zv:Value}(hT:Dg C.P ats el z i zv){ty:TypeId}(hr:HR C ρ F H w){Y X:List (List SV)}{sv xv:Value}{base:Option Addr}{sc:Nat}(hsv:VR w F ρ s sv)(hxv:VR w F ρ c xv)
 (hY:nG z H s=some Y) (hX:nG z H c=some X) (he:sv=.slice base Y.length sc) (hg:¬Y.length+X.length≤sc) (hb:(Y.length+X.length)*i.bytes≤bX) :
 ∃nc w' vs ty',Y.length+X.length≤nc∧(w'.heap=w.heap.push (.cells vs ty')∧w'.os=w.os∧w'.output=w.output)∧nc*z≤vs.size∧(∀ρ1:Map,Ed C w F H ρ ρ1 s→wV ρ ρ1 (SV.refs.aJ X.flatten)→ez w F ρ1 vs 0 z (Y++X))∧
  (Builtin.append_ ats ty #[sv,xv]).run C.P w=.ok (.slice (some ⟨w.heap.size,0,none⟩) (Y.length+X.length) nc) w':=by
 obtain⟨q,mc,cells,rfl,k1,k2,k3⟩:=kD hr hT.Af hxv hX
 obtain⟨q',mc',old,h1,j1,j2,j3⟩:=kD hr hT.Af hsv hY
 subst he
 cases h1
 obtain⟨nc,w',vs,ty',g1,g2,⟨rest,g3,g4⟩,g5⟩:=nO hT (ty:=ty) k1 j1 hg hb
 refine⟨nc,w',vs,ty',g1,g2,?_,?_,g5⟩
 ·rw[g3]
  simp only[Array.size_append,j2,k2,g4]
  rw[←abY,←abY]
  exact abX z (by omega)
 ·intro ρ1 h1 h2
  rw[g3];exact vb (j3 ρ1 h1) j2 (nI (k3 ρ (eF hr)) h2)
theorem sG(hr:HR C ρ F H w){b cB z:Nat}{L L':List (List SV)}{ex:Bool}{l:Loc}{refs:Nat}(hb:bn H b=some (.arr cB z L ex))(hl:ρ b=some l)(hbr:BR C w F ρ l (.arr cB z L ex))
 (hH:cz H b (.arr (cB+1) z L' false) refs=some H') {w':World} {l':Loc} (hv':l'.cB=cB+1) (ha:l'.arr=true) (hs:w.heap.size≤w'.heap.size) (hh:∀B,B<w.heap.size→(l.bE=false→B≠l.cp)→w'.heap[B]?=w.heap[B]?)
 (hl':l'.bE=false→(l.bE=false∧l'.cp=l.cp)∨(w.heap.size≤l'.cp∧l'.cp<w'.heap.size))
 (hy:∀ρ1:Map,wV ρ ρ1 refs→BR C w F ρ1 l (.arr cB z L ex)→BR C w' F (ρ1.put b l') l' (.arr (cB+1) z L' false)) {off n:Nat} {val:Value} (hone:jv val=true)
 (hval:(l'.bE=true→∃a,val=.slice a 0 0∧off=0∧n=0)∧
  (l'.bE=false→off+n≤l'.cap∧∃a,val=.slice a n (l'.cap-off)∧(off<l'.cap→a=some ⟨l'.cp,l'.base+off*l'.bT,none⟩))) (hout:w'.os=w.os∧w'.output=w.output:=by exact⟨rfl,rfl⟩) :
 dF C ρ F H w (.bp b (cB+1) off n) H' val w':=by
 obtain⟨p1,p2⟩:=hr.set (w':=w') hH hb rfl hl hs hh hl' (.inr ⟨hbr.1,by have:=hbr.2.1;omega⟩) (fun _=>hy ρ (.inl rfl) hbr) (fun _ N hN hbN h=>by
  have:=hy (ρ.cut N) (.inr ⟨N,hN,rfl⟩) h
  have e:(ρ.put b l').cut N=(ρ.cut N).put b l':=by
   funext b'
   unfold Map.cut Map.put
   by_cases e:b'=b
   ·subst e;simp[hbN]
   ·simp[e]
  rw[e];exact this) (hout:=hout)
 exact⟨_,F,.bp (Map.bJ _ _ _) (by omega) hone (fun _=>hval),p1,p2⟩
theorem ij{ats:Array TypeId}{el:TypeId}{z:Nat}{i:TypeInfo}{zv:Value}(hT:Dg C.P ats el z i zv){ty:TypeId}(hr:HR C ρ F H w){xv:Value}{base:Option Addr}{sl sc:Nat}(hxv:VR w F ρ c xv)
 (hX:nG z H c=some []) (hg:sl≤sc):(Builtin.append_ ats ty #[.slice base sl sc,xv]).run C.P w=.ok (.slice base sl sc) w:=by
 obtain⟨q,mc,cells,rfl,k1,k2,k3⟩:=kD hr hT.Af hxv hX
 have h0:cells= #[]:=ac1 (by simpa using k2)
 subst h0
 have:=run_append_fits hT (ty:=ty) (base:=base) (k1 w rfl) (by simpa using hg) (w':=w) (fun ad _=>rfl) (fun _=>rfl)
 simpa using this
theorem nn{ats:Array TypeId}{el:TypeId}{z:Nat}{i:TypeInfo}{zv:Value}(hT:Dg C.P ats el z i zv){ty:TypeId}(hr:HR C ρ F H w){X:List (List SV)}{xv:Value}{b v off n:Nat}{L:List (List SV)}{ex:Bool}{l:Loc}
 (hxv:VR w F ρ c xv) (hX:nG z H c=some X) (hb:bn H b=some (.arr v z L ex)) (hl:ρ b=some l) (hbr:BR C w F ρ l (.arr v z L ex)) (hvi:l.bE=false) (hle:off+n≤L.length) (hfit:off+n+X.length≤l.cap) :
 ∃vs' ty' fz,(Builtin.append_ ats ty #[.slice (some ⟨l.cp,l.base+off*z,none⟩) n (l.cap-off),xv]).run C.P w=.ok (.slice (some ⟨l.cp,l.base+off*z,none⟩) (n+X.length) (l.cap-off)) (ff w l.cp vs' ty' fz)∧
  ki fz vs'.size∧l.base+l.cap*z≤vs'.size∧(∀ρ1:Map,BR C w F ρ1 l (.arr v z L ex)→wV ρ ρ1 (SV.refs.aJ X.flatten)→ez (ff w l.cp vs' ty' fz) F ρ1 vs' l.base z (L.take (off+n)++X++L.drop (off+n+X.length)))∧(ff w l.cp vs' ty' fz).heap[l.cp]?=some (.cells vs' ty' fz):=by
 obtain⟨q,mc,cells,rfl,k1,k2,k3⟩:=kD hr hT.Af hxv hX
 obtain⟨h1,h2,h3,h4,h5,h6,h7,h8⟩:=hbr
 obtain⟨vs,ty',fz,g1,g2,g3,g4⟩:=h8 hvi
 have hm:(off+n+X.length)*z≤l.cap*z:=abX z hfit
 rw[abY]at hm
 have hsz:(my vs (l.base+(off+n)*z) cells.toList).size=vs.size:=iM (by simp;omega)
 have hlt:l.cp<w.heap.size:=(abq.1 g1).1
 have hst:=dS (P:=C.P) l.cp (l.base+(off+n)*z) ty' fz cells.toList 0 vs w g1 g2 (by simp;omega) (fun x hx=>yc (k3 ρ (eF hr)) k2 x hx)
 refine⟨my vs (l.base+(off+n)*z) cells.toList,ty',fz,?_,by rw[hsz];exact g2,by rw[hsz];exact g3,?_,ja hlt⟩
 ·refine run_append_fits hT (k1 w rfl) (by omega) (fun ad hd=>?_) (fun h=>by cases h)
  cases hd
  rw[dp,show l.base+off*z+n*z=l.base+(off+n)*z by rw[abY];omega]
  exact hst
 ·intro ρ1 hb1 hc1
  obtain⟨_,_,_,_,_,_,_,q8⟩:=hb1
  obtain⟨vs2,ty2,fz2,m1,m2,m3,m4⟩:=q8 hvi
  rw[g1]at m1;cases m1
  have:=vL (xs:=cells) h4 m4 (nI (k3 ρ (eF hr)) hc1) k2 hle hfit h5 g3
  have hk:dH F w (ff w l.cp (my vs (l.base+(off+n)*z) cells.toList) ty' fz):=jC hr hb rfl hl hvi
  exact⟨this.1,fun j cs hj=>(this.2 j cs hj).mono hk (fun _ h=>h) (Map.le_refl _)⟩
theorem zF{ats:Array TypeId}{el:TypeId}{z:Nat}{i:TypeInfo}{zv:Value}(hT:Dg C.P ats el z i zv){ty:TypeId}(hr:HR C ρ F H w){X:List (List SV)}{sv xv:Value}(hsv:VR w F ρ s sv)(hxv:VR w F ρ c xv)
 (hX:nG z H c=some X) (h:gB z i.bytes H s X=some (d,H')):∃val w',(Builtin.append_ ats ty #[sv,xv]).run C.P w=.ok val w'∧dF C ρ F H w d H' val w':=by
 have hz:=hT.Af
 unfold gB at h
 split at h
 ·rename_i z0 L f
  replace h:=aj h
  obtain⟨hb,h⟩:=h
  replace hb:=abC hb
  cases hsv with
  |ay V hcap hfull hz' hat h1 hv=>
   rename_i q cap
   split at h
   ·replace h:=aj h
    obtain⟨hf,h⟩:=h
    simp only[abd,abi]at h
    obtain⟨rfl,rfl⟩:=h
    have hc0:cap=0:=hfull hf
    subst hc0
    cases X with
    |nil=>
     refine⟨_,w,ij hT hr hxv hX (aa8 _),?_⟩
     let l:Loc:={cp:=0,base:=0,cap:=0,bT:=z,cB:=0,bE:=true,arr:=true}
     have hp:=hr.push (w':=w) (aa8 _) (fun _ _=>rfl) (.arr 0 z [] false) l (fun h=>by cases h) ⟨rfl,rfl,rfl,by simp,aa8 _,(fun h=>by cases h),fun _=>rfl,fun h=>by cases h⟩
     exact⟨_,F,.bp (l:=l) (Map.bJ _ _ _) (aa8 _) rfl (fun _=>⟨fun _=>⟨q,rfl,rfl,rfl⟩,fun h=>by cases h⟩),hp.1,hp.2⟩
    |cons x X=>
     obtain⟨nc,w',vs,ty',g1,g2,g3,g4,g5⟩:=jr hT (ty:=ty) hr (.ay V hcap hfull hz' hat h1 hv) hxv (Y:=[]) (by simp[nG]) hX rfl (by simp) hb
     refine⟨_,w',g5,?_⟩
     have:=kp hr (ex:=false) (hout:=g2.2) g2.1 (by simpa using g1) (fun h=>by cases h) g3 (g4 ρ (eF hr) (.inl rfl)) (x::X).length (by simp)
     simpa using this
   ·simp only[abd,abi]at h
    obtain⟨rfl,rfl⟩:=h
    exact⟨_,w,ij hT hr hxv hX hcap,dF.same hr (.ay V hcap hfull hz' hat h1 hv)⟩
   ·rename_i hne1 hne2
    replace h:=aj h
    obtain⟨hf,h⟩:=h
    simp only[aa1,ab0]at hf
    obtain⟨hf,rfl⟩:=hf
    simp only[abd,abi]at h
    obtain⟨rfl,rfl⟩:=h
    have hc0:=hfull hf
    have hX0:0<X.length:=by
     cases X with
     |nil=>exact absurd rfl hne2
     |cons _ _=>simp
    obtain⟨nc,w',vs,ty',g1,g2,g3,g4,g5⟩:=jr hT (ty:=ty) hr (.ay V hcap hfull hz' hat h1 hv) hxv (Y:=L) (by simp[nG]) hX rfl (by omega) hb
    refine⟨_,w',g5,?_⟩
    have:=kp hr (ex:=false) (hout:=g2.2) g2.1 (by simpa using g1) (fun h=>by cases h) g3 (g4 ρ (eF hr) (.inl rfl)) (L.length+X.length) (by simp)
    simpa using this
 ·rename_i b v off n
  replace h:=aj h
  obtain⟨hb,h⟩:=h
  replace hb:=abC hb
  split at h
  ·rename_i v' z' L ex hg
   replace h:=aj h
   obtain⟨hc,h⟩:=h
   simp only[aa1,ab0,aaX]at hc
   obtain⟨⟨rfl,rfl⟩,hle⟩:=hc
   have hY:nG z' H (.bp b v off n)=some ((L.drop off).take n):=by
    simp[nG,hg,hle]
   have hYl:((L.drop off).take n).length=n:=by simp;omega
   obtain⟨l,z2,L2,ex2,hl,hb2,hbr,g1,g2⟩:=ec hr (by unfold cur;simp[hg]) hsv
   rw[hg]at hb2;cases hb2
   have hbr':=hbr
   obtain⟨b1,b2,b3,b4,b5,b6,b7,b8⟩:=hbr'
   obtain⟨base,sc,hse,hsc⟩:∃base sc,sv=.slice base n sc∧n≤sc:=by
    cases hvi:l.bE with
    |true=>obtain⟨q,p1,p2,p3⟩:=g1 hvi;exact⟨q,0,by rw[p1,p3],by omega⟩
    |false=>obtain⟨p1,q,p2,p3⟩:=g2 hvi;exact⟨q,_,p2,by omega⟩
   cases hi:(!ex&&off==0&&n==L.length)with
   |true=>
    rw[hi]at h
    simp only[aa1,ab0,abx]at hi
    obtain⟨⟨he0,rfl⟩,hn⟩:=hi
    simp only[abb,aaW,abi]at h
    obtain⟨H1,hH,rfl,rfl⟩:=h
    have hY':(L.drop 0).take n=L:=by rw[hn];simp
    rw[hY']at hY hYl
    have hLX:∀(j:Nat) cs,(L++X)[j]?=some cs→cs.length=z':=fun j cs hj=>by
     rw[acf]at hj
     obtain⟨q,mc,cells,_,_,_,k3⟩:=kD hr hz hxv hX
     split at hj
     ·exact b4 j cs hj
     ·exact(k3 ρ (eF hr)).1 _ cs hj
    have hle':∀(ρ1:Map) (l':Loc),wV ρ ρ1 (SV.refs.aJ X.flatten)→l'.cB=v+1→ρ1.le (ρ1.put b l'):=fun ρ1 l' hc hv' b' l1 h1=>by
     have h2:ρ b'=some l1:=by
      rcases hc with rfl|⟨N,_,rfl⟩
      ·exact h1
      ·unfold Map.cut at h1
       split at h1
       ·exact h1
       ·cases h1
     by_cases e:b'=b
     ·subst e;rw[hl]at h2;cases h2;exact⟨_,Map.bJ _ _ _,.inr ⟨b1,by omega⟩⟩
     ·exact⟨l1,by rw[Map.bu _ _ e];exact h1,.inl rfl⟩
    by_cases hX0:X=[]
    ·subst hX0
     subst hse
     refine⟨_,w,ij hT hr hxv hX hsc,?_⟩
     rw[abQ]at hH
     refine sG hr hg hl hbr hH (w':=w) (l':={l with cB:=v+1}) rfl b1 (aa8 _) (fun _ _ _=>rfl) (fun h=>.inl ⟨h,rfl⟩) (fun ρ1 hρ1 hbr1=>⟨b1,rfl,b3,b4,b5,(fun h=>by cases h),b7,fun h=>?_⟩) rfl ⟨fun h=>?_,fun h=>?_⟩
     ·obtain⟨vs,ty',fz,e1,e2,e3,e4⟩:=hbr1.2.2.2.2.2.2.2 h
      exact⟨vs,ty',fz,e1,e2,e3,fun j cs hj=>(e4 j cs hj).mono (fun _ _=>rfl) (fun _ h=>h) (hle' ρ1 _ hρ1 rfl)⟩
     ·obtain⟨q,p1,p2,p3⟩:=g1 h
      exact⟨q,by rw[p1],p2,by simpa using p3⟩
     ·obtain⟨p1,q,p2,p3⟩:=g2 h
      exact⟨by simpa using p1,q,by simpa using p2,by simpa using p3⟩
    ·have hXp:0<X.length:=by
      cases X with
      |nil=>exact absurd rfl hX0
      |cons _ _=>simp
     by_cases hfit:l.bE=false∧n+X.length≤l.cap
     ·obtain⟨hvi,hfit⟩:=hfit
      obtain⟨p1,q,p2,p3⟩:=g2 hvi
      have:=p3 (by omega)
      subst this
      rw[p2,b3]
      obtain⟨vs',ty',fz,e1,e2,e3,e4,e5⟩:=nn hT (ty:=ty) hr hxv hX hg hl hbr hvi hle (by omega)
      refine⟨_,_,e1,?_⟩
      have hc:L.take (0+n)++X++L.drop (0+n+X.length)=L++X:=by
       rw[ach,hn,ab4,acM (by omega),abQ]
      refine sG hr hg hl hbr hH (l':={l with cB:=v+1}) rfl b1 (by rw[rZ];exact aa8 _) (fun B _ hB=>gZ (hB hvi)) (fun h=>.inl ⟨h,rfl⟩) (fun ρ1 hρ1 hbr1=>⟨b1,rfl,b3,hLX,by simp;omega,(fun h=>by cases h),b7,fun h=>?_⟩) rfl ⟨fun h=>?_,fun h=>?_⟩
      ·have e6:=e4 ρ1 hbr1 hρ1
       rw[hc]at e6
       exact⟨vs',ty',fz,e5,e2,e3,fun j cs hj=>(e6.2 j cs hj).mono (fun _ _=>rfl) (fun _ h=>h) (hle' ρ1 _ hρ1 rfl)⟩
      ·simp[hvi]at h
      ·exact⟨by simpa using hfit,_,rfl,fun _=>by simp[b3]⟩
     ·have hg':¬L.length+X.length≤sc:=by
       cases hvi:l.bE with
       |true=>obtain⟨q,p1,p2,p3⟩:=g1 hvi;rw[p1]at hse;cases hse;omega
       |false=>obtain⟨p1,q,p2,p3⟩:=g2 hvi;rw[p2]at hse;cases hse;have:¬n+X.length≤l.cap:=fun h=>hfit ⟨hvi,h⟩;omega
      obtain⟨nc,w',vs,ty',e1,e2,e3,e4,e5⟩:=jr hT (ty:=ty) hr hsv hxv hY hX (by rw[hse,hn]) hg' (by rw[←hn];exact hb)
      refine⟨_,w',e5,?_⟩
      have hkeep:∀B,B<w.heap.size→w'.heap[B]?=w.heap[B]?:=fun B hB=>by
       rw[e2.1];simp[acO,acQ hB]
      rw[hn]
      refine sG hr hg hl hbr hH (hout:=e2.2) (l':={cp:=w.heap.size,base:=0,cap:=nc,bT:=z',cB:=v+1,bE:=false,arr:=true}) rfl rfl (by rw[e2.1];simp) (fun B hB _=>hkeep B hB) (fun _=>.inr ⟨aa8 _,by rw[e2.1];simp⟩)
       (fun ρ1 hρ1 hbr1=>⟨rfl,rfl,rfl,hLX,by simpa using e1,(fun h=>by cases h),(fun h=>by cases h),fun _=>?_⟩) rfl ⟨fun h=>(by cases h),fun _=>⟨by simpa using e1,_,rfl,fun _=>by simp⟩⟩
      have e6:=e4 ρ1 (fun b' _ _ _ l2 x hs h1 h2 _=>by cases hs;rw[hl]at h1;cases h1;rw[hg]at h2;cases h2;exact hbr1) hρ1
      exact⟨vs,ty',(0,0),by rw[e2.1];simp,fun o ho=>by simp,by simpa using e3,fun j cs hj=>(e6.2 j cs hj).mono (fun B hB=>hkeep B (hr.ia B hB)) (fun _ h=>h) (hle' ρ1 _ hρ1 rfl)⟩
   |false=>
    rw[hi]at h
    simp only[abc]at h
    cases hfit:decide (off+n+X.length≤L.length)with
    |true=>
     rw[hfit]at h
     replace hfit:=abC hfit
     simp only[abb,aaW,abi]at h
     obtain⟨H1,hH,rfl,rfl⟩:=h
     by_cases hX0:X=[]
     ·subst hX0
      subst hse
      refine⟨_,w,ij hT hr hxv hX hsc,?_⟩
      rw[abQ,abh,acL,abR]at hH
      obtain⟨p1,p2⟩:=hr.set (w':=w) (l':=l) hH hg rfl hl (aa8 _) (fun _ _ _=>rfl) (fun h=>.inl ⟨h,rfl⟩) (.inl rfl) (fun _=>by rw[ca hl];exact hbr) (fun _ N _ _ h=>by rw[ca hl];exact h)
      rw[ca hl]at p1 p2
      exact⟨ρ,F,hsv,p1,p2⟩
     ·have hXp:0<X.length:=by
       cases X with
       |nil=>exact absurd rfl hX0
       |cons _ _=>simp
      have hvi:l.bE=false:=by
       cases hvi:l.bE with
       |true=>have:=b7 hvi;omega
       |false=>rfl
      obtain⟨p1,q,p2,p3⟩:=g2 hvi
      have:=p3 (by omega)
      subst this
      rw[p2,b3]
      obtain⟨vs',ty',fz,e1,e2,e3,e4,e5⟩:=nn hT (ty:=ty) hr hxv hX hg hl hbr hvi hle (by omega)
      refine⟨_,_,e1,?_⟩
      have hlen:(L.take (off+n)++X++L.drop (off+n+X.length)).length=L.length:=by simp;omega
      obtain⟨r1,r2⟩:=kN (vs':=vs') (ty:=ty') (fz:=fz) hr hH hg rfl hl hvi (fun _ ρ1 hρ1 hbr1=>⟨b1,b2,b3,(e4 ρ1 hbr1 hρ1).1,by rw[hlen];exact b5,by rw[hlen];exact b6,b7,fun _=>⟨vs',ty',fz,e5,e2,e3,(e4 ρ1 hbr1 hρ1).2⟩⟩)
      exact⟨ρ,F,.bp hl (by omega) rfl (fun _=>⟨fun h=>(by rw[hvi]at h;cases h),fun _=>⟨by omega,_,rfl,fun _=>by rw[b3]⟩⟩),r1,r2⟩
    |false=>
     rw[hfit]at h
     replace hfit:=aco hfit
     simp only[abc]at h
     replace h:=aj h
     obtain⟨hex,h⟩:=h
     simp only[abd,abi]at h
     obtain⟨rfl,rfl⟩:=h
     have hcap:=b6 hex
     have hg':¬((L.drop off).take n).length+X.length≤sc:=by
      rw[hYl]
      cases hvi:l.bE with
      |true=>obtain⟨q,p1,p2,p3⟩:=g1 hvi;rw[p1]at hse;cases hse;have:=b7 hvi;omega
      |false=>obtain⟨p1,q,p2,p3⟩:=g2 hvi;rw[p2]at hse;cases hse;omega
     obtain⟨nc,w',vs,ty',e1,e2,e3,e4,e5⟩:=jr hT (ty:=ty) hr hsv hxv hY hX (by rw[hse,hYl]) hg' (by rw[hYl];exact hb)
     refine⟨_,w',e5,?_⟩
     rw[hYl]
     exact kp hr (ex:=false) (hout:=e2.2) e2.1 (by simpa using e1) (fun h=>by cases h) e3 (e4 ρ (eF hr) (.inl rfl)) _ (by rw[aaT,hYl];exact aa8 _)
  ·cases h
 ·cases h
end
end
section
section
variable{C:Ctx}{ρ:Map}{F:Nat→Prop}{H H':ae}{w:World}{e:Env}{a:Act}{s c d:SV}
theorem wrap_small{n:Int}(h0:0≤n)(h1:n≤bX):IntKind.i64.wrap n=n:=by
 have:bX=1099511627776:=rfl
 rw[IntKind.wrap_i64];omega
theorem wa{t el:TypeId}{i:TypeInfo}{z:List SV}(hu:C.P.underlying t=some (.slice el))(hi:C.P.info? el=some i)(hz:gI C.P el=some z)(hzl:z.length=i.size)(h0:0<i.size)(hbp:0<i.bytes)(hr:HR C ρ F H w)
 {lv cv:Value} {ls cs:SV} (hl:VR w F ρ ls lv) (hc:VR w F ρ cs cv) (h:iG i.size z i.bytes H ls cs=some (d,H')):∃val w',(Instr.makeSlice t lv cv).run C.P w=.ok val w'∧dF C ρ F H w d H' val w':=by
 unfold iG at h
 split at h
 ·rename_i l c
  replace h:=aj h
  obtain⟨hb,h⟩:=h
  simp only[aa1,aaX]at hb
  obtain⟨⟨h1,h2⟩,h3⟩:=hb
  simp only[abd,abi]at h
  obtain⟨rfl,rfl⟩:=h
  obtain rfl:=fH hl
  obtain rfl:=fH hc
  obtain⟨i',v,hi',hv,k1,k2⟩:=gj (w:=w) (F:=F) (ρ:=ρ) hz
  rw[hi]at hi';cases hi'
  have hzr:(cG v.cells (c.toNat*i.size)).size=c.toNat*i.size:=by simp[cG]
  have hrow:=jm (n:=c.toNat) hzl k1 k2 h0
  refine⟨.slice (some ⟨w.heap.size,0,none⟩) l.toNat c.toNat,{w with heap:=w.heap.push (.cells (cG v.cells (c.toNat*i.size)) el)},?_,kp hr rfl (by simp) (fun _=>by simp) (by rw[hzr];exact aa8 _) hrow l.toNat (by simp;omega)⟩
  have hm:c≤c*i.bytes:=by
   have:c*1≤c*i.bytes:=acD (by omega) (by omega)
   omega
  have hml:(bX:Int)=1099511627776:=rfl
  have wl:IntKind.i64.wrap l=l:=wrap_small h1 (by omega)
  have wc:IntKind.i64.wrap c=c:=wrap_small (by omega) (by omega)
  have n1:¬c<0:=by omega
  have n2:¬(281474976710656<(i.bytes:Int)*c):=by rw[aeb];omega
  have n3:¬l<0:=by omega
  have n4:¬c<l:=by omega
  by_cases hn:c.toNat*i.size=0
  ·have hzz:(Array.range (c.toNat*i.size)).map (fun x=>(#[]:Array Value)[x%(#[]:Array Value).size]!)=cG v.cells (c.toNat*i.size):=by
    unfold cG;rw[hn];simp
   have hask:∀w:World,(askRoom (c.toNat*i.bytes)).run C.P w=.ok () w:=fun w=>by unfold askRoom;split<;>rfl
   unfold Instr.makeSlice
   simp only[Sem.run_bind,run_underlying hu,Result.andThen,run_typeInfo _ hi,asInt,asIntOf,pure,Sem.run,wl,wc,hask]
   simp[n1,n2,n3,n4,hask,sizeOf,typeInfo,hi,newRow,hn]
   have hr0:Array.range 0= #[]:=ac1 (by simp)
   simp[cG,hr0]
  ·have hask:∀w:World,(askRoom (c.toNat*i.bytes)).run C.P w=.ok () w:=fun w=>by unfold askRoom;split<;>rfl
   unfold Instr.makeSlice
   simp only[Sem.run_bind,run_underlying hu,Result.andThen,run_typeInfo _ hi,asInt,asIntOf,pure,Sem.run,wl,wc,hask]
   simp[n1,n2,n3,n4,hask,sizeOf,typeInfo,hi,newRow,hn,zeroValue,hv,cG]
 ·cases h
end
end
section
section
variable{C:Ctx}{ρ:Map}{F:Nat→Prop}{H H':ae}{w:World}{e:Env}{a:Act}{s c d:SV}
theorem ir:∀(sh:List LK) (x y:List SV) (r:Bool),bB sh x y=some r→x.length=sh.length∧y.length=sh.length
 |[],x,y,r,h=>by
  unfold bB at h
  split at h<;>first|(simp;done)|(simp_all;done)
 |k::sh,x,y,r,h=>by
  unfold bB at h
  split at h
  ·rename_i h1;cases h1
  ·rename_i sh' k1 p1 x' k2 p2 y' h1
   cases h1
   replace h:=aj h
   simp only[aaW]at h
   obtain⟨_,r',h2,_⟩:=h
   have:=ir sh x' y' r' h2
   simp[this]
  ·rename_i sh' p1 x' p2 y' h1
   cases h1
   simp only[aaW]at h
   obtain⟨r',h2,_⟩:=h
   have:=ir sh x' y' r' h2
   simp[this]
  ·rename_i sh' p1 x' p2 y' h1
   cases h1
   simp only[aaW]at h
   obtain⟨r',h2,_⟩:=h
   have:=ir sh x' y' r' h2
   simp[this]
  ·cases h
theorem kF{k:LK}{c d:SV}{r:Bool}(h:bB [k] [c] [d]=some r):(∃q p p',k=.i∧c=.int q p∧d=.int q p'∧r=decide (p=p'))∨(∃p p',k=.b∧c=.bool p∧d=.bool p'∧r=(p==p'))∨
 (∃p p',k=.s∧c=.str p∧d=.str p'∧r=decide (p=p')):=by
 unfold bB at h
 split at h
 ·simp_all
 ·rename_i sh q p x q2 p2 y h1 h2 h3
  cases h1;cases h2;cases h3
  replace h:=aj h
  simp only[aaW]at h
  obtain⟨hk,r',h3,rfl⟩:=h
  have:r'=true:=by simpa[bB]using h3.symm
  subst this
  have:q=q2:=by simpa using hk
  subst this
  exact .inl ⟨_,_,_,rfl,rfl,rfl,by simp⟩
 ·rename_i sh p x p2 y h1 h2 h3
  cases h1;cases h2;cases h3
  simp only[aaW]at h
  obtain⟨r',h3,rfl⟩:=h
  have:r'=true:=by simpa[bB]using h3.symm
  subst this
  exact .inr (.inl ⟨_,_,rfl,rfl,rfl,by simp⟩)
 ·rename_i sh p x p2 y h1 h2 h3
  cases h1;cases h2;cases h3
  simp only[aaW]at h
  obtain⟨r',h3,rfl⟩:=h
  have:r'=true:=by simpa[bB]using h3.symm
  subst this
  exact .inr (.inr ⟨_,_,rfl,rfl,rfl,by simp⟩)
 ·cases h
theorem y7{A:Type}{c:Bool}{x:Option A}{y:A}(h:(bif c then none else x)=some y):c=false∧x=some y:=by
 cases c with
 |true=>cases h
 |false=>exact⟨rfl,h⟩
theorem et:∀(s1 s2:List LK) (x y:List SV) (r:Bool),bB (s1++s2) x y=some r→
 ∃r1 r2,bB s1 (x.take s1.length) (y.take s1.length)=some r1∧bB s2 (x.drop s1.length) (y.drop s1.length)=some r2∧r=(r1&&r2)
 |[],s2,x,y,r,h=>⟨true,r,by simp[bB],by simpa using h,by simp⟩
 |k::s1,s2,x,y,r,h=>by
  simp only[abV]at h
  unfold bB at h
  split at h
  ·rename_i h1;cases h1
  ·rename_i sh' k1 p1 x' k2 p2 y' h1
   cases h1
   replace h:=aj h
   simp only[aaW]at h
   obtain⟨hk,r',h2,rfl⟩:=h
   obtain⟨r1,r2,h3,h4,rfl⟩:=et s1 s2 x' y' r' h2
   exact⟨decide (p1=p2)&&r1,r2,by simp[bB,hk,h3],by simpa using h4,by simp[aef]⟩
  ·rename_i sh' p1 x' p2 y' h1
   cases h1
   simp only[aaW]at h
   obtain⟨r',h2,rfl⟩:=h
   obtain⟨r1,r2,h3,h4,rfl⟩:=et s1 s2 x' y' r' h2
   exact⟨(p1==p2)&&r1,r2,by simp[bB,h3],by simpa using h4,by simp[aef]⟩
  ·rename_i sh' p1 x' p2 y' h1
   cases h1
   simp only[aaW]at h
   obtain⟨r',h2,rfl⟩:=h
   obtain⟨r1,r2,h3,h4,rfl⟩:=et s1 s2 x' y' r' h2
   exact⟨decide (p1=p2)&&r1,r2,by simp[bB,h3],by simpa using h4,by simp[aef]⟩
  ·cases h
def De(P:Program)(w:World)(F:Nat→Prop)(ρ:Map)(dd:Nat)(t:TypeId)(sh:List LK):Prop:=
 ∀(xs ys:Array Value) (cs ds:List SV) (r:Bool) (o:Nat),bL w F ρ xs o cs→bL w F ρ ys o ds→bB sh cs ds=some r→fQ P t=some sh.length→
  ∃u v,(part t xs o).run P w=.ok u w∧(part t ys o).run P w=.ok v w∧(Op.equalIn dd t u v).run P w=.ok r w
theorem kX{vs:Array Value}{o i n:Nat}{cs:List SV}(h:bL w F ρ vs o cs):bL w F ρ vs (o+i) ((cs.drop i).take n):=by
 intro j c hj
 rw[abp]at hj
 split at hj
 ·rw[abI]at hj
  obtain⟨v,h1,h2,h3⟩:=h _ c hj
  exact⟨v,by rw[aa5];exact h1,h2,h3⟩
 ·cases hj
theorem lC{vs:Array Value}{o n:Nat}{cs:List SV}(h:bL w F ρ vs o cs)(hn:cs.length≤n):bL w F ρ (vs.extract o (o+n)) 0 cs:=by
 intro j c hj
 obtain⟨v,h1,h2,h3⟩:=h j c hj
 have hlt:=(aaS.1 hj).1
 have hlt':=(abq.1 h1).1
 refine⟨v,?_,h2,h3⟩
 rw[ach,adS,if_pos (by omega)]
 exact h1
theorem vW{P:Program}{t:TypeId}{k k2:IntKind}{p q:Int}{dd:Nat}{q0:IntKind}(hu:P.underlying t=some (.int q0))(hk:k=k2):(Op.equalIn (dd+1) t (.int k p) (.int k2 q)).run P w=.ok (decide (p=q)) w:=by
 subst hk
 simp only[Op.equalIn,Sem.run_bind,run_underlying hu,Result.andThen_ok]
 simp only[if_true,Sem.run_pure]
 congr 1
theorem rD{P:Program}{t:TypeId}{vs:Array Value}{o:Nat}{v:Value}(hag:jk P t=some false)(h:vs[o]?=some v):(part t vs o).run P w=.ok v w:=by
 unfold part
 simp only[Sem.run_bind,eX hag,Result.andThen,abE,if_false,h]
 rfl
theorem ud{P:Program}{t:TypeId}{vs:Array Value}{o n:Nat}(hag:jk P t=some true)(hsz:fQ P t=some n):(part t vs o).run P w=.ok (.agg (vs.extract o (o+n))) w:=by
 unfold part
 simp only[Sem.run_bind,eX hag,Result.andThen,if_true,bR hsz]
 rfl
def A4(P:Program)(dd:Nat)(acc:List LK)(f:Field):Option (List LK):=
 bif f.name != "_" &&f.offset==acc.length then(eN P dd f.type).bind fun sh=>bif (fQ P f.type)==some sh.length then some (acc++sh)else none else none
theorem jy{P:Program}{dd d2:Nat}(ih:∀t sh,eN P dd t=some sh→De P w F ρ d2 t sh):∀(fs:List Field) (acc sh:List LK) (xs ys:Array Value) (cs ds:List SV) (r:Bool),
 fs.foldlM (A4 P dd) acc=some sh→∃rest,sh=acc++rest∧
 (bL w F ρ xs acc.length cs→bL w F ρ ys acc.length ds→bB rest cs ds=some r→(Op.eqFields d2 xs ys fs).run P w=.ok r w)
 |[],acc,sh,xs,ys,cs,ds,r,h=>by
  simp at h
  subst h
  refine⟨[],by simp,fun hx hy hr=>?_⟩
  have:r=true:=by
   unfold bB at hr
   split at hr<;>simp_all
  subst this
  rfl
 |f::fs,acc,sh,xs,ys,cs,ds,r,h=>by
  rw[aem]at h
  simp only[bind,aaY]at h
  obtain⟨acc',h1,h2⟩:=h
  unfold A4 at h1
  replace h1:=aj h1
  obtain⟨hc,h1⟩:=h1
  simp only[aa1,bne_iff_ne,ab0]at hc
  simp only[aaY]at h1
  obtain⟨shf,h3,h1⟩:=h1
  replace h1:=aj h1
  obtain⟨h4,h1⟩:=h1
  cases h1
  have h4:fQ P f.type=some shf.length:=by simpa using h4
  obtain⟨rest,hrest,_⟩:=jy ih fs (acc++shf) sh xs ys [] [] true h2
  refine⟨shf++rest,by rw[hrest];simp,fun hx hy hr=>?_⟩
  obtain⟨r1,r2,k1,k2,rfl⟩:=et _ _ _ _ _ hr
  have hx1:=kX (i:=0) (n:=shf.length) hx
  have hy1:=kX (i:=0) (n:=shf.length) hy
  simp only[acL,adj]at hx1 hy1
  obtain⟨u,v,g1,g2,g3⟩:=ih f.type shf h3 xs ys _ _ r1 acc.length hx1 hy1 k1 h4
  obtain⟨rest',hrest',hrec⟩:=jy ih fs (acc++shf) sh xs ys (cs.drop shf.length) (ds.drop shf.length) r2 h2
  have:rest'=rest:=List.append_cancel_left (hrest'.symm.trans hrest)
  subst this
  have hx2:bL w F ρ xs (acc++shf).length (cs.drop shf.length):=by
   intro j c hj
   rw[abI]at hj
   obtain⟨v,q1,q2,q3⟩:=hx _ c hj
   exact⟨v,by rw[aaT,aa5];exact q1,q2,q3⟩
  have hy2:bL w F ρ ys (acc++shf).length (ds.drop shf.length):=by
   intro j c hj
   rw[abI]at hj
   obtain⟨v,q1,q2,q3⟩:=hy _ c hj
   exact⟨v,by rw[aaT,aa5];exact q1,q2,q3⟩
  have:=hrec hx2 hy2 k2
  simp only[Op.eqFields,ne_eq,hc.1,not_false_eq_true,if_true,Sem.run_bind,hc.2,g1,g2,g3,Result.andThen_ok]
  cases r1 with
  |true=>simpa using this
  |false=>simp
theorem oF{P:Program}{d2:Nat}{t:TypeId}{sh:List LK}(ih:De P w F ρ d2 t sh)(hsz:fQ P t=some sh.length):∀(n i:Nat) (xs ys:Array Value) (cs ds:List SV) (r:Bool),
 bL w F ρ xs (i*sh.length) cs→bL w F ρ ys (i*sh.length) ds→bB (List.replicate n sh).flatten cs ds=some r→(Op.eqItems d2 t sh.length xs ys (List.range' i n)).run P w=.ok r w
 |0,i,xs,ys,cs,ds,r,hx,hy,hr=>by
  have:r=true:=by
   simp only[ac0,List.flatten_nil]at hr
   unfold bB at hr
   split at hr<;>simp_all
  subst this
  rfl
 |n+1,i,xs,ys,cs,ds,r,hx,hy,hr=>by
  rw[acP,adT]at hr
  obtain⟨r1,r2,k1,k2,rfl⟩:=et _ _ _ _ _ hr
  have hx1:=kX (i:=0) (n:=sh.length) hx
  have hy1:=kX (i:=0) (n:=sh.length) hy
  simp only[acL,adj]at hx1 hy1
  obtain⟨u,v,g1,g2,g3⟩:=ih xs ys _ _ r1 _ hx1 hy1 k1 hsz
  have hx2:bL w F ρ xs ((i+1)*sh.length) (cs.drop sh.length):=by
   intro j c hj
   rw[abI]at hj
   obtain⟨v,q1,q2,q3⟩:=hx _ c hj
   exact⟨v,by rw[abY,acW,aa5];exact q1,q2,q3⟩
  have hy2:bL w F ρ ys ((i+1)*sh.length) (ds.drop sh.length):=by
   intro j c hj
   rw[abI]at hj
   obtain⟨v,q1,q2,q3⟩:=hy _ c hj
   exact⟨v,by rw[abY,acW,aa5];exact q1,q2,q3⟩
  have:=oF ih hsz n (i+1) xs ys _ _ r2 hx2 hy2 k2
  simp only[List.range'_succ,Op.eqItems,Sem.run_bind,g1,g2,g3,Result.andThen_ok]
  cases r1 with
  |true=>simpa using this
  |false=>simp
theorem rI{P:Program}{dd D:Nat}{t:TypeId}{sh:List LK}(ih:∀t sh,eN P dd t=some sh→De P w F ρ (D+dd) t sh)(h:eN P (dd+1) t=some sh)(hag:jk P t=some true){xs ys:Array Value}{cs ds:List SV}{r:Bool}
 (hx:bL w F ρ xs 0 cs) (hy:bL w F ρ ys 0 ds) (hr:bB sh cs ds=some r):(Op.equalIn (D+dd+1) t (.agg xs) (.agg ys)).run P w=.ok r w:=by
 unfold eN at h
 split at h
 ·rename_i hu;simp[jk,hu]at hag
 ·rename_i hu;simp[jk,hu]at hag
 ·rename_i hu;simp[jk,hu]at hag
 ·rename_i fs hu
  replace h:=y7 h
  obtain⟨hs,h⟩:=h
  have hf:P.fieldsOf t=fs:=by simp[Program.fieldsOf,hu]
  rw[run_equalIn_struct w (D+dd) t xs ys (by rw[hf];exact hu) hs,hf]
  obtain⟨rest,h1,h2⟩:=jy ih fs.toList [] sh xs ys cs ds r h
  simp only[abM]at h1
  subst h1
  exact h2 hx hy hr
 ·rename_i n e hu
  simp only[aaY]at h
  obtain⟨she,h1,h⟩:=h
  replace h:=aj h
  obtain⟨h2,h⟩:=h
  cases h
  have h2:fQ P e=some she.length:=by simpa using h2
  have h3:=h2
  unfold fQ at h3
  simp only[aaW]at h3
  obtain⟨i,hi,hi2⟩:=h3
  have hcells:P.cellsOf e=she.length:=by simp[Program.cellsOf,hi,hi2]
  rw[run_equalIn_array w (D+dd) xs ys hu hi,hcells,ad5]
  exact oF (ih e she h1) h2 n 0 xs ys cs ds r (by simpa using hx) (by simpa using hy) hr
 ·cases h
theorem Ms{P:Program}:∀(dd:Nat) (D:Nat) (t:TypeId) (sh:List LK),eN P dd t=some sh→De P w F ρ (D+dd) t sh
 |0,_,_,_,h=>by simp[eN]at h
 |dd+1,D,t,sh,h=>by
  intro xs ys cs ds r o hx hy hr hsz
  have hlen:=ir sh cs ds r hr
  have leaf:jk P t=some false→∀k,sh=[k]→(∀u v,∀c d,VR w F ρ c u→VR w F ρ d v→bB [k] [c] [d]=some r→(Op.equalIn (D+dd+1) t u v).run P w=.ok r w)→
   ∃u v,(part t xs o).run P w=.ok u w∧(part t ys o).run P w=.ok v w∧(Op.equalIn (D+dd+1) t u v).run P w=.ok r w:=by
   intro hag k hk hgo
   subst hk
   obtain⟨c,rfl⟩:∃c,cs=[c]:=acY.1 hlen.1
   obtain⟨d,rfl⟩:∃d,ds=[d]:=acY.1 hlen.2
   obtain⟨u,u1,u2,_⟩:=hx 0 c rfl
   obtain⟨v,v1,v2,_⟩:=hy 0 d rfl
   exact⟨u,v,rD hag u1,rD hag v1,hgo u v c d u2 v2 hr⟩
  have agg:jk P t=some true→∃u v,(part t xs o).run P w=.ok u w∧(part t ys o).run P w=.ok v w∧(Op.equalIn (D+dd+1) t u v).run P w=.ok r w:=fun hag=>
   ⟨_,_,ud hag hsz,ud hag hsz,rI (fun t sh h=>Ms dd D t sh h) h hag (lC hx (by omega)) (lC hy (by omega)) hr⟩
  rw[←aa5]
  unfold eN at h
  split at h
  ·rename_i hu
   refine leaf (by simp[jk,hu]) .b (by simpa using h.symm) (fun u v c d hu1 hv1 hr1=>?_)
   rcases kF hr1 with⟨_,_,_,h0,_⟩|⟨p,p',_,rfl,rfl,rfl⟩|⟨_,_,h0,_⟩
   ·cases h0
   ·rw[eC hu1,eC hv1,run_equalIn_bool w _ t _ _ hu]
   ·cases h0
  ·rename_i q hu
   refine leaf (by simp[jk,hu]) .i (by simpa using h.symm) (fun u v c d hu1 hv1 hr1=>?_)
   rcases kF hr1 with⟨q,p,p',_,rfl,rfl,rfl⟩|⟨_,_,h0,_⟩|⟨_,_,h0,_⟩
   ·rw[fH hu1,fH hv1,vW hu rfl]
   ·cases h0
   ·cases h0
  ·rename_i hu
   refine leaf (by simp[jk,hu]) .s (by simpa using h.symm) (fun u v c d hu1 hv1 hr1=>?_)
   rcases kF hr1 with⟨_,_,_,h0,_⟩|⟨_,_,h0,_⟩|⟨p,p',_,rfl,rfl,rfl⟩
   ·cases h0
   ·cases h0
   ·rw[jE hu1,jE hv1,run_equalIn_string w _ t _ _ hu,qG]
  ·rename_i fs hu;exact agg (by simp[jk,hu])
  ·rename_i n el hu;exact agg (by simp[jk,hu])
  ·cases h
theorem CN{op:BinOp}{neg:Bool}{t:TypeId}{x y:Operand}{x' y':bZ}{sh:List LK}{cs ds:List SV}{r:Bool}(ef:(op=.eql∧neg=false)∨(op=.neq∧neg=true))(hx:bC x=some x')(hy:bC y=some y')
 (hm:C.P.eqGuardType C.P.depth t=false) (hsh:eN C.P 6 t=some sh) (hag:jk C.P t=some true) (hr:HR C ρ F H w) (he:ER w F ρ e a.tmps) (h1:ev e x'=.agg cs) (h2:ev e y'=.agg ds) (h:bB sh cs ds=some r) :
 bO C (do let v←(do eqGuard op t x y (a.eval x) (a.eval y);binOp op t (a.eval x) (a.eval y));pure (.value v)) ρ F H w (.bool (neg ^^ r)) H:=by
 have v1:=bc hx he
 have v2:=bc hy he
 rw[h1]at v1
 rw[h2]at v2
 obtain⟨xs,e1,_,c1⟩:=fm v1
 obtain⟨ys,e2,_,c2⟩:=fm v2
 rw[e1,e2]
 have hq:=rI (dd:=5) (D:=9994) (fun t sh h=>Ms 5 9994 t sh h) hsh hag c1 c2 h
 have hE:(Op.equal t (.agg xs) (.agg ys)).run C.P w=.ok r w:=hq
 refine⟨.bool (neg ^^ r),w,.inl ?_,dF.same hr (.bool _)⟩
 simp only[Sem.run_bind,run_eqGuard_agg w op t x y xs ys hm,Result.andThen_ok]
 rcases ef with⟨rfl,rfl⟩|⟨rfl,rfl⟩
 ·simp[binOp,hE]
 ·simp[binOp,hE]
end
end
section
section
variable{C:Ctx}{ρ:Map}{F:Nat→Prop}{H H':ae}{w:World}{e:Env}{a:Act}{s c d:SV}
theorem rP(z m:Nat)(q:Option Addr)(n cap n' cap':Nat):Builtin.firstCells z m (.slice q n cap)=Builtin.firstCells z m (.slice q n' cap'):=by
 cases q<;>rfl
theorem AB(hr:HR C ρ F H w){z:Nat}(hz:0<z){X:List (List SV)}{v:Value}(hv:VR w F ρ c v)(h:nG z H c=some X){m:Nat}(hm:m≤X.length) :
 ∃q cap cells,v=.slice q X.length cap∧(Builtin.firstCells z m v).run C.P w=.ok cells w∧cells.size=m*z∧∀ρ1:Map,Ed C w F H ρ ρ1 c→ez w F ρ1 cells 0 z (X.take m):=by
 have hml:(X.take m).length=m:=by simp;omega
 unfold nG at h
 split at h
 ·rename_i z' L f
  have h0:=aj h
  obtain⟨hc,h1⟩:=h0
  have h':L=X:=acV h1
  subst h'
  cases hv with
  |ay V hcap hfull hz' hat h1 hv=>
   rename_i q cap
   have hv2:VR w F ρ (.ay z' (L.take m) false) (.slice q (L.take m).length cap):=by
    refine .ay V (by omega) (fun h=>by cases h) (fun i cs hi=>hz' i cs ?_) ?_ (fun i j cs c hi hj=>h1 i j cs c ?_ hj) (fun i j cs c hi hj=>hv i j cs c ?_ hj)
    ·rw[abp]at hi;split at hi
     ·exact hi
     ·cases hi
    ·rcases hat with h0|⟨B,o,ha,hF,hk⟩
     ·left;rw[h0];simp
     ·exact .inr ⟨B,o,ha,hF,fun i j cs c hi hj=>hk i j cs c (by
       rw[abp]at hi;split at hi
       ·exact hi
       ·cases hi) hj⟩
    ·rw[abp]at hi;split at hi
     ·exact hi
     ·cases hi
    ·rw[abp]at hi;split at hi
     ·exact hi
     ·cases hi
   have hrd:nG z H (.ay z' (L.take m) false)=some (L.take m):=by
    unfold nG
    simp only[abS,ab0]at hc
    rcases hc with hc|hc
    ·subst hc;simp
    ·have:L=[]:=by simpa using hc
     subst this;simp
   obtain⟨q',cap',cells,k0,k1,k2,k3⟩:=kD hr hz hv2 hrd
   rw[hml]at k1 k2
   refine⟨q,cap,cells,rfl,?_,k2,fun ρ1 _=>k3 ρ1 (fun b cB off n l x hh=>by cases hh)⟩
   rw[rP z m q L.length cap m cap]
   exact k1 w rfl
 ·rename_i b cB off n
  split at h
  ·rename_i ver' z' L ex hb
   have h0:=aj h
   obtain⟨hc,h1⟩:=h0
   simp only[aa1,ab0,aaX]at hc
   obtain⟨⟨rfl,rfl⟩,hle⟩:=hc
   have hX:(L.drop off).take n=X:=acV h1
   have hXl:X.length=n:=by rw[←hX];simp;omega
   obtain⟨l,z2,L2,ex2,hl,hb2,hbr,g1,g2⟩:=ec hr (by unfold cur;simp[hb]) hv
   rw[hb]at hb2;cases hb2
   obtain⟨q,cap,hve⟩:∃q cap,v=.slice q n cap:=by
    cases hvi:l.bE with
    |true=>obtain⟨q,p1,p2,p3⟩:=g1 hvi;exact⟨q,0,by rw[p1,p3]⟩
    |false=>obtain⟨p1,q,p2,p3⟩:=g2 hvi;exact⟨q,_,p2⟩
   have hv2:VR w F ρ (.bp b cB off m) (.slice q m cap):=by
    refine .bp hl (acX hbr.2.1.symm) rfl (fun _=>⟨fun hvi=>?_,fun hvi=>?_⟩)
    ·obtain⟨q',p1,p2,p3⟩:=g1 hvi
     rw[p1]at hve
     have hm0:m=0:=by omega
     injection hve with e1 e2 e3
     rw[hm0,←e1,←e3]
     exact⟨q',rfl,p2,rfl⟩
    ·obtain⟨p1,q',p2,p3⟩:=g2 hvi
     rw[p2]at hve
     injection hve with e1 e2 e3
     rw[←e1,←e3]
     exact⟨by omega,q',rfl,p3⟩
   have hrd:nG z' H (.bp b cB off m)=some (X.take m):=by
    have hlm:off+m≤L.length:=by omega
    unfold nG
    simp[hb,hlm]
    rw[←hX,List.take_take,ab2 (by omega)]
   obtain⟨q',cap',cells,k0,k1,k2,k3⟩:=kD hr hz hv2 hrd
   rw[hml]at k1 k2
   subst hve
   refine⟨q,cap,cells,by rw[hXl],?_,k2,fun ρ1 hs=>k3 ρ1 (fun b1 ver1 off1 n1 l1 x1 hh h2 h3 h4=>by cases hh;exact hs _ _ _ _ _ _ rfl h2 h3 h4)⟩
   rw[rP z' m q n cap m cap]
   exact k1 w rfl
  ·cases h
 ·cases h
theorem pT(hr:HR C ρ F H w){b v off z:Nat}{L X:List (List SV)}{ex:Bool}{l:Loc}{cells:Array Value}(hb:bn H b=some (.arr v z L ex))(hl:ρ b=some l)(hbr:BR C w F ρ l (.arr v z L ex))
 (hvi:l.bE=false) (hfit:off+X.length≤L.length) (hsz:cells.size=X.length*z) (hrow:∀ρ1:Map,wV ρ ρ1 (SV.refs.aJ X.flatten)→ez w F ρ1 cells 0 z X) {refs:Nat} (hrefs:SV.refs.aJ X.flatten≤refs)
 (hH:cz H b (.arr v z (L.take off++X++L.drop (off+X.length)) ex) refs=some H') :
 ∃w',(storeCells ⟨l.cp,l.base+off*z,none⟩ cells.toList).run C.P w=.ok () w'∧HR C ρ F H' w'∧Ext C ρ F H w ρ F H' w':=by
 obtain⟨h1,h2,h3,h4,h5,h6,h7,h8⟩:=id hbr
 obtain⟨vs,ty',fz,g1,g2,g3,g4⟩:=h8 hvi
 have hm:(off+X.length)*z≤l.cap*z:=abX z (by omega)
 rw[abY]at hm
 have hsz':(my vs (l.base+off*z) cells.toList).size=vs.size:=iM (by simp;omega)
 have hlt:l.cp<w.heap.size:=(abq.1 g1).1
 have hst:=dS (P:=C.P) l.cp (l.base+off*z) ty' fz cells.toList 0 vs w g1 g2 (by simp;omega) (fun x hx=>yc (hrow ρ (.inl rfl)) hsz x hx)
 have hlen:(L.take off++X++L.drop (off+X.length)).length=L.length:=by simp;omega
 have hk:dH F w (ff w l.cp (my vs (l.base+off*z) cells.toList) ty' fz):=jC hr hb rfl hl hvi
 obtain⟨r1,r2⟩:=kN (vs':=my vs (l.base+off*z) cells.toList) (ty:=ty') (fz:=fz) hr hH hb rfl hl hvi (fun _ ρ1 hρ1 hbr1=>by
  obtain⟨_,_,_,_,_,_,_,q8⟩:=hbr1
  obtain⟨vs2,ty2,fz2,m1,m2,m3,m4⟩:=q8 hvi
  rw[g1]at m1;cases m1
  have hcut:wV ρ ρ1 (SV.refs.aJ X.flatten):=by
   rcases hρ1 with h|⟨N,hN,h⟩
   ·exact .inl h
   ·exact .inr ⟨N,by omega,h⟩
  have:=vL (xs:=cells) h4 m4 (hrow ρ1 hcut) hsz (by omega) (show off+X.length≤l.cap by omega) h5 g3
  exact⟨h1,h2,h3,this.1,by rw[hlen];exact h5,by rw[hlen];exact h6,h7,fun _=>⟨_,ty',fz,ja hlt,by rw[hsz'];exact g2,by rw[hsz'];exact g3,fun j cs hj=>(this.2 j cs hj).mono hk (fun _ h=>h) (Map.le_refl _)⟩⟩)
 exact⟨_,hst,r1,r2⟩
theorem uv(hr:HR C ρ F H w){b v z:Nat}{L:List (List SV)}{ex:Bool}{l:Loc}{refs:Nat}(hb:bn H b=some (.arr v z L ex))(hl:ρ b=some l)(hbr:BR C w F ρ l (.arr v z L ex))
 (hH:cz H b (.arr v z L ex) refs=some H'):HR C ρ F H' w∧Ext C ρ F H w ρ F H' w:=by
 obtain⟨p1,p2⟩:=hr.set (w':=w) (l':=l) hH hb rfl hl (aa8 _) (fun _ _ _=>rfl) (fun h=>.inl ⟨h,rfl⟩) (.inl rfl) (fun _=>by rw[ca hl];exact hbr) (fun _ N _ _ h=>by rw[ca hl];exact h)
 rw[ca hl]at p1 p2
 exact⟨p1,p2⟩
theorem xg(X:List (List SV))(m:Nat):SV.refs.aJ (X.take m).flatten≤SV.refs.aJ X.flatten:=by
 have app:∀(a b:List SV),SV.refs.aJ a≤SV.refs.aJ (a++b)∧SV.refs.aJ b≤SV.refs.aJ (a++b):=by
  intro a b
  induction a with
  |nil=>simp[SV.refs.aJ]
  |cons x r ih=>simp only[abV,SV.refs.aJ];omega
 have:=(app (X.take m).flatten (X.drop m).flatten).1
 rwa [←List.flatten_append,abR]at this
theorem Ec{ats:Array TypeId}{t el ty:TypeId}{z:Nat}(h0:ats[0]?=some t)(hu:C.P.underlying t=some (.slice el))(hsz:fQ C.P el=some z)(hz:0<z)(hr:HR C ρ F H w){X:List (List SV)}{dv xv:Value}
 (hdv:VR w F ρ d dv) (hxv:VR w F ρ c xv) (hX:nG z H c=some X) (h:z8 z H X d=some (s,H')):∃val w',(Builtin.copy_ ats ty #[dv,xv]).run C.P w=.ok val w'∧dF C ρ F H w s H' val w':=by
 unfold z8 at h
 split at h
 ·rename_i b v off n
  split at h
  ·rename_i v' z' L ex hg
   replace h:=aj h
   obtain⟨hc,h⟩:=h
   simp only[aa1,ab0,aaX]at hc
   obtain⟨⟨rfl,rfl⟩,hle⟩:=hc
   simp only[aaW,abi]at h
   obtain⟨H1,hH,rfl,rfl⟩:=h
   obtain⟨l,z2,L2,ex2,hl,hb2,hbr,g1,g2⟩:=ec hr (by unfold cur;simp[hg]) hdv
   rw[hg]at hb2;cases hb2
   obtain⟨base,sc,hse⟩:∃base sc,dv=.slice base n sc:=by
    cases hvi:l.bE with
    |true=>obtain⟨q,p1,p2,p3⟩:=g1 hvi;exact⟨q,0,by rw[p1,p3]⟩
    |false=>obtain⟨p1,q,p2,p3⟩:=g2 hvi;exact⟨q,_,p2⟩
   obtain⟨q,cap,cells,rfl,k1,k2,k3⟩:=AB (m:=min X.length n) hr hz hxv hX (Nat.min_le_left _ _)
   have hXt:X.take n=X.take (min X.length n):=by
    rcases Nat.le_total X.length n with h|h
    ·rw[ab2 h,abu h,ab4]
    ·rw[Nat.min_eq_right h]
   have hlen:(X.take n).length=min X.length n:=by rw[abF,Nat.min_comm]
   have hrun:∀w',(match base with|some a=>storeCells a cells.toList|none=>pure ()).run C.P w=.ok () w'→(Builtin.copy_ ats ty #[dv,.slice q X.length cap]).run C.P w=.ok (.int .i64 (min X.length n:Nat)) w':=by
    intro w' hw
    subst hse
    unfold Builtin.copy_
    simp only[h0,acR,acm,adL,Sem.run_bind,run_underlying hu,Result.andThen,bR hsz,Builtin.lenOf]
    simp only[pure,Sem.run,Result.andThen,Sem.run_bind,bR hsz]
    rw[show Nat.min X.length n=min X.length n from rfl,k1]
    cases base with
    |none=>simp only[pure,Sem.run,Result.ok.injEq,true_and]at hw;subst hw;rfl
    |some ad=>simp only[Sem.run_bind,hw,Result.andThen];rfl
   by_cases hm:min X.length n=0
   ·have hc0:cells.toList=[]:=by
     have:cells.size=0:=by rw[k2,hm];simp
     simpa using this
    have hH':L.take off++X.take n++L.drop (off+min X.length n)=L:=by
     rw[hXt,hm];simp
    rw[hH']at hH
    obtain⟨p1,p2⟩:=uv hr hg hl hbr hH
    exact⟨_,w,hrun w (by cases base<;>simp[hc0,storeCells,pure,Sem.run]),ρ,F,.int _ _,p1,p2⟩
   ·have hvi:l.bE=false:=by
     cases hvi:l.bE with
     |true=>obtain⟨q,p1,p2,p3⟩:=g1 hvi;omega
     |false=>rfl
    obtain⟨p1,q',p2,p3⟩:=g2 hvi
    rw[hse]at p2
    cases p2
    have hcap:=hbr.2.2.2.2.1
    have:=p3 (by omega)
    subst this
    have hz3:=hbr.2.2.1
    obtain⟨w',e1,e2,e3⟩:=pT (X:=X.take n) (cells:=cells) (off:=off) hr hg hl hbr hvi (by rw[hlen];omega) (by rw[hlen];exact k2)
     (fun ρ1 hρ1=>nI (by rw[hXt];exact k3 ρ (eF hr)) hρ1) (refs:=SV.refs.aJ X.flatten) (xg X n) (by rw[hlen];exact hH)
    exact⟨_,w',hrun w' (by rw[hz3];exact e1),ρ,F,.int _ _,e2,e3⟩
  ·cases h
 ·cases h
theorem rN{z:List SV}(hz:SV.refs.aJ z=0):∀n,SV.refs.aJ (List.replicate n z).flatten=0
 |0=>by simp[SV.refs.aJ]
 |n+1=>by
  have app:∀(a b:List SV),SV.refs.aJ a=0→SV.refs.aJ b=0→SV.refs.aJ (a++b)=0:=by
   intro a b h1 h2
   induction a with
   |nil=>exact h2
   |cons x r ih=>simp only[abV,SV.refs.aJ]at h1 ⊢;have:=ih (by omega);omega
  rw[acP,adT]
  exact app _ _ hz (rN hz n)
theorem Bj{ats:Array TypeId}{t el ty:TypeId}{z:List SV}(h0:ats[0]?=some t)(hu:C.P.underlying t=some (.slice el))(hcz:gI C.P el=some z)(hz:0<z.length)(hr:HR C ρ F H w){xv:Value}
 (hxv:VR w F ρ c xv) (h:xp z.length z H c=some (s,H')):∃val w',(Builtin.clear_ ats ty #[xv]).run C.P w=.ok val w'∧dF C ρ F H w s H' val w':=by
 unfold xp at h
 split at h
 ·rename_i z0 f
  simp only[abd,abi]at h
  obtain⟨rfl,rfl⟩:=h
  cases hxv with
  |ay V hcap hfull hz' hat h1 hv=>
   rename_i q cap
   refine⟨.tuple #[],w,?_,dF.same hr (.undef _)⟩
   unfold Builtin.clear_
   simp only[h0,acR,acm,Sem.run_bind,run_underlying hu,Result.andThen]
   cases q<;>rfl
 ·rename_i b v off n
  split at h
  ·rename_i v' z' L ex hg
   replace h:=aj h
   obtain⟨hc,h⟩:=h
   simp only[aa1,ab0,aaX]at hc
   obtain⟨⟨rfl,rfl⟩,hle⟩:=hc
   simp only[aaW,abi]at h
   obtain⟨H1,hH,rfl,rfl⟩:=h
   obtain⟨l,z2,L2,ex2,hl,hb2,hbr,g1,g2⟩:=ec hr (by unfold cur;simp[hg]) hxv
   rw[hg]at hb2;cases hb2
   by_cases hn:n=0
   ·subst hn
    obtain⟨base,sc,hse⟩:∃base sc,xv=.slice base 0 sc:=by
     cases hvi:l.bE with
     |true=>obtain⟨q,p1,p2,p3⟩:=g1 hvi;exact⟨q,0,p1⟩
     |false=>obtain⟨p1,q,p2,p3⟩:=g2 hvi;exact⟨q,_,p2⟩
    have hH':L.take off++List.replicate 0 z++L.drop (off+0)=L:=by simp
    rw[hH']at hH
    obtain⟨p1,p2⟩:=uv hr hg hl hbr hH
    refine⟨.tuple #[],w,?_,ρ,F,.undef _,p1,p2⟩
    subst hse
    unfold Builtin.clear_
    simp only[h0,acR,acm,Sem.run_bind,run_underlying hu,Result.andThen]
    cases base<;>rfl
   ·have hvi:l.bE=false:=by
     cases hvi:l.bE with
     |true=>obtain⟨q,p1,p2,p3⟩:=g1 hvi;omega
     |false=>rfl
    obtain⟨p1,q',p2,p3⟩:=g2 hvi
    subst p2
    have hcap:=hbr.2.2.2.2.1
    have:=p3 (by omega)
    subst this
    have hz3:=hbr.2.2.1
    obtain⟨i,zv,hi,hzv,k1,k2⟩:=gj (w:=w) (F:=F) (ρ:=ρ) hcz
    have hzsz:(cG zv.cells (n*z.length)).size=n*z.length:=by simp[cG]
    have hrow:∀ρ1:Map,ez w F ρ1 (cG zv.cells (n*z.length)) 0 z.length (List.replicate n z):=fun ρ1=>by
     obtain⟨i',zv',hi',hzv',k1',k2'⟩:=gj (w:=w) (F:=F) (ρ:=ρ1) hcz
     rw[hi]at hi';cases hi'
     rw[hzv]at hzv';cases hzv'
     exact jm rfl k1' k2' hz
    have hrefs:SV.refs.aJ z=0:=by
     have key:∀(l:List SV),(∀x∈l,x.refs=0)→SV.refs.aJ l=0:=by
      intro l
      induction l with
      |nil=>intro _;simp[SV.refs.aJ]
      |cons x r ih=>intro h;simp only[SV.refs.aJ,h x (by simp),ih (fun y hy=>h y (by simp[hy]))];rfl
     refine key z (fun x hx=>?_)
     obtain⟨j,hj⟩:=acG.1 hx
     obtain⟨i',zv',hi',hzv',k1',k2'⟩:=gj (w:=w) (F:=F) (ρ:=dJ) hcz
     obtain⟨v',q1,q2,q3⟩:=k2' j x hj
     cases x with
     |ptr=>cases q2 with|ptr h _ _ _=>cases h
     |bp=>cases q2 with|bp h _ _ _=>cases h
     |fA=>cases q2 with|fA h ha=>cases h
     |mp=>cases q2 with|mp h ha=>cases h
     |fn f cs=>
      exfalso
      unfold gI at hcz
      rw[hi]at hcz
      simp only[hzv,aaY]at hcz
      obtain⟨z',hz1,hz2⟩:=hcz
      replace hz2:=aj hz2
      obtain⟨_,hz2⟩:=hz2
      cases hz2
      have:∀(l:List Value) (r:List SV),bQ (l.map (lW 1))=some r→∀x∈r,∃v∈l,lW 1 v=some x:=by
       intro l
       induction l with
       |nil=>intro r h;simp[bQ]at h;subst h;simp
       |cons a l ih=>
        intro r h
        simp only[abB]at h
        cases ha:lW 1 a with
        |none=>rw[ha]at h;simp[bQ]at h
        |some y=>
         rw[ha]at h
         simp only[bQ,aaW]at h
         obtain⟨r',h1,rfl⟩:=h
         intro x hx
         rcases abK.1 hx with rfl|hx
         ·exact⟨a,by simp,ha⟩
         ·obtain⟨v,h2,h3⟩:=ih r' h1 x hx
          exact⟨v,by simp[h2],h3⟩
      obtain⟨v,_,hv⟩:=this _ _ hz1 _ hx
      unfold lW at hv
      split at hv<;>first|(cases hv;done)|(simp[aaY,bQ,cond_eq_ite]at hv;done)|skip
      all_goals (simp only[aaY]at hv;obtain⟨cs',_,hv⟩:=hv;replace hv:=aj hv;cases hv.2)
     |oX f cs=>
      exfalso
      unfold gI at hcz
      rw[hi]at hcz
      simp only[hzv,aaY]at hcz
      obtain⟨z',hz1,hz2⟩:=hcz
      replace hz2:=aj hz2
      obtain⟨_,hz2⟩:=hz2
      cases hz2
      have:∀(l:List Value) (r:List SV),bQ (l.map (lW 1))=some r→∀x∈r,∃v∈l,lW 1 v=some x:=by
       intro l
       induction l with
       |nil=>intro r h;simp[bQ]at h;subst h;simp
       |cons a l ih=>
        intro r h
        simp only[abB]at h
        cases ha:lW 1 a with
        |none=>rw[ha]at h;simp[bQ]at h
        |some y=>
         rw[ha]at h
         simp only[bQ,aaW]at h
         obtain⟨r',h1,rfl⟩:=h
         intro x hx
         rcases abK.1 hx with rfl|hx
         ·exact⟨a,by simp,ha⟩
         ·obtain⟨v,h2,h3⟩:=ih r' h1 x hx
          exact⟨v,by simp[h2],h3⟩
      obtain⟨v,_,hv⟩:=this _ _ hz1 _ hx
      unfold lW at hv
      split at hv<;>first|(cases hv;done)|(simp[aaY,bQ,cond_eq_ite]at hv;done)|skip
      all_goals (simp only[aaY]at hv;obtain⟨cs',_,hv⟩:=hv;replace hv:=aj hv;cases hv.2)
     |agg=>simp[SV.jg]at q3
     |bk=>simp[SV.jg]at q3
     |_=>simp[SV.refs]
    have hrefs0:=rN hrefs n
    obtain⟨w',e1,e2,e3⟩:=pT (X:=List.replicate n z) (cells:=cG zv.cells (n*z.length)) (off:=off) hr hg hl hbr hvi (by simpa using hle) (by simpa using hzsz)
     (fun ρ1 _=>hrow ρ1) (refs:=0) (acX hrefs0) (by simpa using hH)
    refine⟨.tuple #[],w',?_,ρ,F,.undef _,e2,e3⟩
    unfold Builtin.clear_
    simp only[h0,acR,acm,Sem.run_bind,run_underlying hu,Result.andThen]
    obtain⟨m,rfl⟩:∃m,n=m+1:=⟨n-1,by omega⟩
    simp only[Sem.run_bind,dK hi hzv,Result.andThen]
    have hzc:Builtin.zeroCells zv.cells (m+1)=cG zv.cells ((m+1)*z.length):=by
     unfold Builtin.zeroCells cG;rw[k1]
    rw[hzc]
    rw[hz3]
    rw[e1]
    rfl
  ·cases h
 ·cases h
end
end
section
section
variable{C:Ctx}{ρ:Map}{F:Nat→Prop}{H H':ae}{w:World}{e:Env}{a:Act}{s c d:SV}
theorem oH:∀(X:List (List SV)) (l:List UInt8) (cells:List Value),toBytes X=some l→cells.length=X.length→(∀(i:Nat) cs,X[i]?=some cs→∃v,cells[i]?=some v∧∀c,cs=[c]→VR w F ρ c v)→
 ∃ns:List Int,cells=ns.map (fun n=>Value.int .u8 n)∧l=ns.map (fun n=>UInt8.ofNat n.toNat)
 |[],l,cells,h,hn,_=>by
  simp[toBytes]at h;subst h
  have:cells=[]:=ab9 (by simpa using hn)
  subst this
  exact⟨[],rfl,rfl⟩
 |x::X,l,[],h,hn,_=>by simp at hn
 |x::X,l,v::cells,h,hn,hv=>by
  unfold toBytes at h
  split at h
  ·cases ‹x::X=[]›
  ·rename_i n r heq
   cases heq
   simp only[aaW]at h
   obtain⟨l',h,rfl⟩:=h
   obtain⟨v',h1,h2⟩:=hv 0 _ rfl
   simp at h1;subst h1
   have h3:=fH (h2 _ rfl)
   subst h3
   obtain⟨ns,rfl,rfl⟩:=oH X l' cells h (by simpa using hn) (fun i cs hi=>hv (i+1) cs (by simpa using hi))
   exact⟨n::ns,rfl,rfl⟩
  ·cases h
theorem oS{P:Program}(f:Value→ByteArray→Sem (ForInStep ByteArray))(hf:∀n s,f (.int .u8 n) s=pure (.yield (s.push (UInt8.ofNat n.toNat))))(w:World):∀(ns:List Int) (s:ByteArray),
 (forIn (ns.map (fun n=>Value.int .u8 n)) s f:Sem ByteArray).run P w=.ok ⟨s.data++(ns.map (fun n=>UInt8.ofNat n.toNat)).toArray⟩ w
 |[],s=>by
  simp only[adg,List.forIn_nil]
  show Result.ok s w=_
  simp
 |b::l,s=>by
  simp only[abB,List.forIn_cons,Sem.run_bind,hf,Sem.run_pure,Result.andThen]
  rw[oS f hf w l]
  congr 1
  cases s
  simp[ByteArray.push]
theorem yU{sr ds el:TypeId}{x:Operand}{y:bZ}(hx:bC x=some y)(hs:C.P.underlying sr=some (.slice el))(h8:C.P.underlying el=some (.int .u8))(hd:C.P.underlying ds=some .string)(hr:HR C ρ F H w)(he:ER w F ρ e a.tmps)
 {L:List (List SV)} {l:List UInt8} (h:nG 1 H (ev e y)=some L) (hl:toBytes L=some l):bO C (do pure (.value (←convert sr ds (a.eval x)))) ρ F H w (.str ⟨l.toArray⟩) H:=by
 have h1:=bc hx he
 obtain⟨q,cap,cells,hv,k1,k2,k3⟩:=kD hr (by omega) h1 h
 refine bO.val hr (val:=.string ⟨l.toArray⟩) ?_ (.str _)
 rw[hv]at k1⊢
 obtain⟨ns,e1,e2⟩:=oH (w:=w) (F:=F) (ρ:=ρ) L l cells.toList hl (by simpa using k2) (fun i cs hi=>by
  have hrow:=k3 ρ (eF hr)
  have hlen:=hrow.1 i cs hi
  match cs,hlen with
  |[c],_=>
   obtain⟨v,p1,p2,_⟩:=hrow.2 i _ hi 0 c rfl
   refine⟨v,by simpa using p1,fun c' hc=>by cases hc;exact p2⟩)
 unfold convert
 simp only[Sem.run_bind,run_underlying hs,run_underlying hd,Result.andThen,run_underlying h8]
 have h2:=k1 w rfl
 cases q with
 |none=>
  simp only[Builtin.firstCells,Sem.run_pure,Result.ok.injEq]at h2
  obtain⟨rfl,_⟩:=h2
  cases ns with
  |nil=>subst e2;rfl
  |cons n ns=>simp at e1
 |some q=>
  simp only[Builtin.firstCells,Nat.mul_one]at h2
  subst e2
  have e3:cells=(ns.map (fun n=>Value.int .u8 n)).toArray:=by rw[←e1]
  subst e3
  simp only[Conv.bytesToString,Sem.run_bind,h2,Result.andThen,List.forIn_toArray]
  rw[oS _ (fun _ _=>rfl)]
  simp[Sem.run_pure]
theorem uO{A:Type}(h:Array A)(o:A)(f:A→A):(h.push o).modify h.size f=h.push (f o):=by
 apply adp
 intro i
 rw[ad0,acO,acO]
 by_cases hi:h.size=i
 ·subst hi;simp
 ·rw[if_neg hi,if_neg (fun e=>hi e.symm),if_neg (fun e=>hi e.symm)]
theorem yW(hr:HR C ρ F H w){L:List (List SV)}{z cap:Nat}{ex:Bool}{vs:Array Value}{ty:TypeId}{fz:Nat×Nat}{w':World}(hw:w'.heap=w.heap.push (.cells vs ty fz))(hfz:ki fz vs.size)(hcap:L.length≤cap)(hex:ex=true→cap=L.length)
 (hsz:cap*z≤vs.size) (hc:ez w F ρ vs 0 z L) (n:Nat) (hn:n≤L.length) (hout:w'.os=w.os∧w'.output=w.output:=by exact⟨rfl,rfl⟩) :
 dF C ρ F H w (.bp H.bl.length 0 0 n) (bM H (.arr 0 z L ex)) (.slice (some ⟨w.heap.size,0,none⟩) n cap) w':=by
 let l:Loc:={cp:=w.heap.size,base:=0,cap:=cap,bT:=z,cB:=0,bE:=false,arr:=true}
 have hh:∀B,B<w.heap.size→w'.heap[B]?=w.heap[B]?:=fun B hB=>by
  rw[hw];simp[acO,acQ hB]
 have hk:dH F w w':=fun B hB=>hh B (hr.ia B hB)
 have hle:ρ.le (ρ.put H.bl.length l):=fun b l' h=>⟨l',by rw[Map.bu _ _ (acQ (hr.jx b l' h))];exact h,.inl rfl⟩
 have hp:=hr.push (w':=w') (by rw[hw];simp) hh (.arr 0 z L ex) l (fun _=>⟨aa8 _,by rw[hw];simp[l]⟩)
  ⟨rfl,rfl,rfl,hc.1,hcap,hex,(fun h=>by cases h),fun _=>⟨vs,ty,fz,by rw[hw];simp[l],hfz,by simpa[l]using hsz,fun i cs hi=>by
   have:=hc.2 i cs hi
   exact this.mono hk (fun _ h=>h) hle⟩⟩ hout
 exact⟨_,F,.bp (l:=l) (Map.bJ _ _ _) (aa8 _) rfl (fun _=>⟨(fun h=>by cases h),fun _=>⟨by simp[l];omega,_,rfl,fun _=>by simp[l]⟩⟩),hp.1,hp.2⟩
theorem yH{sr ds el:TypeId}{x:Operand}{y:bZ}(hx:bC x=some y)(hs:C.P.underlying sr=some .string)(h8:C.P.underlying el=some (.int .u8))(hd:C.P.underlying ds=some (.slice el))(hr:HR C ρ F H w)(he:ER w F ρ e a.tmps)
 {t:ByteArray} (h:ev e y=.str t):∃val w',(convert sr ds (a.eval x)).run C.P w=.ok val w'∧dF C ρ F H w (.bp H.bl.length 0 0 t.size) (bM H (.arr 0 1 (me t) false)) val w':=by
 have h1:=bc hx he
 rw[h]at h1
 rw[jE h1]
 have hl:(me t).length=t.size:=by unfold me;rw[aes,ada];rfl
 obtain⟨cap,hcp⟩:∃cap,(Question.appendCap t.size 0 el).cut (w.tape w.drawn (Question.appendCap t.size 0 el))=cap:=⟨_,rfl⟩
 have hcap:t.size≤cap:=by rw[←hcp];exact Nat.le_add_right _ _
 obtain⟨elems,hel⟩:∃elems:Array Value,t.data.map (fun b=>Value.int .u8 b.toNat)=elems:=⟨_,rfl⟩
 have hes:elems.size=t.size:=by rw[←hel,Array.size_map];rfl
 obtain⟨cells,hce⟩:∃cells,elems++Array.replicate (cap-t.size) (Value.int .u8 0)=cells:=⟨_,rfl⟩
 have hcs:cells.size=cap:=by rw[←hce,Array.size_append,hes,Array.size_replicate];omega
 refine⟨.slice (some ⟨w.heap.size,0,none⟩) t.size cap,{w with heap:=w.heap.push (.cells cells el (cap,cap+1)),drawn:=w.drawn+1},?_,yW hr (vs:=cells) (ty:=el) (fz:=(cap,cap+1)) rfl ?_ (by rw[hl];exact hcap) (fun h=>by cases h) (by rw[hcs,Nat.mul_one];exact aa8 _) ⟨?_,?_⟩ t.size (by rw[hl];exact aa8 _)⟩
 ·unfold convert
  simp only[Sem.run_bind,run_underlying hs,run_underlying hd,Result.andThen,run_underlying h8]
  unfold Conv.stringToBytes
  have r1:(choose (.appendCap t.size 0 el)).run C.P w=.ok cap {w with drawn:=w.drawn+1}:=by rw[←hcp];rfl
  have r2:∀(w:World) (cs:Array Value),(newRow el cs).run C.P w=.ok ⟨w.heap.size,0,none⟩ {w with heap:=w.heap.push (.cells cs el)}:=fun _ _=>rfl
  have r3:(markStringish ⟨w.heap.size,0,none⟩).run C.P {w with heap:=w.heap.push (.cells cells el),drawn:=w.drawn+1}=.ok () {w with heap:=w.heap.push (.cells cells el (cap,cap+1)),drawn:=w.drawn+1}:=by
   have e1:World.shape? {w with heap:=w.heap.push (.cells cells el),drawn:=w.drawn+1} w.heap.size=some (el,cap):=by
    unfold World.shape?
    simp only[Array.getElem?_push_size,hcs]
   have e2:World.freeze {w with heap:=w.heap.push (.cells cells el),drawn:=w.drawn+1} ⟨w.heap.size,cap,none⟩ 1={w with heap:=w.heap.push (.cells cells el (cap,cap+1)),drawn:=w.drawn+1}:=by
    unfold World.freeze
    rw[if_neg (by decide)]
    simp only[uO]
    rfl
   show(match World.shape? {w with heap:=w.heap.push (.cells cells el),drawn:=w.drawn+1} w.heap.size with
    |some (_,n)=>freeze ⟨w.heap.size,n,none⟩ 1
    |_=>pure ():Sem Unit).run C.P _=_
   rw[e1]
   show Result.ok () (World.freeze _ _ _)=_
   rw[e2]
  simp only[Sem.run_bind,r1,r2,Result.andThen,hel,hce,r3]
  rfl
 ·intro o ho
  rw[hcs]at ho
  simp only[acH,aa0]
  left;omega
 ·intro i cs hi
  simp only[me,acs,aaW]at hi
  obtain⟨b,_,rfl⟩:=hi
  rfl
 ·intro i cs hi j c hj
  simp only[me,acs,aaW]at hi
  obtain⟨b,hb,rfl⟩:=hi
  have hj0:j=0:=by
   cases j with
   |zero=>rfl
   |succ j=>simp at hj
  subst hj0
  simp only[acm,abd]at hj
  subst hj
  have hbi:t.data[i]?=some b:=by simpa using hb
  refine⟨.int .u8 b.toNat,?_,.int _ _,rfl⟩
  have hi:i<t.data.size:=(abq.1 hbi).1
  rw[show 0+i*1+0=i by omega,←hce,adA (by rw[hes];exact hi)]
  rw[←hel,Array.getElem?_map,hbi];rfl
end
end
section
section
variable{C:Ctx}{ρ:Map}{F:Nat→Prop}{H H':ae}{w:World}{e:Env}{a:Act}{s c d:SV}
def PL:LK→TypeDesc→Prop
 | .i,d=>∃k,d=.int k
 | .s,d=>d=.string
 | .b,d=>d=.bool
theorem At{c:SV}{v y:Value}(h:VR w F ρ c v)(hs:oJ c=some y):v=y:=by
 unfold oJ at hs
 split at hs<;>first|(cases hs;cases h;rfl)|cases hs
theorem Jp{c:SV}{y:Value}(hs:oJ c=some y):VR w F ρ c y:=by
 unfold oJ at hs
 split at hs<;>first|(cases hs;constructor)|cases hs
theorem Hn{a b:ByteArray}(h:(a==b)=true):a=b:=by
 cases a with
 |mk x=>cases b with
  |mk y=>
   have h':(x==y)=true:=h
   rw[eq_of_beq h']
theorem uw(a:ByteArray):(a==a)=true:=by
 cases a with
 |mk x=>
  show(x==x)=true
  exact acg x
theorem Aj{t:LK}{d:TypeDesc}{k q:SV}{kv qv:Value}{b:Bool}(hd:PL t d)(h:so t k q=some b)(hk:oJ k=some kv)(hq:oJ q=some qv):Instr.sameNow d kv qv=some b∧(b=true→kv=qv):=by
 unfold so at h
 split at h
 ·rename_i k1 a k2 b'
  replace h:=aj h
  obtain⟨h1,h2⟩:=h
  obtain⟨kk,rfl⟩:=hd
  cases hk;cases hq;cases h2
  have h1:k1=k2:=by simpa using h1
  subst h1
  exact⟨by simp[Instr.sameNow],fun h=>by rw[eq_of_beq h]⟩
 ·cases hd
  cases hk;cases hq;cases h
  exact⟨by simp[Instr.sameNow],fun h=>by rw[Hn h]⟩
 ·cases hd
  cases hk;cases hq;cases h
  exact⟨by simp[Instr.sameNow],fun h=>by rw[eq_of_beq h]⟩
 ·cases h
theorem pO{t:LK}{d:TypeDesc}{k:SV}{kv:Value}(hd:PL t d)(hk:oJ k=some kv):∀(es:List (SV×SV)) (en:List MapEntry) (i:Nat) (r:Option (Nat×SV)),l6 w F ρ en es→jK t k es i=some r→
 (r=none∧Instr.findNow d kv en i=some none)∨∃j v en1,r=some (i+j,v)∧Instr.findNow d kv en i=some (some (i+j,en1.val))∧en[j]?=some en1∧en1.key=kv∧v.jg=true∧VR w F ρ v en1.val
 |[],[],i,r,_,h=>by cases h;exact .inl ⟨rfl,rfl⟩
 |[],_::_,_,_,hm,_=>hm.elim
 |(_,_)::_,[],_,_,hm,_=>hm.elim
 |(q,v)::es,e::en,i,r,⟨h1,h2,h3,h4⟩,h=>by
  unfold jK at h
  simp only[aaY]at h
  obtain⟨b,hb,h⟩:=h
  obtain⟨g1,g2⟩:=Aj hd hb hk h1
  cases b with
  |true=>
   cases h
   exact .inr ⟨0,v,e,rfl,by simp[Instr.findNow,g1],rfl,(g2 rfl).symm,h2,h3⟩
  |false=>
   simp only[abc]at h
   rcases pO hd hk es en (i+1) r h4 h with⟨p1,p2⟩|⟨j,v',e',p1,p2,p3,p4,p5,p6⟩
   ·exact .inl ⟨p1,by simp[Instr.findNow,g1,p2]⟩
   ·exact .inr ⟨j+1,v',e',by rw[p1];congr 2;omega,by simp only[Instr.findNow,g1,p2];congr 3;omega,by simpa using p3,p4,p5,p6⟩
theorem uC{k v:SV}{e:MapEntry}(hk:oJ k=some e.key)(h1:v.jg=true)(hv:VR w F ρ v e.val):∀(en:List MapEntry) (es:List (SV×SV)),l6 w F ρ en es→l6 w F ρ (en++[e]) (es++[(k,v)])
 |[],[],_=>⟨hk,h1,hv,trivial⟩
 |_::en,(_,_)::es,⟨a,b,c,h⟩=>⟨a,b,c,uC hk h1 hv en es h⟩
 |[],_::_,h=>h.elim
 |_::_,[],h=>h.elim
theorem uF{k v:SV}{kv vv:Value}(hk:oJ k=some kv)(h1:v.jg=true)(hv:VR w F ρ v vv):∀(j:Nat) (en:List MapEntry) (es:List (SV×SV)),l6 w F ρ en es→l6 w F ρ (en.modify j fun e=>{e with key:=kv,val:=vv}) (es.set j (k,v))
 |_,[],[],_=>by simp[l6]
 |0,e::en,(q,x)::es,⟨a,b,c,h⟩=>by
  rw[List.modify_zero_cons,adM]
  exact⟨hk,h1,hv,h⟩
 |j+1,e::en,(q,x)::es,⟨a,b,c,h⟩=>by
  rw[List.modify_succ_cons,List.set_cons_succ]
  exact⟨a,b,c,uF hk h1 hv j en es h⟩
 |_,[],_::_,h=>h.elim
 |_,_::_,[],h=>h.elim
theorem sg{t el:TypeId}{q:LK}(h:uS C.P t=some (q,el)):∃kt d,C.P.underlying t=some (.map kt el)∧C.P.underlying kt=some d∧PL q d∧fQ C.P el=some 1∧jk C.P el=some false:=by
 unfold uS at h
 split at h
 ·rename_i k e hu
  replace h:=aj h
  obtain⟨hc,h⟩:=h
  simp only[aa1,ab0]at hc
  split at h
  ·rename_i hk;cases h;exact⟨k,_,hu,hk,⟨_,rfl⟩,hc.1,hc.2⟩
  ·rename_i hk;cases h;exact⟨k,_,hu,hk,rfl,hc.1,hc.2⟩
  ·rename_i hk;cases h;exact⟨k,_,hu,hk,rfl,hc.1,hc.2⟩
  ·cases h
 ·cases h
theorem vk{k:SV}(h:isKey k=true):∃y,oJ k=some y:=by
 unfold isKey at h
 split at h<;>first|exact⟨_,rfl⟩|cases h
theorem oP{q:LK}{kt:TypeId}{d:TypeDesc}{k:SV}{kv:Value}(hd:PL q d)(hu:C.P.underlying kt=some d)(hk:oJ k=some kv)(b:Bool)(n:Nat)(w:World):(Instr.checkKey b (n+1) kt kv).run C.P w=.ok () w:=by
 unfold Instr.checkKey
 simp only[Sem.run_bind,run_underlying hu,Result.andThen]
 unfold oJ at hk
 cases q with
 |i=>obtain⟨kk,rfl⟩:=hd;split at hk<;>first|(cases hk;rfl)|cases hk
 |s=>cases hd;split at hk<;>first|(cases hk;rfl)|cases hk
 |b=>cases hd;split at hk<;>first|(cases hk;rfl)|cases hk
theorem CA(hr:HR C ρ F H w){b:Nat}{v:Value}{es:List (SV×SV)}(hv:VR w F ρ (.mp b) v)(hg:bn H b=some (.map es)):∃l en cl,ρ b=some l∧v=.map (some l.cp)∧l.bE=false∧l.arr=false∧w.heap[l.cp]?=some (.map en cl)∧l6 w F ρ en.toList es:=by
 cases hv with
 |mp h ha=>
  obtain⟨l',h1,h2,h3,en,cl,h4,h5⟩:=hr.live _ _ hg rfl
  rw[h]at h1;cases h1
  exact⟨_,en,cl,h,rfl,h2,h3,h4,h5⟩
theorem AQ(hr:HR C ρ F H w)(t:TypeId):bO C (do pure (.value (←Instr.makeMap t none))) ρ F H w (.mp H.bl.length) (bM H (.map [])):=by
 let l:Loc:={cp:=w.heap.size,base:=0,cap:=0,bT:=0,cB:=0,bE:=false,arr:=false}
 have hh:∀B,B<w.heap.size→({w with heap:=w.heap.push (.map #[] 0)}:World).heap[B]?=w.heap[B]?:=fun B hB=>by simp[acO,acQ hB]
 have hp:=hr.push (w':={w with heap:=w.heap.push (.map #[] 0)}) (by simp) hh (.map []) l (fun _=>⟨aa8 _,by simp[l]⟩) ⟨rfl,rfl,#[],0,by simp[l],trivial⟩
 refine bO.sI (val:=.map (some w.heap.size)) (w':={w with heap:=w.heap.push (.map #[] 0)}) ?_ ⟨_,F,.mp (l:=l) (Map.bJ _ _ _) rfl,hp.1,hp.2⟩
 simp[Instr.makeMap,newObj,Sem.run]
theorem yM{t:TypeId}{z:SV}(h:sP C.P t=some z):∃i v,C.P.info? t=some i∧i.zero=some v∧VR w F ρ z v:=by
 unfold sP at h
 split at h
 ·rename_i i hi
  split at h
  ·rename_i v hv
   simp only[aaY]at h
   obtain⟨z',h1,h2⟩:=h
   replace h2:=aj h2
   cases h2.2
   exact⟨i,v,hi,hv,tK 1 h1⟩
  ·cases h
 ·cases h
theorem Ch{t el:TypeId}{q:LK}{ok:Bool}{z:SV}{x k:Operand}{x' k':bZ}(hm:uS C.P t=some (q,el))(hz:sP C.P el=some z)(hx:bC x=some x')(hk:bC k=some k')(hr:HR C ρ F H w)(he:ER w F ρ e a.tmps)
 (h:nK q ok z H (ev e k') (ev e x')=some (s,H')):bO C (do pure (.value (←Instr.lookup t (a.eval x) (a.eval k) ok))) ρ F H w s H':=by
 obtain⟨kt,d,hu,huk,hd,hsz,hag⟩:=sg hm
 unfold nK at h
 split at h
 ·rename_i b hb
  split at h
  ·rename_i es hg
   replace h:=aj h
   obtain⟨hkey,h⟩:=h
   simp only[aaW,abi]at h
   obtain⟨r,h1,h2,rfl⟩:=h
   have hxv:=bc hx he
   rw[hb]at hxv
   obtain⟨l,en,cl,hl,hv,hvi,har,hw,hM⟩:=CA hr hxv hg
   have hkv:=bc hk he
   obtain⟨kv,hks⟩:=vk hkey
   have hke:=At hkv hks
   obtain⟨i',zv,hi',hzv,hzr⟩:=yM (w:=w) (F:=F) (ρ:=ρ) hz
   have hck:=oP (C:=C) hd huk hks en.isEmpty 9999 w
   rcases pO hd hks es en.toList 0 r hM h1 with⟨rfl,p2⟩|⟨j,v,e1,rfl,p2,p3,p4,p5,p6⟩
   ·have hrun:(Instr.lookup t (a.eval x) (a.eval k) ok).run C.P w=.ok (if ok then .tuple #[zv,.bool false]else zv) w:=by
     unfold Instr.lookup
     rw[hv,hke]
     simp only[Sem.run_bind,run_underlying hu,Result.andThen,MapKept.run_getObj_map hw,Sem.run_pure,hck,MapKept.run_findKey huk p2,dK hi' hzv]
    cases ok with
    |true=>
     cases h2
     refine bO.val hr hrun (.bk rfl (fun j c v hj hv=>?_))
     match j with
     |0=>simp at hj hv;subst hj;subst hv;exact hzr
     |1=>simp at hj hv;subst hj;subst hv;exact .bool _
     |j+2=>simp at hj
    |false=>
     cases h2
     exact bO.val hr hrun hzr
   ·have hrun:(Instr.lookup t (a.eval x) (a.eval k) ok).run C.P w=.ok (if ok then .tuple #[e1.val,.bool true]else e1.val) w:=by
     unfold Instr.lookup
     rw[hv,hke]
     simp only[Sem.run_bind,run_underlying hu,Result.andThen,MapKept.run_getObj_map hw,Sem.run_pure,hck,MapKept.run_findKey huk p2]
    have hvr:VR w F ρ v e1.val:=p6
    cases ok with
    |true=>
     cases h2
     refine bO.val hr hrun (.bk rfl (fun j c v hj hv=>?_))
     match j with
     |0=>simp at hj hv;subst hj;subst hv;exact hvr
     |1=>simp at hj hv;subst hj;subst hv;exact .bool _
     |j+2=>simp at hj
    |false=>
     cases h2
     exact bO.val hr hrun hvr
  ·cases h
 ·cases h
theorem vG{k:SV}{kv:Value}(h:oJ k=some kv)(n:Nat):Instr.sameBits n kv kv=true:=by
 unfold oJ at h
 split at h
 ·cases h;unfold Instr.sameBits;simp
 ·cases h;unfold Instr.sameBits;simp
 ·rename_i s
  cases h
  unfold Instr.sameBits
  exact uw s
 ·cases h
theorem EK{t el:TypeId}{q:LK}{x k v:Operand}{x' k' v':bZ}(hm:uS C.P t=some (q,el))(hx:bC x=some x')(hk:bC k=some k')(hvo:bC v=some v')(hr:HR C ρ F H w)(he:ER w F ρ e a.tmps)
 (h:qy q H (ev e k') (ev e v') (ev e x')=some (s,H')):∃w',(Instr.mapUpdate t (a.eval x) (a.eval k) (a.eval v)).run C.P w=.ok () w'∧s=.undef∧HR C ρ F H' w'∧Ext C ρ F H w ρ F H' w':=by
 obtain⟨kt,d,hu,huk,hd,hsz,hag⟩:=sg hm
 unfold qy at h
 split at h
 ·rename_i b hb
  split at h
  ·rename_i es hg
   replace h:=aj h
   obtain⟨hc,h⟩:=h
   simp only[aa1,ab0]at hc
   obtain⟨hkey,hv1⟩:=hc
   simp only[aaY,aaW,abi]at h
   obtain⟨r,h1,H1,hH,rfl,rfl⟩:=h
   have hxv:=bc hx he
   rw[hb]at hxv
   obtain⟨l,en,cl,hl,hv,hvi,har,hw,hM⟩:=CA hr hxv hg
   obtain⟨kv,hks⟩:=vk hkey
   have hke:=At (bc hk he) hks
   have hvr:=bc hvo he
   generalize a.eval v=vv at *
   have hck:=oP (C:=C) hd huk hks false 9999 w
   have hlt:l.cp<w.heap.size:=(abq.1 hw).1
   have hown:Own ρ H b l:=⟨⟨_,hg,rfl⟩,hl,hvi⟩
   have fin:∀(en':Array MapEntry) (cl':Nat),(∀(w':World) (σ:Map),dH F w w'→VR w F σ (ev e v') vv→l6 w F σ en.toList es→l6 w' F σ en'.toList (zZ (ev e k') (ev e v') es r))→
    HR C ρ F H1 (w.putObj l.cp (.map en' cl'))∧Ext C ρ F H w ρ F H1 (w.putObj l.cp (.map en' cl')):=by
    intro en' cl' hM'
    have hkeep:∀Bk,Bk≠l.cp→(w.putObj l.cp (.map en' cl')).heap[Bk]?=w.heap[Bk]?:=fun Bk hne=>World.putObj_heap_other hne
    have hkk:dH F w (w.putObj l.cp (.map en' cl')):=fun Bk hB=>hkeep Bk (fun e=>(hr.own _ _ hown).1 (e▸hB))
    obtain⟨z1,z2⟩:=hr.set (w':=w.putObj l.cp (.map en' cl')) (l':=l) hH hg rfl hl (by simp) (fun Bk _ h=>hkeep Bk (h hvi)) (fun h=>.inl ⟨h,rfl⟩) (.inl rfl)
     (fun _=>⟨hvi,har,en',cl',World.putObj_heap_same hlt,by rw[ca hl];exact hM' _ _ hkk hvr hM⟩)
     (fun _ N hN _ hx=>by
      obtain⟨_,_,en2,cl2,g1,g2⟩:=hx
      rw[hw]at g1
      cases g1
      exact⟨hvi,har,en',cl',World.putObj_heap_same hlt,by rw[ca hl];exact hM' _ _ hkk (hvr.cut N hN) g2⟩)
    rw[ca hl]at z1 z2
    exact⟨z1,z2⟩
   rcases pO hd hks es en.toList 0 r hM h1 with⟨rfl,p2⟩|⟨j,v1,e1,rfl,p2,p3,p4,p5,p6⟩
   ·obtain⟨z1,z2⟩:=fin (en.push {key:=kv,val:=vv,born:=cl}) (cl+1) (fun w' σ hkk hv2 hM2=>by
     rw[Array.toList_push]
     exact uC (e:={key:=kv,val:=vv,born:=cl}) hks hv1 (hv2.mono hkk (fun _ h=>h) (Map.le_refl _)) _ _ (hM2.mono hkk (fun _ h=>h) (Map.le_refl _)))
    refine⟨_,?_,rfl,z1,z2⟩
    unfold Instr.mapUpdate
    rw[hv,hke]
    simp only[Sem.run_bind,run_underlying hu,Result.andThen,MapKept.run_getObj_map hw,hck,MapKept.run_findKey huk p2,MapKept.run_setObj_map _ hw]
    rfl
   ·rw[ach]at p2 h1 hH
    have hj:en[j]?=some e1:=by simpa using p3
    obtain⟨z1,z2⟩:=fin (en.modify j fun e=>{e with key:=kv,val:=vv}) cl (fun w' σ hkk hv2 hM2=>by
     rw[Array.toList_modify,ach]
     exact uF hks hv1 (hv2.mono hkk (fun _ h=>h) (Map.le_refl _)) j _ _ (hM2.mono hkk (fun _ h=>h) (Map.le_refl _)))
    refine⟨_,?_,rfl,z1,z2⟩
    have hks2:(Instr.keyThatStays kv kv).run C.P w=.ok kv w:=by unfold Instr.keyThatStays;rw[vG hks];rfl
    unfold Instr.mapUpdate
    rw[hv,hke]
    simp only[Sem.run_bind,run_underlying hu,Result.andThen,MapKept.run_getObj_map hw,hck,MapKept.run_findKey huk p2,hj,abL,acj,p4,hks2,MapKept.run_setObj_map _ hw]
    rfl
  ·cases h
 ·cases h
theorem uG{t el:TypeId}{q:LK}{x k v:Operand}{x' k' v':bZ}(hm:uS C.P t=some (q,el))(hx:bC x=some x')(hk:bC k=some k')(hvo:bC v=some v')(hr:HR C ρ F H w)(he:ER w F ρ e a.tmps)
 (h:qy q H (ev e k') (ev e v') (ev e x')=some (s,H')):bO C (do Instr.mapUpdate t (a.eval x) (a.eval k) (a.eval v);pure .skip) ρ F H w s H':=by
 obtain⟨w',h1,rfl,h2,h3⟩:=EK hm hx hk hvo hr he h
 exact⟨undef,w',.inr ⟨by simp[h1,pure,Sem.run],rfl⟩,ρ,F,.undef _,h2,h3⟩
end
end
section
section
variable{C:Ctx}{ρ:Map}{F:Nat→Prop}{H H':ae}{w:World}{e:Env}{a:Act}{s c d:SV}
theorem eR{A:Type}{c:Bool}{x:Option A}{y:A}(h:(bif c then none else x)=some y):c=false∧x=some y:=by
 cases c with
 |true=>cases h
 |false=>exact⟨rfl,h⟩
theorem map_fst{v:Option SV}(h:v.map (·,H)=some (s,H')):v=some s∧H=H':=by
 cases v with
 |none=>cases h
 |some v=>cases h;exact⟨rfl,rfl⟩
theorem ry{xs:Array Operand}{y:bZ}(h:je xs=some [y]):∃x,xs= #[x]∧bC x=some y:=by
 have h1:=nU h
 cases xs with
 |mk l=>
  match l,h1 with
  |[x],h1=>simp at h1;exact⟨x,rfl,h1⟩
  |[],h1=>simp at h1
  |_::_::_,h1=>simp at h1
theorem se{xs:Array Operand}{y z:bZ}(h:je xs=some [y,z]):∃x x',xs= #[x,x']∧bC x=some y∧bC x'=some z:=by
 have h1:=nU h
 cases xs with
 |mk l=>
  match l,h1 with
  |[x,x'],h1=>simp at h1;exact⟨x,x',rfl,h1.1,h1.2⟩
  |[],h1=>simp at h1
  |[_],h1=>simp at h1
  |_::_::_::_,h1=>simp at h1
theorem qS{t el:TypeId}(h:lF C.P t=some el):C.P.underlying t=some (.slice el):=by
 unfold lF at h
 split at h
 ·cases h;assumption
 ·cases h
def yQ:NK→Value→Option Bool
 | .p,.pointer p=>some p.isNone
 | .s,.slice b _ _=>some b.isNone
 | .f,.nilFunc=>some true
 | .f,.func _ _ _=>some false
 |_,_=>none
theorem mK{op:BinOp}{u:TypeDesc}{y:Operand}{x:bZ}{op':lr}(h:uy op u y x=some op'):∃k neg,op'=.isNil k neg x:=by
 unfold uy at h
 split at h<;>first|(cases h;done)|(cases h;exact⟨_,_,rfl⟩)
theorem D1{P:Program}{d:Nat}{t el:TypeId}{p:Option Addr}(hu:P.underlying t=some (.pointer el)):(Op.equalIn (d+1) t (.pointer p) (.pointer none)).run P w=.ok p.isNone w:=by
 cases p<;>simp[Op.equalIn,run_underlying hu,Sem.run_bind,Result.andThen,pure,Sem.run]
theorem EL{P:Program}{d n c:Nat}{t el:TypeId}{p:Option Addr}(hu:P.underlying t=some (.slice el)):(Op.equalIn (d+1) t (.slice p n c) (.slice none 0 0)).run P w=.ok p.isNone w:=by
 cases p<;>simp[Op.equalIn,run_underlying hu,Sem.run_bind,Result.andThen,pure,Sem.run]
theorem yp{P:Program}{d:Nat}{t:TypeId}{ps rs vr}(hu:P.underlying t=some (.func ps rs vr)):(Op.equalIn (d+1) t .nilFunc .nilFunc).run P w=.ok true w∧∀f x y,(Op.equalIn (d+1) t (.func f x y) .nilFunc).run P w=.ok false w:=by
 constructor
 ·simp[Op.equalIn,run_underlying hu,Sem.run_bind,Result.andThen,pure,Sem.run]
 ·intro f x y
  simp[Op.equalIn,run_underlying hu,Sem.run_bind,Result.andThen,pure,Sem.run]
theorem u4{op:BinOp}{u:TypeDesc}{t:TypeId}{x y:Operand}{x':bZ}{k:NK}{neg b:Bool}{v:Value}(h:uy op u y x'=some (.isNil k neg x'))(hu:C.P.underlying t=some u)(hb:yQ k v=some b) :
 (do eqGuard op t x y v (a.eval y);binOp op t v (a.eval y):Sem Value).run C.P w=.ok (.bool (neg ^^ b)) w:=by
 have hm:Op.maxDepth=9999+1:=rfl
 unfold uy at h
 split at h<;>first|(cases h;done)|skip
 all_goals
  cases h
  cases v<;>simp only[yQ,abd,reduceCtorEq]at hb
 all_goals
  subst hb
  simp only[Act.eval,eqGuard,binOp,Op.equal,hm,Sem.run_bind]
  first
  |(simp[D1 hu,Sem.run_bind,Result.andThen,pure,Sem.run];done)
  |(simp[EL hu,Sem.run_bind,Result.andThen,pure,Sem.run];done)
  |(simp[(yp hu).1,(yp hu).2,Sem.run_bind,Result.andThen,pure,Sem.run];done)
theorem Ba(hr:HR C ρ F H w){k:NK}{b:Bool}{v:Value}(hs:fI H k c=some b)(hv:VR w F ρ c v):yQ k v=some b:=by
 unfold fI at hs
 split at hs
 ·cases hs;cases hv;rfl
 ·replace hs:=aj hs
  obtain⟨hc,hs⟩:=hs
  cases hs
  obtain⟨l,hl,_,_,hv2⟩:=sU hr hc hv
  subst hv2
  rfl
 ·cases hs;cases hv;rfl
 ·cases hs;cases hv;rfl
 ·cases hs;cases hv;rfl
 ·cases hs;cases hv;rfl
 ·rename_i z L f
  cases hL:L.isEmpty with
  |true=>rw[hL]at hs;cases hs
  |false=>
   rw[hL]at hs
   cases hs
   cases hv with
   |ay V hcap hfull hz hat h1 hv=>
    rcases hat with h0|⟨B,o,ha,_⟩
    ·subst h0;cases hL
    ·subst ha;rfl
 ·rename_i b' v' off n
  replace hs:=aj hs
  obtain⟨hc,hs⟩:=hs
  simp only[aa1,aaX]at hc
  cases hs
  obtain⟨l,z2,L2,ex2,hl,hb2,hbr,g1,g2⟩:=ec hr hc.1 hv
  cases hvi:l.bE with
  |true=>obtain⟨q,p1,p2,p3⟩:=g1 hvi;omega
  |false=>
   obtain⟨p1,q,p2,p3⟩:=g2 hvi
   have:=p3 (by omega)
   subst this
   subst p2
   rfl
 ·cases hs
theorem BN{op:BinOp}{u:TypeDesc}{t:TypeId}{x y:Operand}{x':bZ}{k:NK}{neg b:Bool}(h:uy op u y x'=some (.isNil k neg x'))(hu:C.P.underlying t=some u)(hx:bC x=some x')
 (hr:HR C ρ F H w) (he:ER w F ρ e a.tmps) (hs:fI H k (ev e x')=some b):bO C (do let v←(do eqGuard op t x y (a.eval x) (a.eval y);binOp op t (a.eval x) (a.eval y));pure (.value v)) ρ F H w (.bool (neg ^^ b)) H:=
 bO.val hr (u4 h hu (Ba hr hs (bc hx he))) (.bool _)
theorem CJ{o:Oper}{op':lr}(h:oI C.P o.op=some op')(hr:HR C ρ F H w)(he:ER w F ρ e a.tmps)(hs:cf e H op'=some (s,H')):bO C (execOp a.eval o) ρ F H w s H':=by
 unfold oI at h
 split at h
 case h_1 x ho=>
  simp only[aaW]at h
  obtain⟨y,hy,rfl⟩:=h
  simp only[cf,abd,abi]at hs
  obtain⟨rfl,rfl⟩:=hs
  simp only[execOp,ho]
  exact zV hy hr he
 case h_2 x ho=>
  simp only[aaW]at h
  obtain⟨y,hy,rfl⟩:=h
  simp only[cf,abd,abi]at hs
  obtain⟨rfl,rfl⟩:=hs
  simp only[execOp,ho]
  exact zV hy hr he
 case h_3 c x y ho=>
  split at h
  ·rename_i c' x' y' h1 h2 h3
   cases h
   obtain⟨h4,rfl⟩:=map_fst hs
   simp only[execOp,ho]
   exact Ef h1 h2 h3 hr he h4
  ·cases h
 case h_4 t ho=>
  simp only[aaW]at h
  obtain⟨z,hz,rfl⟩:=h
  simp only[cf,abd,abi]at hs
  obtain⟨rfl,rfl⟩:=hs
  simp only[execOp,ho]
  exact CD hz hr
 case h_5 t x ho=>
  simp only[aaW]at h
  obtain⟨y,hy,rfl⟩:=h
  simp only[cf,aaW,abi]at hs
  obtain⟨cs,h1,rfl,rfl⟩:=hs
  simp only[execOp,ho]
  exact HB hy hr he h1
 case h_6 t ps ho=>
  split at h
  ·rename_i z ps' h1 h2
   cases h
   simp only[cf,aaW,abi]at hs
   obtain⟨r,h3,rfl,rfl⟩:=hs
   simp only[execOp,ho]
   exact Co h1 h2 hr he h3
  ·cases h
 case h_7 t n ps ho=>
  split at h
  ·rename_i el hel
   split at h
   ·rename_i z zs ps' h1 h2 h3
    replace h:=aj h
    obtain⟨hc,h⟩:=h
    cases h
    simp only[aa1,aaX,ab0]at hc
    simp only[cf,aaW,abi]at hs
    obtain⟨r,h4,rfl,rfl⟩:=hs
    simp only[execOp,ho]
    exact zB hel h1 h2 h3 hc.1 hc.2 hr he h4
   ·cases h
  ·cases h
 case h_8 t x ho=>
  split at h
  ·rename_i ag n y h1 h2 h3
   cases h
   obtain⟨h4,rfl⟩:=map_fst hs
   simp only[execOp,ho]
   exact D9 h1 h2 h3 hr he h4
  ·cases h
 case h_9 t x y ho=>
  split at h
  ·rename_i n x' y' h1 h2 h3
   cases h
   simp only[cf,aaW,abi]at hs
   obtain⟨H1,h4,rfl,rfl⟩:=hs
   simp only[execOp,ho]
   exact Bp h1 h2 h3 hr he h4
  ·cases h
 case h_10 x ho=>
  simp only[aaW]at h
  obtain⟨y,hy,rfl⟩:=h
  exact zw hy hr he o ho hs
 case h_11 bo t x y yt ho=>
  simp only[execOp,ho]
  split at h
  ·rename_i x' y' h1 h2
   have aggs:∀(op:BinOp) (neg:Bool),((op=.eql∧neg=false)∨(op=.neq∧neg=true))→jk C.P t=some true→(bif C.P.eqGuardType C.P.depth t then none else(eN C.P 6 t).map (.dG neg · x' y'))=some op'→cf e H op'=some (s,H')→
    bO C (do let v←(do eqGuard op t x y (a.eval x) (a.eval y);binOp op t (a.eval x) (a.eval y));pure (.value v)) ρ F H w s H':=by
    intro op neg ef hag h hs
    replace h:=eR h
    obtain⟨hm,h⟩:=h
    simp only[aaW]at h
    obtain⟨sh,hsh,rfl⟩:=h
    simp only[cf]at hs
    split at hs
    ·rename_i cs ds k1 k2
     simp only[aaW,abi]at hs
     obtain⟨r,k3,rfl,rfl⟩:=hs
     exact CN ef h1 h2 hm hsh hag hr he k1 k2 k3
    ·cases hs
   split at h
   ·rename_i hu
    exact aggs .eql false (.inl ⟨rfl,rfl⟩) (by simp[jk,hu]) h hs
   ·rename_i hu
    exact aggs .neq true (.inr ⟨rfl,rfl⟩) (by simp[jk,hu]) h hs
   ·rename_i hu
    exact aggs .eql false (.inl ⟨rfl,rfl⟩) (by simp[jk,hu]) h hs
   ·rename_i hu
    exact aggs .neq true (.inr ⟨rfl,rfl⟩) (by simp[jk,hu]) h hs
   ·cases h
    obtain⟨h4,rfl⟩:=map_fst hs
    exact AF h1 h2 hr he h4
   ·rename_i hu
    cases h
    obtain⟨h4,rfl⟩:=map_fst hs
    exact Eh h1 h2 hr he hu h4
   ·cases h
    obtain⟨h4,rfl⟩:=map_fst hs
    exact AF h1 h2 hr he h4
   ·rename_i u hu
    obtain⟨k,neg,rfl⟩:=mK h
    simp only[cf,aaW,abi]at hs
    obtain⟨b,k1,rfl,rfl⟩:=hs
    exact BN h hu h1 hr he k1
   ·cases h
  ·cases h
 case h_12 t x ho=>
  simp only[aaW]at h
  obtain⟨y,hy,rfl⟩:=h
  simp only[cf]at hs
  split at hs
  ·rename_i b hb
   cases hs
   simp only[execOp,ho]
   exact D7 (t:=t) hy hr he hb
  ·cases hs
 case h_13 t x ho=>
  split at h
  ·simp only[aaW]at h
   obtain⟨y,hy,rfl⟩:=h
   simp only[cf]at hs
   split at hs
   ·rename_i k n hb
    cases hs
    simp only[execOp,ho]
    exact DJ hy hr he hb
   ·cases hs
  ·cases h
 case h_14 sr ds x ho=>
  simp only[execOp,ho]
  split at h
  ·cases h
  ·rename_i y hy
   split at h
   ·rename_i j k h1 h2
    cases h
    simp only[cf]at hs
    split at hs
    ·rename_i k' n hb
     cases hs
     exact AY hy h1 h2 hr he hb
    ·cases hs
   ·rename_i h1 h2
    cases h
    simp only[cf]at hs
    split at hs
    ·rename_i b hb
     cases hs
     exact B9 hy h1 h2 hr he hb
    ·cases hs
   ·rename_i el h1 h2
    split at h
    ·rename_i h3 h4
     cases h
     simp only[cf,aaY,aaW,abi]at hs
     obtain⟨L,k1,l,k2,rfl,rfl⟩:=hs
     exact yU hy h1 h3 h2 hr he k1 k2
    ·cases h
   ·rename_i el h1 h2
    split at h
    ·rename_i h3 h4
     cases h
     simp only[cf]at hs
     split at hs
     ·rename_i b hb
      cases hs
      obtain⟨val,w',k1,k2⟩:=yH hy h1 h3 h2 hr he hb
      exact bO.sI k1 k2
     ·cases hs
    ·cases h
   ·cases h
 case h_15 f fs cs ho=>
  rw[cond_eq_ite]at h
  split at h
  ·rename_i hc
   simp only[aaW]at h
   obtain⟨ys,hy,rfl⟩:=h
   simp only[cf,abd,abi]at hs
   obtain⟨rfl,rfl⟩:=hs
   simp only[execOp,ho]
   exact Ek hc hy hr he
  ·replace h:=aj h
   obtain⟨hc,h⟩:=h
   simp only[aaW]at h
   obtain⟨ys,hy,rfl⟩:=h
   simp only[cf,abd,abi]at hs
   obtain⟨rfl,rfl⟩:=hs
   simp only[execOp,ho]
   exact An hc hy hr he
 case h_16 t l c ho=>
  split at h
  ·rename_i el hel
   split at h
   ·rename_i i z l' c' h1 h2 h3 h4
    replace h:=eR h
    obtain⟨hb,h⟩:=h
    replace h:=aj h
    obtain⟨hz,h⟩:=h
    cases h
    simp only[acq,acB,ab0]at hb hz
    have hu:C.P.underlying t=some (.slice el):=by
     unfold lF at hel
     split at hel
     ·cases hel;assumption
     ·cases hel
    simp only[cf]at hs
    obtain⟨val,w',r1,r2⟩:=wa hu h1 h2 hz (by omega) (by omega) hr (bc h3 he) (bc h4 he) hs
    simp only[execOp,ho]
    exact bO.sI r1 r2
   ·cases h
  ·cases h
 case h_17 t x lo hi mx ho=>
  simp only[execOp,ho]
  split at h
  ·rename_i x' lo' hi' mx' h1 h2 h3 h4
   split at h
   ·rename_i el hu
    split at h
    ·rename_i n hn
     replace h:=eR h
     obtain⟨hb,h⟩:=h
     cases h
     simp only[cf]at hs
     replace hs:=aj hs
     obtain⟨hc,hs⟩:=hs
     obtain⟨h5,rfl⟩:=map_fst hs
     rcases orElse_some h5 with h5|h5
     rotate_left
     ·exact yO h1 h2 h3 h4 hu hn hr he hc h5
     refine zA h1 h2 h3 h4 hu hn hr he hc (fun hm=>?_) h5
     cases hi' with
     |some v=>rfl
     |none=>rw[hm]at hb;cases hb
    ·cases h
   ·rename_i hu
    split at h
    ·rename_i hm
     cases h
     have:mx=none:=by
      cases mx with
      |none=>rfl
      |some v=>simp[fZ]at h4
     subst this
     simp only[cf]at hs
     split at hs
     ·rename_i b hb
      obtain⟨h5,rfl⟩:=map_fst hs
      exact yY h1 h2 h3 hu hr he hb h5
     ·cases hs
    ·cases h
   ·cases h
  ·cases h
 case h_18 t x f ho=>
  simp only[execOp,ho]
  split at h
  ·rename_i x' f' h1 h2
   split at h
   ·rename_i n h3
    cases h
    simp only[cf]at hs
    replace hs:=aj hs
    obtain⟨hc,hs⟩:=hs
    obtain⟨h5,rfl⟩:=map_fst hs
    simp only[aaY]at h2
    obtain⟨fs,h6,h7⟩:=h2
    exact Az h1 h6 h7 h3 hr he hc h5
   ·cases h
  ·cases h
 case h_19 t x f ho=>
  simp only[execOp,ho]
  split at h
  ·rename_i x' f' h1 h2
   split at h
   ·rename_i ag n h3 h4
    cases h
    simp only[cf]at hs
    split at hs
    ·rename_i cs hc
     obtain⟨h5,rfl⟩:=map_fst hs
     simp only[aaY]at h2
     obtain⟨fs,h6,h7⟩:=h2
     exact AL h1 h6 h7 h3 h4 hr he hc h5
    ·cases hs
   ·cases h
  ·cases h
 case h_20 t x ix ho=>
  simp only[execOp,ho]
  split at h
  ·rename_i x' i' h1 h2
   split at h
   ·rename_i el hu
    split at h
    ·rename_i n hn
     cases h
     simp only[cf]at hs
     replace hs:=aj hs
     obtain⟨hc,hs⟩:=hs
     obtain⟨h5,rfl⟩:=map_fst hs
     exact y5 h1 h2 hu hn hr he hc h5
    ·cases h
   ·rename_i len el hu
    split at h
    ·rename_i n hn
     cases h
     simp only[cf]at hs
     replace hs:=aj hs
     obtain⟨hc,hs⟩:=hs
     simp only[aaY]at hs
     obtain⟨i,h3,hs⟩:=hs
     obtain⟨h5,rfl⟩:=map_fst hs
     exact yE h1 h2 hu hn hr he hc h3 h5
    ·cases h
   ·cases h
  ·cases h
 case h_21 t x ix ho=>
  simp only[execOp,ho]
  split at h
  ·rename_i x' i' h1 h2
   split at h
   ·rename_i len el hu
    split at h
    ·rename_i ag n h3 h4
     cases h
     simp only[cf]at hs
     split at hs
     ·rename_i cs hc
      simp only[aaY]at hs
      obtain⟨i,h6,hs⟩:=hs
      obtain⟨h5,rfl⟩:=map_fst hs
      exact zD h1 h2 hu h3 h4 hr he hc h6 h5
     ·cases hs
    ·cases h
   ·rename_i hu
    cases h
    simp only[cf]at hs
    split at hs
    ·rename_i b hc
     simp only[aaY,aaW,abi]at hs
     obtain⟨i,h6,y,h7,rfl,rfl⟩:=hs
     exact yX h1 h2 hu hr he hc h6 h7
    ·cases hs
   ·cases h
  ·cases h
 case h_22 x i ho=>
  simp only[aaW]at h
  obtain⟨y,hy,rfl⟩:=h
  simp only[cf]at hs
  split at hs
  ·rename_i vs hb
   obtain⟨h4,rfl⟩:=map_fst hs
   simp only[execOp,ho]
   exact wz hy hr he hb h4
  ·cases hs
 case h_23 c ho=>
  unfold oZ at h
  split at h
  ·split at h
   ·cases h;cases hs
   ·cases h
  ·cases h
  ·rename_i b hb
   have hx:∃cs,execOp a.eval o=builtin b c.argTypes o.type cs (c.args.map a.eval):=⟨_,by simp only[execOp,ho,resolve,hb];rfl⟩
   obtain⟨cs,hx⟩:=hx
   rw[hx]
   split at h
   ·cases h
   ·rename_i xs hxs
    split at h
    ·rename_i y
     obtain⟨x,hx1,hy⟩:=ry hxs
     rw[hx1]
     simp only[adG,abB,adg]
     split at h
     ·rename_i hu
      cases h
      simp only[aaY]at hu
      obtain⟨t0,h0,hu⟩:=hu
      simp only[cf]at hs
      split at hs
      ·rename_i b hbb
       cases hs
       exact D8 (ty:=o.type) hy h0 hu hr he hbb
      ·cases hs
     ·rename_i el hu
      cases h
      simp only[aaY]at hu
      obtain⟨t0,h0,hu⟩:=hu
      simp only[cf]at hs
      replace hs:=aj hs
      obtain⟨hc,hs⟩:=hs
      rw[aaW]at hs
      obtain⟨n,h1,hs⟩:=hs
      cases hs
      exact EM (ty:=o.type) hy h0 hu hr he hc h1
     ·rename_i n el hu
      cases h
      simp only[aaY]at hu
      obtain⟨t0,h0,hu⟩:=hu
      simp only[cf,abd,abi]at hs
      obtain⟨rfl,rfl⟩:=hs
      exact E0 (ty:=o.type) h0 hu hr
     ·cases h
    ·split at h
     ·cases h
      obtain⟨h1,rfl⟩:=map_fst hs
      exact GZ hxs hr he h1
     ·cases h
    ·split at h
     ·cases h
      obtain⟨h1,rfl⟩:=map_fst hs
      exact Hp hxs hr he h1
     ·cases h
    ·rename_i y z
     obtain⟨x,x',hx1,hy,hy'⟩:=se hxs
     rw[hx1]
     simp only[adG,abB,adg]
     split at h
     ·rename_i el el' h1 h2
      split at h
      ·rename_i i hi
       replace h:=eR h
       obtain⟨hb,h⟩:=h
       simp only[acq,acB]at hb
       split at h
       ·rename_i zl hzl
        replace h:=aj h
        obtain⟨hz,h⟩:=h
        cases h
        simp only[ab0]at hz
        simp only[aaY]at h1 h2
        obtain⟨t0,h0,h1⟩:=h1
        obtain⟨t1,h3,h2⟩:=h2
        obtain⟨i',v,hi',hv,k1,k2⟩:=gj (w:=w) (F:=F) (ρ:=ρ) hzl
        rw[hi]at hi';cases hi'
        simp only[cf,aaY]at hs
        obtain⟨X,hX,hs⟩:=hs
        have hT:Dg C.P c.argTypes el i.size i v:=⟨⟨t0,h0,qS h1⟩,⟨t1,el',h3,h2⟩,hi,rfl,hv,by omega,by omega,by omega⟩
        obtain⟨val,w',r1,r2⟩:=zF hT (ty:=o.type) hr (bc hy he) (bc hy' he) hX hs
        exact bO.sI r1 r2
       ·cases h
      ·cases h
     ·cases h
    ·rename_i y z
     obtain⟨x,x',hx1,hy,hy'⟩:=se hxs
     rw[hx1]
     simp only[adG,abB,adg]
     split at h
     ·rename_i el el' h1 h2
      split at h
      ·rename_i n hn
       cases h
       simp only[aaY]at h1 h2
       obtain⟨t0,h0,h1⟩:=h1
       simp only[cf,aaY]at hs
       obtain⟨X,hX,hs⟩:=hs
       obtain⟨val,w',r1,r2⟩:=Ec (ty:=o.type) h0 (qS h1) hn (by omega) hr (bc hy he) (bc hy' he) hX hs
       exact bO.sI r1 r2
      ·cases h
     ·cases h
    ·rename_i y
     obtain⟨x,hx1,hy⟩:=ry hxs
     rw[hx1]
     simp only[adG,abB,adg]
     split at h
     ·rename_i el h1
      split at h
      ·rename_i zh zt hz
       cases h
       simp only[aaY]at h1
       obtain⟨t0,h0,h1⟩:=h1
       simp only[cf]at hs
       obtain⟨val,w',r1,r2⟩:=Bj (ty:=o.type) h0 (qS h1) hz (by simp) hr (bc hy he) hs
       exact bO.sI r1 r2
      ·cases h
     ·cases h
    ·cases h
 case h_24 t ho=>
  cases h
  simp only[cf,abd,abi]at hs
  obtain⟨rfl,rfl⟩:=hs
  simp only[execOp,ho]
  exact AQ hr t
 case h_25 t m k v ho=>
  simp only[execOp,ho]
  split at h
  ·rename_i q el m' k' v' h1 h2 h3 h4
   cases h
   simp only[cf]at hs
   exact uG h1 h2 h3 h4 hr he hs
  ·cases h
 case h_26 t m k v ho=>
  simp only[execOp,ho]
  split at h
  ·rename_i q el m' k' v' h1 h2 h3 h4
   cases h
   simp only[cf]at hs
   exact uG h1 h2 h3 h4 hr he hs
  ·cases h
 case h_27 t m k ok ho=>
  simp only[execOp,ho]
  split at h
  ·rename_i q el m' k' h1 h2 h3
   simp only[aaW]at h
   obtain⟨z,hz,rfl⟩:=h
   simp only[cf]at hs
   exact Ch h1 hz h2 h3 hr he hs
  ·cases h
 case h_28=>cases h
end
end
section
abbrev WF(ro:Option Nat):Fence:={fn:=fun _=>True,depth:=none,alive:=false,round:=ro}
def gL(w:World)(F:Nat→Prop)(ρ:Map)(xs:List SV)(args:Array Value):Prop:=xs.length=args.size∧∀(j:Nat) c v,xs[j]?=some c→args[j]?=some v→VR w F ρ c v
def BE(C:Ctx)(rec:Rec):Prop:=∀f xs H v H',rec (.fn f) xs H=some (v,H')→∀(ρ:Map) (F:Nat→Prop) (w:World) (args:Array Value),HR C ρ F H w→gL w F ρ xs args→
 (callFunc f args).run C.P w=.ok (.enter f args) w∧∀n,CallsIn Fence.wide n C.P f args w (fun e w'=>∃val,e=.returned val∧dF C ρ F H w v H' val w')
def E8(C:Ctx)(rec:Rec):Prop:=∀b xs H v H',rec (.fA b) xs H=some (v,H')→∀(ρ:Map) (F:Nat→Prop) (w:World) (args:Array Value) (l:Loc),HR C ρ F H w→gL w F ρ xs args→ρ b=some l→
 ∃f tmps as1 bd,(Instr.yield l.cp args).run C.P w=.ok (.round l.cp f tmps as1 bd) w∧∀n,RoundIn Fence.wide n C.P l.cp f tmps as1 bd w (fun e w'=>∃val,e=.returned val∧dF C ρ F H w v H' val w')
def AN(C:Ctx)(rec:Rec):Prop:=∀f xs H v H',rec (.qX f) xs H=some (v,H')→∀(ρ:Map) (F:Nat→Prop) (w:World) (args:Array Value),HR C ρ F H w→gL w F ρ xs args→
 (callFunc f args).run C.P w=.ok (.enter f args) w∧∀n,CallsIn Fence.wide n C.P f args w (fun e w'=>∃val,e=.returned val∧dF C ρ F H w v H' val w')
structure fF(C:Ctx)(rec:Rec):Prop where
 call:BE C rec
 TJ:AN C rec
 fA:E8 C rec
section
variable{C:Ctx}{ρ:Map}{F:Nat→Prop}{H H':ae}{w:World}{e:Env}{a:Act}{s c d:SV}
theorem jZ{xs ys:List SV}{vs ws:Array Value}(h:gL w F ρ xs vs)(h':gL w F ρ ys ws):gL w F ρ (xs++ys) (vs++ws):=by
 refine⟨by simp[h.1,h'.1],fun j c v hc hv=>?_⟩
 rw[acf]at hc
 rw[Array.getElem?_append]at hv
 rw[h.1]at hc
 split at hc
 ·rename_i hlt
  rw[if_pos hlt]at hv
  exact h.2 j c v hc hv
 ·rename_i hlt
  rw[if_neg hlt]at hv
  exact h'.2 _ c v hc hv
theorem gH{o:Oper}{op:lr}(h:oI C.P o.op=some op):∀c,o.op≠.defer c:=by
 intro c hc
 rw[hc]at h
 simp[oI]at h
theorem qH{P:Program}{o:Op}{f:bZ}{xs:List bZ}(h:oI P o=some (.call f xs)):∃c,o=.call c∧oZ P c=some (.call f xs):=by
 unfold oI at h
 split at h
 case h_23 c=>exact⟨c,rfl,h⟩
 all_goals (repeat' split at h)
 all_goals (first|(cases h;done)|(obtain⟨_,_,h2⟩:=mK h;cases h2;done)|(simp[aaW,cond_eq_ite]at h;done)|(simp only[cond_eq_ite]at h;repeat' split at h;all_goals (first|(cases h;done)|(simp[aaW]at h;done))))
theorem Ez{P:Program}{o:Op}{f:FuncId}{m:Nat}{xs:List bZ}(h:oI P o=some (.eK f m xs)):False:=by
 unfold oI at h
 split at h
 case h_23 c=>
  unfold oZ at h
  repeat' split at h
  all_goals (first|(cases h;done)|(simp[aaW,cond_eq_ite]at h;done)|(repeat' split at h) )
  all_goals (first|(cases h;done)|(simp[aaW,cond_eq_ite]at h;done))
 all_goals (repeat' split at h)
 all_goals (first|(cases h;done)|(obtain⟨_,_,h2⟩:=mK h;cases h2;done)|(simp[aaW,cond_eq_ite]at h;done)|(simp only[cond_eq_ite]at h;repeat' split at h;all_goals (first|(cases h;done)|(simp[aaW]at h;done))))
theorem Dn{P:Program}{o:Op}{f:FuncId}{xs:List bZ}(h:oI P o=some (.iD f xs)):False:=by
 unfold oI at h
 split at h
 case h_23 c=>
  unfold oZ at h
  repeat' split at h
  all_goals (first|(cases h;done)|(simp[aaW,cond_eq_ite]at h;done)|(repeat' split at h) )
  all_goals (first|(cases h;done)|(simp[aaW,cond_eq_ite]at h;done))
 all_goals (repeat' split at h)
 all_goals (first|(cases h;done)|(obtain⟨_,_,h2⟩:=mK h;cases h2;done)|(simp[aaW,cond_eq_ite]at h;done)|(simp only[cond_eq_ite]at h;repeat' split at h;all_goals (first|(cases h;done)|(simp[aaW]at h;done))))
theorem lT{P:Program}{c:Call}{f:bZ}{xs:List bZ}(h:oZ P c=some (.call f xs)):∃g,c.callee=.value g∧bC g=some f∧je c.args=some xs:=by
 unfold oZ at h
 split at h
 ·rename_i g hg
  split at h
  ·rename_i f' xs' h1 h2
   cases h
   exact⟨g,hg,h1,h2⟩
  ·cases h
 ·cases h
 ·exfalso
  repeat' split at h
  all_goals (first|(cases h;done)|(simp[aaW,cond_eq_ite]at h;done)|(repeat' split at h) )
  all_goals (first|(cases h;done)|(simp[aaW,cond_eq_ite]at h;done))
theorem Cs{rec:Rec}(hrec:fF C rec){o:Oper}{f:FuncId}{m:Nat}{xs:List bZ}(ef:oI C.P o.op=some (.call (.c (.fn f [])) xs))(hs:rec (.qX f) (xs.map (ev e)) H=some (s,H'))(hr:HR C ρ F H w)(he:ER w F ρ e a.tmps)
 {ro:Option Nat} {n:Nat} {K:Act→World→Prop} {Q:Exit→Act→World→Prop} (hK:∀val w',dF C ρ F H w s H' val w'→K (a.put o.dst val) w'):o.wpIn (WF ro) n C.P a w K Q:=by
 refine⟨fun _ _=>trivial,?_⟩
 rw[Oper.semAt_eq _ _ _ (gH ef)]
 obtain⟨c,ho,hcc⟩:=qH ef
 obtain⟨g,hg,hf,hxs⟩:=lT hcc
 obtain⟨hn,hv⟩:=iH hxs he
 have hargs:gL w F ρ (xs.map (ev e)) (c.args.map a.eval):=⟨by simpa using hn,hv⟩
 have hgv:=bc hf he
 simp only[ev]at hgv
 have hx0:execOp a.eval o=(do let d←Deferred.ofValue (a.eval g) (c.args.map a.eval);invoke d.target d.args):=by
  simp only[execOp,ho,resolve,hg]
 generalize hgval:a.eval g=gv at *
 cases hgv with
 |fn hn2 hv2=>
  rename_i vs
  have hvs:vs= #[]:=ac1 (by simpa using hn2.symm)
  subst hvs
  obtain⟨h1,h2⟩:=hrec.TJ _ _ _ _ _ hs ρ F w _ hr hargs
  rw[hx0]
  have hx:(do let d←Deferred.ofValue (Value.func (.func f) #[] #[]) (c.args.map a.eval);invoke d.target d.args:Sem Next)=callFunc f (c.args.map a.eval):=by
   simp[Deferred.ofValue,invoke]
  rw[hx,h1]
  refine⟨fun h=>by simp at h,CallsIn.mono (h2 _) (fun e' w' he'=>?_)⟩
  obtain⟨val,rfl,hd⟩:=he'
  exact hK val w' hd
theorem Bn{rec:Rec}(hrec:fF C rec){o:Oper}{op:lr}(ef:oI C.P o.op=some op)(hs:az rec e H op=some (s,H'))(hr:HR C ρ F H w)(he:ER w F ρ e a.tmps)
 {ro:Option Nat} {n:Nat} {K:Act→World→Prop} {Q:Exit→Act→World→Prop} (hK:∀val w',dF C ρ F H w s H' val w'→K (a.put o.dst val) w'):o.wpIn (WF ro) n C.P a w K Q:=by
 refine⟨fun _ _=>trivial,?_⟩
 rw[Oper.semAt_eq _ _ _ (gH ef)]
 by_cases hc:∃f xs,op=.call f xs
 ·obtain⟨f,xs,rfl⟩:=hc
  obtain⟨c,ho,hcc⟩:=qH ef
  obtain⟨g,hg,hf,hxs⟩:=lT hcc
  obtain⟨hn,hv⟩:=iH hxs he
  have hargs:gL w F ρ (xs.map (ev e)) (c.args.map a.eval):=⟨by simpa using hn,hv⟩
  have hgv:=bc hf he
  simp only[az]at hs
  unfold kE at hs
  have key:∀(S:Sem Next),(execOp a.eval o)=(do let d←Deferred.ofValue (a.eval g) (c.args.map a.eval);invoke d.target d.args):=fun _=>by
   simp only[execOp,ho,resolve,hg]
  split at hs
  ·rename_i f' cs hfn
   rw[hfn]at hgv
   generalize hgval:a.eval g=gv at *
   cases hgv with
   |fn hn2 hv2=>
    rename_i vs
    have ha:=jZ hargs ⟨hn2,hv2⟩
    obtain⟨h1,h2⟩:=hrec.call _ _ _ _ _ hs ρ F w _ hr ha
    rw[key (execOp a.eval o)]
    have hx:(do let d←Deferred.ofValue (Value.func (.func f') #[] vs) (c.args.map a.eval);invoke d.target d.args:Sem Next)=callFunc f' (c.args.map a.eval++vs):=by
     simp[Deferred.ofValue,invoke]
    rw[hx,h1]
    refine⟨fun h=>by simp at h,CallsIn.mono (h2 _) (fun e' w' he'=>?_)⟩
    obtain⟨val,rfl,hd⟩:=he'
    exact hK val w' hd
  ·rename_i f' cs hfn
   rw[hfn]at hgv
   generalize hgval:a.eval g=gv at *
   cases hgv with
   |oX hn2 hv2=>
    rename_i vs
    have ha:=jZ ⟨hn2,hv2⟩ hargs
    obtain⟨h1,h2⟩:=hrec.call _ _ _ _ _ hs ρ F w _ hr ha
    rw[key (execOp a.eval o)]
    have hx:(do let d←Deferred.ofValue (Value.func (.func f') vs #[]) (c.args.map a.eval);invoke d.target d.args:Sem Next)=callFunc f' (vs++c.args.map a.eval):=by
     simp[Deferred.ofValue,invoke]
    rw[hx,h1]
    refine⟨fun h=>by simp at h,CallsIn.mono (h2 _) (fun e' w' he'=>?_)⟩
    obtain⟨val,rfl,hd⟩:=he'
    exact hK val w' hd
  ·rename_i b hfn
   rw[hfn]at hgv
   generalize hgval:a.eval g=gv at *
   cases hgv with
   |fA h ha=>
    rename_i l
    obtain⟨f',tmps,as1,bd,h1,h2⟩:=hrec.fA _ _ _ _ _ hs ρ F w _ l hr hargs h
    rw[key (execOp a.eval o)]
    have hx:(do let d←Deferred.ofValue (Value.func (.yield l.cp) #[] #[]) (c.args.map a.eval);invoke d.target d.args:Sem Next)=Instr.yield l.cp (c.args.map a.eval):=by
     simp[Deferred.ofValue,invoke]
    rw[hx,h1]
    refine⟨fun h=>by simp at h,RoundIn.mono (h2 _) (fun e' w' he'=>?_)⟩
    obtain⟨val,rfl,hd⟩:=he'
    exact hK val w' hd
  ·cases hs
 ·have hs':cf e H op=some (s,H'):=by
   unfold az at hs
   split at hs
   ·exact absurd ⟨_,_,rfl⟩ hc
   ·rename_i f m xs
    exfalso
    exact Ez ef
   ·rename_i f xs
    exfalso
    exact Dn ef
   ·exact hs
  obtain⟨val,w',h1,h2⟩:=CJ ef hr he hs'
  rcases h1 with h1|⟨h1,rfl⟩
  ·rw[h1];exact hK _ _ h2
  ·rw[h1];exact hK _ _ h2
end
end
end Go.Sh
