/- A part of the proof: texts ShA, ShB, ShC, ShD, ShE, ShF, ShG, ShH, ShI, ShJ, ShK, ShL, ShM, ShN, ShO, ShP, ShQ, ShR, ShRa, ShRb, ShRc, ShRd, ShS, ShT. -/
import GoSem.Step
import Derived.Attr
import Derived.RangeFuncLeaves
import Derived.RangeFuncCalls
import Derived.Laws.Sem
import Derived.Laws.Cells
import Derived.Laws.Entries
import Derived.ChangeKeysEq
import Derived.Laws.StructEq
import Derived.Laws.Append
import Derived.MapKept
namespace Go.Sh
set_option linter.unusedSectionVars false
set_option linter.unnecessarySimpa false
set_option linter.unusedSimpArgs false
set_option linter.unusedVariables false
set_option maxRecDepth 100000
set_option maxHeartbeats 4000000
section
abbrev acm:=@List.getElem?_eq_some_iff
abbrev acn:=@List.length_append
abbrev aco:=@List.append_assoc
abbrev acp:=@decide_eq_true
abbrev acq:=@Option.map_eq_some_iff
abbrev acr:=@decide_eq_true_eq
abbrev acs:=@decide_eq_false
abbrev acu:=@Option.bind_eq_some_iff
abbrev acv:=@List.getElem?_set_ne
abbrev acw:=@Bool.and_eq_true
abbrev acx:=@decide_eq_false_iff_not
abbrev acy:=@List.mem_of_getElem?
abbrev acz:=@Nat.lt_or_ge
abbrev acD:=@Nat.add_assoc
abbrev acF:=@List.getElem?_append_left
abbrev acG:=@cond_true
abbrev acH:=@Nat.le_refl
abbrev acI:=@List.filter_replicate
abbrev acJ:=@cond_false
abbrev acK:=@List.getElem?_eq_getElem
abbrev acL:=@Int.toNat_of_nonneg
abbrev acM:=@List.getElem?_set_self
abbrev acN:=@Option.some.injEq
abbrev acO:=@List.filter_append
abbrev acP:=@List.all_replicate
abbrev acQ:=@of_decide_eq_true
abbrev acR:=@List.length_cons
abbrev acU:=@List.length_set
abbrev acV:=@List.length_nil
abbrev acW:=@Bool.and_self
abbrev acX:=@List.getElem?_take
abbrev acY:=@Prod.mk.injEq
abbrev acZ:=@List.all_eq_true
abbrev ac1:=@List.take_of_length_le
abbrev ac2:=@List.mem_range
abbrev ac3:=@Bool.false_and
abbrev ac4:=@List.getElem?_of_mem
abbrev ac5:=@List.mem_cons_self
abbrev ac6:=@Array.getElem?_eq_some_iff
abbrev ac7:=@Nat.le_trans
abbrev ac8:=@Bool.not_eq_true'
abbrev ac9:=@Bool.true_and
abbrev ada:=@List.map_cons
abbrev adb:=@List.all_append
abbrev ade:=@List.mem_cons_of_mem
abbrev adf:=@List.getElem?_append_right
abbrev adg:=@List.getD_eq_getElem?_getD
abbrev adh:=@Bool.false_eq_true
abbrev adi:=@of_decide_eq_false
abbrev adj:=@List.mem_cons
abbrev adk:=@Bool.and_false
abbrev adl:=@Int.toNat_natCast
abbrev adm:=@Option.map_some
abbrev adn:=@List.append_nil
abbrev ado:=@List.getElem?_drop
abbrev adp:=@Bool.not_true
abbrev adq:=@Option.bind_some
abbrev adr:=@Nat.zero_add
abbrev adt:=@List.mem_map
abbrev adu:=@List.nil_append
abbrev adv:=@Array.getElem?_setIfInBounds_ne
abbrev adw:=@Bool.or_eq_true
abbrev adx:=@List.pairwise_cons
abbrev ady:=@List.mem_append
abbrev adz:=@Bool.eq_iff_iff
abbrev adA:=@List.length_take
abbrev adB:=@List.foldl_cons
abbrev adC:=@List.take_append_drop
abbrev adD:=@Array.getElem?_eq_getElem
abbrev adE:=@List.cons_append
abbrev adF:=@List.take_length
abbrev adG:=@Nat.mul_le_mul_right
abbrev adH:=@List.mem_singleton
abbrev adI:=@Nat.add_mul
abbrev adJ:=@Nat.lt_of_lt_of_le
abbrev adK:=@beq_iff_eq
abbrev adL:=@beq_self_eq_true
abbrev adM:=@Nat.min_eq_left
abbrev adN:=@Array.getD_eq_getD_getElem?
abbrev adO:=@List.mem_filter
abbrev adP:=@List.take_add_one
abbrev adQ:=@Int.mul_le_mul_of_nonneg_left
abbrev adR:=@List.eq_nil_of_length_eq_zero
abbrev adS:=@List.getElem?_eq_none
abbrev adT:=@List.any_eq_true
abbrev adU:=@Bool.not_false
abbrev adV:=@List.getElem?_append
abbrev adW:=@List.mem_append_left
abbrev adX:=@List.getElem?_replicate
abbrev adY:=@Int.tmod_eq_emod_of_nonneg
abbrev adZ:=@List.set_append_left
abbrev ad0:=@Bool.false_or
abbrev ad1:=@List.drop_eq_getElem_cons
abbrev ad2:=@List.getElem?_map
abbrev ad3:=@Option.getD_some
abbrev ad4:=@Int.tdiv_eq_ediv_of_nonneg
abbrev ad5:=@List.filter_cons
abbrev ad6:=@List.pairwise_append
abbrev ad7:=@Nat.lt_trichotomy
abbrev ad8:=@List.nodup_append
abbrev ad9:=@Nat.add_zero
abbrev aea:=@beq_eq_false_iff_ne
abbrev aeb:=@List.drop_of_length_le
abbrev aec:=@Bool.and_eq_false_iff
abbrev aed:=@Int.eq_ofNat_of_zero_le
abbrev aee:=@List.nodup_cons
abbrev aef:=@Classical.byContradiction
abbrev aeg:=@decide_eq_decide
abbrev aeh:=@Array.getElem?_push
abbrev aei:=@Nat.zero_le
abbrev aej:=@List.replicate_zero
abbrev aek:=@List.replicate_succ
abbrev ael:=@Nat.ne_of_lt
abbrev aem:=@List.getElem?_toArray
abbrev aen:=@List.ext_getElem?
abbrev aeo:=@Option.some.inj
abbrev aep:=@Nat.one_mul
abbrev aeq:=@Bool.and_true
abbrev aer:=@Bool.or_false
abbrev aes:=@Nat.le_of_eq
abbrev aet:=@List.length_eq_one_iff
abbrev aeu:=@List.getElem?_range
abbrev aev:=@List.drop_zero
abbrev aew:=@Array.eq_empty_of_size_eq_zero
abbrev aex:=@List.mem_append_right
abbrev aey:=@List.singleton_append
abbrev aez:=@Nat.max_zero
abbrev aeA:=@Bool.or_self
abbrev aeB:=@Bool.not_eq_true
abbrev aeC:=@List.take_append_of_le_length
abbrev aeD:=@Bool.and_eq_true_iff
abbrev aeE:=@List.getElem?_cons_succ
abbrev aeF:=@List.filter_cons_of_pos
abbrev aeG:=@Array.length_toList
abbrev aeH:=@Int.le_refl
abbrev aeI:=@Int.fdiv_eq_ediv_of_nonneg
abbrev aeJ:=@List.mem_iff_getElem?
abbrev aeK:=@List.map_nil
abbrev aeL:=@Nat.lt_irrefl
abbrev aeM:=@Bool.true_or
abbrev aeN:=@Int.emod_lt_of_pos
abbrev aeO:=@List.mem_replicate
abbrev aeP:=@List.pairwise_iff_getElem
abbrev aeQ:=@List.exists_mem_of_ne_nil
abbrev aeR:=@Nat.pow_le_pow_right
abbrev aeS:=@decide_false
abbrev aeT:=@Bool.or_true
abbrev aeU:=@List.set_set
abbrev aeV:=@List.take_zero
abbrev aeW:=@Array.getElem?_eq_none
abbrev aeX:=@Array.ext_getElem?
abbrev aeY:=@Bool.not_eq_false'
abbrev aeZ:=@Option.isSome_some
abbrev ae0:=@Option.map_none
abbrev ae1:=@Nat.zero_mul
abbrev ae2:=@Classical.choose_spec
abbrev ae3:=@Int.emod_nonneg
abbrev ae4:=@BitVec.xor_zero
abbrev ae5:=@List.length_filter_le
abbrev ae6:=@List.getElem?_set
abbrev ae7:=@Array.getElem?_append_left
abbrev ae8:=@BitVec.getLsbD_ushiftRight
abbrev ae9:=@List.getElem?_mapIdx
abbrev afa:=@List.mem_of_mem_take
abbrev afb:=@List.getElem?_eq_none_iff
abbrev afc:=@List.mem_flatten
abbrev afd:=@List.map_toArray
abbrev afe:=@Nat.sub_self
abbrev aff:=@BitVec.getLsbD_shiftLeft
abbrev afg:=@Nat.zero_max
abbrev afh:=@List.length_map
abbrev afi:=@Nat.add_sub_cancel
abbrev afj:=@List.any_cons
abbrev afk:=@Nat.add_sub_cancel_left
abbrev afl:=@Int.natCast_pow
abbrev afm:=@BitVec.toNat_ofInt
abbrev afn:=@Array.getElem?_extract
abbrev afo:=@Nat.mod_lt
abbrev afp:=@List.flatten_cons
abbrev afq:=@List.reverse_cons
abbrev afr:=@List.length_range
abbrev afs:=@Bool.eq_false_iff
abbrev aft:=@List.nodup_nil
abbrev afu:=@List.take_left
abbrev afv:=@Array.getElem?_toList
abbrev afw:=@Array.getElem?_modify
abbrev afx:=@Nat.mul_comm
abbrev afy:=@Int.mul_comm
abbrev afz:=@List.eq_nil_or_concat
abbrev afA:=@List.set_append_right
abbrev afB:=@List.nodup_range
abbrev afC:=@List.length_drop
abbrev afD:=@List.range_eq_range'
abbrev afE:=@List.mem_of_mem_drop
abbrev afF:=@Int.ofNat.inj
abbrev afG:=@List.length_pos_iff
abbrev afH:=@List.cons.injEq
abbrev afI:=@List.take_succ_cons
abbrev afJ:=@BitVec.xor_self
abbrev afK:=@Nat.lt_or_gt_of_ne
abbrev afL:=@List.set_cons_zero
abbrev afM:=@Int.cast_ofNat_Int
abbrev afN:=@Option.isSome_none
abbrev afO:=@List.map_set
abbrev afP:=@Nat.mul_le_mul
abbrev afQ:=@Int.mul_nonneg
abbrev afR:=@UInt8.toNat_lt
abbrev afS:=@List.drop_left
abbrev afT:=@List.foldl_append
abbrev afU:=@List.foldlM_cons
abbrev afV:=@Nat.mod_eq_of_lt
abbrev afW:=@BitVec.toNat_and
abbrev afX:=@Int.natCast_zero
abbrev afY:=@List.not_mem_nil
abbrev afZ:=@Nat.add_comm
abbrev af0:=@Int.le_trans
abbrev af1:=@List.any_map
abbrev af2:=@Int.natCast_mul
abbrev af3:=@Bool.and_assoc
abbrev af4:=@List.foldl_nil
inductive SV where
 |undef
 |jy
 |bool (b:Bool)
 |int (k:IntKind) (n:Int)
 |str (s:ByteArray)
 |dj
 |ptr (b cC i o:Nat)
 |fY (cs:List SV)
 |ao (z:Nat) (L:List (List SV)) (full:Bool)
 |bn (b cC off len:Nat)
 |agg (cs:List SV)
 |bc (vs:List SV)
 |fn (f:FuncId) (caps:List SV)
 |pO (f:FuncId) (firsts:List SV)
 |dy
 |fP (b:Nat)
 |mp (b:Nat)
 deriving Inhabited
inductive bX where
 |t (n:Nat)
 |c (v:SV)
inductive LK where|b|i|s
inductive NK where|p|f|s
inductive mi where
 |dY (x:bX)
 |pick (c a b:bX)
 |box (x:bX)
 |alloc (z:List SV)
 |o7 (z:Nat)
 |build (z:List SV) (ps:List (Nat×Nat×bX))
 |gl (bP:Nat) (z:List SV) (n:Nat) (ps:List (Nat×bX))
 |dT (bP:Nat) (z:List SV) (n:Nat) (ps:List (Nat×bX))
 |load (ag:Bool) (n:Nat) (a:bX)
 |store (n:Nat) (a x:bX)
 |eh (x:bX)
 |bin (op:BinOp) (x y:bX)
 |rF (op:BinOp) (x y:bX)
 |dU (neg:Bool) (sh:List LK) (x y:bX)
 |dI (x:bX)
 |isNil (k:NK) (neg:Bool) (x:bX)
 |vt (x:bX)
 |cB (k:IntKind) (x:bX)
 |sP (x:bX)
 |jM (x:bX)
 |rS (x:bX)
 |iL (f:FuncId) (cs:List bX)
 |mB (f:FuncId) (cs:List bX)
 |eO (bP:Nat) (z:List SV) (bytes:Nat) (l c:bX)
 |eV (bP:Nat) (x:bX) (lo hi mx:Option bX)
 |o0 (x:bX) (lo hi:Option bX)
 |af (off:Nat) (x:bX)
 |field (ag:Bool) (n off:Nat) (x:bX)
 |bw (bP:Nat) (x ix:bX)
 |gP (len bP:Nat) (x ix:bX)
 |o8 (ag:Bool) (n len:Nat) (x ix:bX)
 |gk (x ix:bX)
 |extract (x:bX) (i:Nat)
 |len (x:bX)
 |fO (x:bX)
 |A7 (n:Nat)
 |jb (xs:List bX)
 |mh (xs:List bX)
 |append (bP bytes:Nat) (s x:bX)
 |qe (s x:bX)
 |copy (bP:Nat) (d x:bX)
 |clear (bP:Nat) (z:List SV) (x:bX)
 |oD
 |nZ (t:LK) (x k v:bX)
 |kD (t:LK) (ok:Bool) (z:SV) (x k:bX)
 |call (f:bX) (xs:List bX)
 |eL (f:FuncId) (n:Nat) (xs:List bX)
 |lu (f:FuncId) (xs:List bX)
 |bad
inductive DK where|pure|gU|j6|wr (rd:List (bX×Nat))
structure bH where
 kind:DK
 fB:List Nat
 xO:Nat
 kT:Nat
structure aL where
 dst:Option Nat
 op:mi
 g:Option (Nat×Bool)
structure cu where
 live:List Nat
 bC:List (Nat×Nat)
inductive mA where|normal|exit (id:Nat)|ret
inductive ct where
 |skip
 |ops (l:List aL)
 |drawn (l:List (aL×bH))
 |perm (l:List aL) (os:List (List Nat))
 |seq (a b:ct)
 |cond (c:bX) (a b:ct)
 |block (id:Nat) (a:ct)
 |loop (p:cu) (a:ct)
 |freeze (t:Nat)
 |bC (vs:List (Nat×Nat))
 |G6 (d:Nat) (neg:Bool) (x:bX) (c:ct)
 |iE (f:bX) (ps:List Nat) (assign body:ct)
 |ext (k:Nat)
 |exit (id:Nat)
 |ret
abbrev Env:=List (Nat×SV)
structure fj where
 env:Env
 ps:List Nat
 assign:ct
 body:ct
inductive aC where
 |dead
 |box (cs:List SV)
 |arr (cC z:Nat) (L:List (List SV)) (exact:Bool)
 |loop (r:fj) (st:LoopState) (pend:mA)
 |map (es:List (SV×SV))
structure ab where
 bl:List aC
 bT:List (Nat×Nat)
 ro:Nat
inductive QH where|fn (f:FuncId)|fP (b:Nat)|se (f:FuncId)
abbrev Rec:=QH→List SV→ab→Option (SV×ab)
inductive wL where|tmp (t:Nat)|cell (t:Nat)(ag:Bool)(n:Nat)
structure aB where
 res:List wL
 body:ct
 keep:Bool
def SV.je:SV→Bool
 | .undef=>false
 | .jy=>false
 | .agg _=>false
 | .bc _=>false
 |_=>true
def cq:SV→Option (List SV)
 | .agg cs=>some cs
 |v=>bif v.je then some [v]else none
def SV.refs:SV→Nat
 | .ptr b _ _ _=>b+1
 | .bn b _ _ _=>b+1
 | .fP b=>b+1
 | .mp b=>b+1
 | .agg cs=>av cs
 | .bc cs=>av cs
 | .fn _ cs=>av cs
 | .pO _ cs=>av cs
 |_=>0
where av:List SV→Nat
 |[]=>0
 |v::vs=>max v.refs (av vs)
def get:Env→Nat→SV
 |[],_=>.undef
 |(j,v)::e,i=>bif i==j then v else get e i
def ev(e:Env):bX→SV
 | .t n=>get e n
 | .c v=>v
def bk(H:ab)(b:Nat):Option aC:=H.bl[b]?
def ca(H:ab)(b:Nat)(x:aC)(refs:Nat):Option ab:=
 bif decide (H.ro≤b)&&decide (b<H.bl.length)then some {H with bl:=H.bl.set b x,bT:=bif decide (refs≤b+1)then H.bT else(b,refs)::H.bT} else none
def bJ(H:ab)(x:aC):ab:={H with bl:=H.bl++[x]}
def nq(z:Nat)(H:ab):SV→Option (List (List SV))
 | .ao z' L _=>bif z'==z||L.isEmpty then some L else none
 | .bn b v off n=>match bk H b with
   |some (.arr v' z' L _)=>bif v==v'&&z'==z&&decide (off+n≤L.length)then some ((L.drop off).take n)else none
   |_=>none
 |_=>none
def pY:SV→Option Nat
 | .ao _ L _=>some L.length
 | .bn _ _ _ n=>some n
 |_=>none
def dc(ag:Bool)(n:Nat)(cs:List SV)(o:Nat):Option SV:=
 bif ag then(bif decide (o+n≤cs.length)then some (.agg ((cs.drop o).take n))else none)else cs[o]?
def fJ(cs:List SV)(o n:Nat)(x:List SV):List SV:=cs.take o++x++cs.drop (o+n)
def ld:SV→SV→SV→Option SV
 | .bool t,.bool x,.bool y=>some (.bool (bif t then x else y))
 | .bool t,x,y=>bif t then some x else some y
 |_,_,_=>none
def ir(ev:bX→SV):List SV→List (Nat×Nat×bX)→Option (List SV)
 |z,[]=>some z
 |z,(off,n,x)::ps=>
  (cq (ev x)).bind fun cs=>bif cs.length==n&&decide (off+n≤z.length)then ir ev (fJ z off n cs) ps else none
def fc(ev:bX→SV)(bP:Nat):List (List SV)→List (Nat×bX)→Option (List (List SV))
 |z,[]=>some z
 |z,(i,x)::ps=>(cq (ev x)).bind fun cs=>bif cs.length==bP&&decide (i<z.length)then fc ev bP (z.set i cs) ps else none
def dg(ag:Bool)(n:Nat)(H:ab):SV→Option SV
 | .ptr b v i o=>match bk H b with
   |some (.box cs)=>bif i==0 then dc ag n cs o else none
   |some (.arr v' _ L _)=>bif v==v' then match L[i]? with
    |some cs=>dc ag n cs o
    |none=>none else none
   |_=>none
 | .fY cs=>dc ag n cs 0
 |_=>none
def ej(n:Nat)(H:ab)(x:SV):SV→Option ab
 | .ptr b v i o=>(cq x).bind fun xs=>bif xs.length==n then match bk H b with
   |some (.box cs)=>bif i==0&&decide (o+n≤cs.length)then ca H b (.box (fJ cs o n xs)) x.refs else none
   |some (.arr v' z L e)=>bif v==v' then match L[i]? with
    |some cs=>bif decide (o+n≤cs.length)then ca H b (.arr v z (L.set i (fJ cs o n xs)) e) x.refs else none
    |none=>none else none
   |_=>none else none
 |_=>none
def cW:BinOp→SV→SV→Option SV
 | .add,.int k a,.int k2 b=>bif k==k2 then some (.int k (k.wrap (a+b)))else none
 | .sub,.int k a,.int k2 b=>bif k==k2 then some (.int k (k.wrap (a-b)))else none
 | .mul,.int k a,.int k2 b=>bif k==k2 then some (.int k (k.wrap (a*b)))else none
 | .quo,.int k a,.int k2 b=>bif k==k2&&!decide (b=0)then some (.int k (k.wrap (a.tdiv b)))else none
 | .rem,.int k a,.int k2 b=>bif k==k2&&!decide (b=0)then some (.int k (a.tmod b))else none
 | .and,.int k a,.int k2 b=>bif k==k2 then some (.int k (k.wrap ((BitVec.ofInt k.bits a&&&BitVec.ofInt k.bits b).toNat)))else none
 | .or,.int k a,.int k2 b=>bif k==k2 then some (.int k (k.wrap ((BitVec.ofInt k.bits a|||BitVec.ofInt k.bits b).toNat)))else none
 | .xor,.int k a,.int k2 b=>bif k==k2 then some (.int k (k.wrap ((BitVec.ofInt k.bits a ^^^ BitVec.ofInt k.bits b).toNat)))else none
 | .shl,.int k a,.int _ b=>bif decide (0≤b)then some (.int k (k.wrap (a*2 ^ (min b.toNat k.bits))))else none
 | .shr,.int k a,.int _ b=>bif decide (0≤b)then some (.int k (a.fdiv (2 ^ (min b.toNat k.bits))))else none
 | .lss,.int k a,.int k2 b=>bif k==k2 then some (.bool (decide (a<b)))else none
 | .leq,.int k a,.int k2 b=>bif k==k2 then some (.bool (decide (a≤b)))else none
 | .gtr,.int k a,.int k2 b=>bif k==k2 then some (.bool (decide (b<a)))else none
 | .geq,.int k a,.int k2 b=>bif k==k2 then some (.bool (decide (b≤a)))else none
 | .eql,.int k a,.int k2 b=>bif k==k2 then some (.bool (decide (a=b)))else none
 | .neq,.int k a,.int k2 b=>bif k==k2 then some (.bool (!decide (a=b)))else none
 | .eql,.str a,.str b=>some (.bool (decide (a=b)))
 | .neq,.str a,.str b=>some (.bool (!decide (a=b)))
 | .add,.str a,.str b=>bif decide (a.size+b.size≤4611686018427387904)then some (.str (a++b))else none
 |_,_,_=>none
def mH:BinOp→SV→SV→Option SV
 | .eql,.bool a,.bool b=>some (.bool (a==b))
 | .neq,.bool a,.bool b=>some (.bool (!(a==b)))
 |_,_,_=>none
def bz:List LK→List SV→List SV→Option Bool
 |[],[],[]=>some true
 | .i::sh,.int k a::x,.int k2 b::y=>bif k==k2 then(bz sh x y).map (fun r=>decide (a=b)&&r)else none
 | .b::sh,.bool a::x,.bool b::y=>(bz sh x y).map (fun r=>(a==b)&&r)
 | .s::sh,.str a::x,.str b::y=>(bz sh x y).map (fun r=>decide (a=b)&&r)
 |_,_,_=>none
def jG(n:Nat):SV→Option Nat
 | .int _ i=>bif decide (0≤i)&&decide (i<(n:Int))then some i.toNat else none
 |_=>none
def vJ(y:Nat):SV→Option Nat
 | .int _ i=>bif decide (0≤i)&&decide (i≤(y:Int))then some i.toNat else none
 |_=>none
def fC(y d:Nat):Option SV→Option Nat
 |none=>some d
 |some v=>vJ y v
def ja(v:SV)(ix:SV):Option SV:=match v with
 | .ao _ L _=>(jG L.length ix).bind fun i=>(L[i]?).map .fY
 | .bn b v off n=>(jG n ix).map fun i=>.ptr b v (off+i) 0
 |_=>none
def lj(x:SV)(lo hi mx:Option SV):Option SV:=match x with
 | .ao z L f=>(fC L.length L.length mx).bind fun m=>(fC m L.length hi).bind fun h=>(fC h 0 lo).map fun l=>
    .ao z ((L.take h).drop l) (match mx with|none=>f&&h==L.length|some _=>m==h)
 | .bn b v off n=>match mx with
   |none=>(fC n n hi).bind fun h=>(fC h 0 lo).map fun l=>.bn b v (off+l) (h-l)
   |some _=>(fC n n mx).bind fun m=>(fC m n hi).bind fun h=>(fC h 0 lo).bind fun l=>some (bif m==l then .ao 0 [] true else .undef)
 |_=>none
def gr(H:ab)(x:SV)(lo hi mx:Option SV):Option SV:=match x,hi,mx with
 | .bn b v off _,some hv,none=>match bk H b with
   |some (.arr _ _ L _)=>(vJ (L.length-off) hv).bind fun h=>(fC h 0 lo).map fun l=>.bn b v (off+l) (h-l)
   |_=>none
 |_,_,_=>none
def uE(s:ByteArray)(lo hi:Option SV):Option SV:=
 (fC s.size s.size hi).bind fun h=>(fC h 0 lo).map fun l=>.str (s.extract l h)
def foldI(f:Int→Int→Int):Int→IntKind→List SV→Option SV
 |a,k,[]=>some (.int k a)
 |a,k,.int k2 b::r=>bif k==k2 then foldI f (f a b) k r else none
 |_,_,_=>none
def kV(f:Int→Int→Int):List SV→Option SV
 | .int k a::r=>foldI f a k r
 |_=>none
def bV:Nat:=1099511627776
def gZ(bP bytes:Nat)(H:ab)(s:SV)(X:List (List SV)):Option (SV×ab):=match s with
 | .ao z L f=>bif decide ((L.length+X.length)*bytes≤bV)then match L,X with
   |[],X=>bif f then some (.bn H.bl.length 0 0 X.length,bJ H (.arr 0 bP X false))else none
   |L,[]=>some (.ao z L f,H)
   |L,X=>bif f&&z==bP then some (.bn H.bl.length 0 0 (L.length+X.length),bJ H (.arr 0 bP (L++X) false))else none else none
 | .bn b v off n=>bif decide ((n+X.length)*bytes≤bV)then match bk H b with
   |some (.arr v' z L e)=>bif v==v'&&z==bP&&decide (off+n≤L.length)then
     bif !e&&off==0&&n==L.length then
      (ca H b (.arr (v+1) z (L++X) false) (SV.refs.av X.flatten)).map fun H=>(.bn b (v+1) off (n+X.length),H)
     else bif decide (off+n+X.length≤L.length)then
      (ca H b (.arr v z (L.take (off+n)++X++L.drop (off+n+X.length)) e) (SV.refs.av X.flatten)).map fun H=>(.bn b v off (n+X.length),H)
     else bif e then some (.bn H.bl.length 0 0 (n+X.length),bJ H (.arr 0 z ((L.drop off).take n++X) false))
     else none
    else none
   |_=>none else none
 |_=>none
def mW(s:ByteArray):List (List SV):=s.data.toList.map fun b=>[.int .u8 b.toNat]
def toBytes:List (List SV)→Option (List UInt8)
 |[]=>some []
 |[.int .u8 n]::r=>(toBytes r).map fun l=>UInt8.ofNat n.toNat::l
 |_=>none
def DX(bP:Nat)(H:ab)(X:List (List SV)):SV→Option (SV×ab)
 | .bn b v off n=>match bk H b with
   |some (.arr v' z L e)=>bif v==v'&&z==bP&&decide (off+n≤L.length)then
     (ca H b (.arr v z (L.take off++X.take n++L.drop (off+min X.length n)) e) (SV.refs.av X.flatten)).map fun H=>(.int .i64 (min X.length n:Nat),H)
    else none
   |_=>none
 |_=>none
def oJ(bP:Nat)(z:List SV)(H:ab):SV→Option (SV×ab)
 | .ao _ [] _=>some (.undef,H)
 | .bn b v off n=>match bk H b with
   |some (.arr v' z' L e)=>bif v==v'&&z'==bP&&decide (off+n≤L.length)then
     (ca H b (.arr v z' (L.take off++List.replicate n z++L.drop (off+n)) e) 0).map fun H=>(.undef,H)
    else none
   |_=>none
 |_=>none
def kK(bP:Nat)(z:List SV)(bytes:Nat)(H:ab):SV→SV→Option (SV×ab)
 | .int .i64 l,.int .i64 c=>bif decide (0≤l)&&decide (l≤c)&&decide (c*bytes≤bV)then
    some (.bn H.bl.length 0 0 l.toNat,bJ H (.arr 0 bP (List.replicate c.toNat z) true))else none
 |_,_=>none
def fK(off:Nat):SV→Option SV
 | .ptr b v i o=>some (.ptr b v i (o+off))
 | .fY cs=>some (.fY (cs.drop off))
 |_=>none
def cur(H:ab):SV→Bool
 | .ptr b v _ _=>match bk H b with
   |some (.box _)=>true
   |some (.arr v' _ _ _)=>v==v'
   |_=>false
 | .bn b v _ _=>match bk H b with
   |some (.arr v' _ _ _)=>v==v'
   |_=>false
 |_=>true
def ew(H:ab)(z:Nat):SV→Bool
 | .bn b v _ _=>match bk H b with
   |some (.arr v' z' _ _)=>v==v'&&z'==z
   |_=>false
 | .ao z' L _=>z'==z||L.isEmpty
 |_=>false
def lZ:SV→Option SV
 | .ptr b v i o=>some (.ptr b v i o)
 | .fY cs=>some (.fY cs)
 |_=>none
def gg(H:ab):NK→SV→Option Bool
 | .p,.dj=>some true
 | .p,.ptr b v i o=>bif cur H (.ptr b v i o)then some false else none
 | .p,.fY _=>some false
 | .f,.dy=>some true
 | .f,.fn _ _=>some false
 | .f,.fP _=>some false
 | .s,.ao _ L _=>bif L.isEmpty then none else some false
 | .s,.bn b v off n=>bif cur H (.bn b v off n)&&decide (0<n)then some false else none
 |_,_=>none
def AT(H:ab):SV→Option Bool
 | .ao _ L _=>some L.isEmpty
 | .bn b v off n=>bif cur H (.bn b v off n)then some (n==0)else none
 |_=>none
def sH:LK→SV→SV→Option Bool
 | .i,.int k a,.int k' b=>bif k==k' then some (a==b)else none
 | .s,.str a,.str b=>some (a==b)
 | .b,.bool a,.bool b=>some (a==b)
 |_,_,_=>none
def gT(t:LK)(k:SV):List (SV×SV)→Nat→Option (Option (Nat×SV))
 |[],_=>some none
 |(q,v)::es,i=>(sH t k q).bind fun b=>bif b then some (some (i,v))else gT t k es (i+1)
def isKey:SV→Bool
 | .int _ _| .str _| .bool _=>true
 |_=>false
def yd(k v:SV)(es:List (SV×SV)):Option (Nat×SV)→List (SV×SV)
 |some (i,_)=>es.set i (k,v)
 |none=>es++[(k,v)]
def qI(t:LK)(H:ab)(k v:SV):SV→Option (SV×ab)
 | .mp b=>match bk H b with
   |some (.map es)=>bif isKey k&&v.je then(gT t k es 0).bind fun r=>(ca H b (.map (yd k v es r)) v.refs).map (.undef,·)else none
   |_=>none
 |_=>none
def jR(t:LK)(ok:Bool)(z:SV)(H:ab)(k:SV):SV→Option (SV×ab)
 | .mp b=>match bk H b with
   |some (.map es)=>bif isKey k then(gT t k es 0).map fun r=>(match r with
    |some (_,v)=>bif ok then .bc [v,.bool true]else v
    |none=>bif ok then .bc [z,.bool false]else z,H)else none
   |_=>none
 |_=>none
def cb(e:Env)(H:ab):mi→Option (SV×ab)
 | .dY x=>some (ev e x,H)
 | .pick c a b=>(ld (ev e c) (ev e a) (ev e b)).map (·,H)
 | .box x=>(cq (ev e x)).map fun cs=>(.ptr H.bl.length 0 0 0,bJ H (.box cs))
 | .alloc z=>some (.ptr H.bl.length 0 0 0,bJ H (.box z))
 | .o7 z=>(ca (bJ (bJ H (.arr 0 z [] false)) (.box [.ao 0 [] true])) (H.bl.length+1) (.box [.bn H.bl.length 0 0 0]) (H.bl.length+1)).map fun H'=>(.ptr (H.bl.length+1) 0 0 0,H')
 | .build z ps=>(ir (ev e) z ps).map (.agg ·,H)
 | .gl bP z n ps=>(fc (ev e) bP (List.replicate n z) ps).map fun L=>(.bn H.bl.length 0 0 n,bJ H (.arr 0 bP L true))
 | .dT bP z n ps=>((fc (ev e) bP (List.replicate n z) ps).bind fun L=>bif SV.refs.av L.flatten==0 then some (.ao bP L true)else none).map (·,H)
 | .load ag n a=>(dg ag n H (ev e a)).map (·,H)
 | .store n a x=>(ej n H (ev e x) (ev e a)).map (.undef,·)
 | .eh x=>bif cur H (ev e x)then(lZ (ev e x)).map (·,H)else none
 | .bin op x y=>(cW op (ev e x) (ev e y)).map (·,H)
 | .rF op x y=>(mH op (ev e x) (ev e y)).map (·,H)
 | .dU neg sh x y=>match ev e x,ev e y with
   | .agg a,.agg b=>(bz sh a b).map fun r=>(.bool (neg ^^ r),H)
   |_,_=>none
 | .dI x=>match ev e x with| .bool b=>some (.bool (!b),H)|_=>none
 | .isNil k neg x=>(gg H k (ev e x)).map fun b=>(.bool (neg ^^ b),H)
 | .vt x=>match ev e x with| .int k n=>some (.int k (k.wrap (0-n)),H)|_=>none
 | .cB k x=>match ev e x with| .int _ n=>some (.int k (k.wrap n),H)|_=>none
 | .sP x=>match ev e x with| .str s=>some (.str s,H)|_=>none
 | .jM x=>(nq 1 H (ev e x)).bind fun L=>(toBytes L).map fun l=>(.str ⟨l.toArray⟩,H)
 | .rS x=>match ev e x with| .str s=>some (.bn H.bl.length 0 0 s.size,bJ H (.arr 0 1 (mW s) false))|_=>none
 | .iL f cs=>some (.fn f (cs.map (ev e)),H)
 | .mB f cs=>some (.pO f (cs.map (ev e)),H)
 | .eO bP z bytes l c=>kK bP z bytes H (ev e l) (ev e c)
 | .eV bP x lo hi mx=>bif ew H bP (ev e x)then((lj (ev e x) (lo.map (ev e)) (hi.map (ev e)) (mx.map (ev e))).orElse fun _=>gr H (ev e x) (lo.map (ev e)) (hi.map (ev e)) (mx.map (ev e))).map (·,H)else none
 | .o0 x lo hi=>match ev e x with| .str s=>(uE s (lo.map (ev e)) (hi.map (ev e))).map (·,H)|_=>none
 | .af off x=>bif cur H (ev e x)then(fK off (ev e x)).map (·,H)else none
 | .field ag n off x=>match ev e x with| .agg cs=>(dc ag n cs off).map (·,H)|_=>none
 | .bw bP x ix=>bif ew H bP (ev e x)then(ja (ev e x) (ev e ix)).map (·,H)else none
 | .gP len bP x ix=>bif cur H (ev e x)then(jG len (ev e ix)).bind fun i=>(fK (i*bP) (ev e x)).map (·,H)else none
 | .o8 ag n len x ix=>match ev e x with| .agg cs=>(jG len (ev e ix)).bind fun i=>(dc ag n cs (i*n)).map (·,H)|_=>none
 | .gk x ix=>match ev e x with| .str s=>(jG s.size (ev e ix)).bind fun i=>(s.data[i]?).map fun b=>(.int .u8 b.toNat,H)|_=>none
 | .extract x i=>match ev e x with| .bc vs=>(vs[i]?).map (·,H)|_=>none
 | .len x=>bif cur H (ev e x)then(pY (ev e x)).map fun(n:Nat)=>(.int .i64 n,H)else none
 | .fO x=>match ev e x with| .str s=>some (.int .i64 s.size,H)|_=>none
 | .A7 n=>some (.int .i64 n,H)
 | .jb xs=>(kV (fun a b=>if b>a then b else a) (xs.map (ev e))).map (·,H)
 | .mh xs=>(kV (fun a b=>if b<a then b else a) (xs.map (ev e))).map (·,H)
 | .append bP bytes s x=>(nq bP H (ev e x)).bind (gZ bP bytes H (ev e s))
 | .qe s x=>match ev e x with| .str b=>gZ 1 1 H (ev e s) (mW b)|_=>none
 | .copy bP d x=>(nq bP H (ev e x)).bind fun X=>DX bP H X (ev e d)
 | .clear bP z x=>oJ bP z H (ev e x)
 | .oD=>some (.mp H.bl.length,bJ H (.map []))
 | .nZ t x k v=>qI t H (ev e k) (ev e v) (ev e x)
 | .kD t ok z x k=>jR t ok z H (ev e k) (ev e x)
 | .call _ _=>none
 | .eL _ _ _=>none
 | .lu _ _=>none
 | .bad=>none
abbrev oH{A:Type}(_:A):Type:=Unit
section
variable{R:Type}
def fork(b:Bool)(x y:R)(_:oH (x,y)):R:=bif b then x else y
def rW(v:SV)(f:Bool→Option R)(_:oH f):Option R:=match v with| .bool b=>f b|_=>none
def fI(v:SV)(w:Bool)(f:Bool→Option R)(_:oH f):Option R:=match v with| .bool b=>f (b==w)| .jy=>f false|_=>none
def aN{A:Type}(v:Option A)(f:A→Option R)(_:oH f):Option R:=match v with|some v=>f v|none=>none
open Classical in
noncomputable def qx (v:Option Bool) (neg:Bool) (f:Bool→Option R) (_:oH f):Option R:=match v with
 |none=>none
 |some false=>f neg
 |some true=>if f true=f false then f true else none
end
def cf(e:Env):Option Nat→SV→Env
 |none,_=>e
 |some d,v=>(d,v)::e
def kY(rec:Rec)(f:SV)(xs:List SV)(H:ab):Option (SV×ab):=match f with
 | .fn f cs=>rec (.fn f) (xs++cs) H
 | .pO f cs=>rec (.fn f) (cs++xs) H
 | .fP b=>rec (.fP b) xs H
 |_=>none
def pI(rec:Rec)(f:SV)(xs:List SV)(H:ab):Option (SV×ab):=match f with
 | .fn f cs=>rec (.fn f) (xs++cs) H
 |_=>none
def bR{A:Type}:List (Option A)→Option (List A)
 |[]=>some []
 |some a::r=>(bR r).map (a:: ·)
 |none::_=>none
def cG:Nat:=8
def ez(N:Nat)(H:ab):Nat→SV→Option SV
 |0,_=>none
 |d+1,v=>match v with
  | .agg cs=>(bR (cs.map (ez N H d))).map .agg
  | .bc cs=>(bR (cs.map (ez N H d))).map .bc
  | .bn b cC off n=>bif decide (b<N)then some v else match bk H b with
    |some (.arr ver' z L ex)=>bif cC==ver'&&decide (off+n≤L.length)then
      (bR (((L.drop off).take n).map fun cs=>bR (cs.map (ez N H d)))).bind fun L'=>
       bif SV.refs.av L'.flatten==0 then some (.ao z L' (ex&&off+n==L.length))else none
     else none
    |_=>none
  | .int k n=>some (.int k n)
  | .bool b=>some (.bool b)
  | .ao z L f=>some (.ao z L f)
  |v=>bif decide (v.refs≤N)then some v else none
def kg:SV→Bool
 | .int _ _| .bool _| .str _=>true
 |_=>false
def zn:SV→Bool
 | .bc vs=>vs.all kg
 | .agg vs=>vs.all kg
 |v=>kg v
def sX(rec:Rec)(f:FuncId)(xs:List SV)(H:ab):Option (SV×ab):=
 (bR (xs.map (ez 0 H cG))).bind fun vs=>(rec (.fn f) vs {bl:=[],bT:=[],ro:=0}).bind fun r=>bif zn r.1 then some (r.1,H)else none
def au(rec:Rec)(e:Env)(H:ab):mi→Option (SV×ab)
 | .call f xs=>kY rec (ev e f) (xs.map (ev e)) H
 | .eL f _ xs=>rec (.se f) (xs.map (ev e)) H
 | .lu f xs=>sX rec f (xs.map (ev e)) H
 |o=>cb e H o
def cg{R:Type}(rec:Rec):(l:List aL)→Env→ab→(k:Env→ab→Option R)→oH (l,k)→Option R
 |[],e,H,k,_=>k e H
 |o::os,e,H,k,_=>match o.g with
  |none=>aN (au rec e H o.op) (fun r=>cg rec os (cf e o.dst r.1) r.2 k ()) ()
  |some (t,w)=>fI (get e t) w (fun b=>fork b (aN (au rec e H o.op) (fun r=>cg rec os (cf e o.dst r.1) r.2 k ()) ())
    (cg rec os (cf e o.dst .jy) H k ()) ()) ()
def cE(N:Nat)(ds:List Nat)(l:List aC):List aC:=ds.foldl (fun l d=>l.set (N+d) .dead) l
def wM:SV→Nat→SV→Nat→Bool
 | .ptr b _ i o,m,.ptr b' _ i' o',n=>!(b==b')||!(i==i')||decide (o+m≤o')||decide (o'+n≤o)
 | .fY _,_,_,_=>true
 |_,_,_,_=>false
def Ga(N:Nat)(hs:List Nat):SV→Bool
 | .ptr b _ _ _=>hs.all fun m=>!(N+m==b)
 |_=>false
def yU(rec:Rec)(N:Nat)(rd:List (bX×Nat))(hs:List Nat)(e:Env)(H:ab):mi→Option (SV×ab)
 | .store n a x=>bif decide ((ev e x).refs≤N)&&Ga N hs (ev e a)&&rd.all (fun q=>wM (ev e q.1) q.2 (ev e a) n)then(ej n H (ev e x) (ev e a)).map (.undef,·)else none
 |_=>none
def b9(rec:Rec)(N:Nat)(d:bH)(e:Env)(H:ab)(o:mi):Option (SV×ab):=match d.kind with
 | .pure=>au rec e H o
 | .gU=>(au rec e H o).bind fun r=>bif decide (H.bl.length≤r.2.bl.length)then some r else none
 | .j6=>(au rec e {bl:=cE N d.fB H.bl,bT:=[],ro:=H.bl.length} o).bind fun r=>
    bif r.2.bl.length==H.bl.length+d.xO&&r.2.bT.isEmpty then some (r.1,{H with bl:=H.bl++r.2.bl.drop H.bl.length})else none
 | .wr rd=>yU rec N rd d.fB e H o
def fS(d:bH)(N:Nat)(H:ab):Nat:=match d.kind with
 | .gU=>H.bl.length
 |_=>N
def iZ(d:bH):Bool:=match d.kind with
 | .j6=>d.xO==0
 | .wr _=>false
 |_=>true
def bZ{R:Type}(rec:Rec):(l:List (aL×bH))→Nat→Env→ab→(k:Env→ab→Option R)→oH (l,k)→Option R
 |[],_,e,H,k,_=>k e H
 |(o,d)::os,N,e,H,k,_=>match o.g with
  |none=>aN (b9 rec N d e H o.op) (fun r=>bZ rec os (fS d N r.2) (cf e o.dst r.1) r.2 k ()) ()
  |some (t,w)=>fI (get e t) w (fun b=>fork b (aN (b9 rec N d e H o.op) (fun r=>bZ rec os (fS d N r.2) (cf e o.dst r.1) r.2 k ()) ())
    (bif iZ d then bZ rec os (fS d N H) (cf e o.dst .jy) H k ()else none) ()) ()
def eZ:List aL→Env→Env→Env
 |[],_,e0=>e0
 |⟨some d,_,_⟩::l,e,e0=>(d,get e d)::eZ l e e0
 |⟨none,_,_⟩::l,e,e0=>eZ l e e0
def zu:Option aL→List aL→List aL
 |some o,r=>o::r
 |none,r=>r
def cH(l:List aL):List Nat→List aL
 |[]=>[]
 |i::r=>zu l[i]? (cH l r)
def jY(rec:Rec)(l:List aL)(e:Env)(H:ab)(o:List Nat):Option (Env×ab):=cg rec (cH l o) e H (fun e' H'=>some (eZ l e' e,H')) ()
open Classical in
noncomputable def jq {A:Type}:List (Option A)→Option A
 |[]=>none
 |[a]=>a
 |a::b::r=>if a=b then jq (b::r)else none
def tZ(H:ab):SV→Option (SV×ab)
 | .bn b cC off n=>match bk H b with
   |some (.arr ver' z L _)=>bif cC==ver'&&decide (off+n≤L.length)&&SV.refs.av ((L.drop off).take n).flatten==0 then
     (ca H b .dead 0).map fun H=>(.ao z ((L.drop off).take n) false,H)
    else none
   |_=>none
 | .ao z L f=>some (.ao z L f,H)
 |_=>none
def di(N:Nat)(H0 H:ab):Option ab:=
 bif decide (N≤H.bl.length)&&H.bT.all (fun p=>!(decide (p.1<N)&&decide (N<p.2)))then
  some {bl:=H.bl.take N,bT:=H0.bT++H.bT.filter (fun p=>decide (p.1<N)),ro:=H0.ro} else none
def tj(H0 H:ab):ab:={bl:=H.bl,bT:=H0.bT++H.bT,ro:=H0.ro}
def dM(l:List Nat)(e:Env):Env:=l.map fun i=>(i,get e i)
def Ao(H:ab)(b z j:Nat)(cs:List SV):Option SV→Option ab
 |some (.ao _ [] true)=>ca (bJ H (.arr 0 z [] false)) b (.box (cs.set j (.bn H.bl.length 0 0 0))) (H.bl.length+1)
 |_=>none
def qN(H:ab)(b z:Nat):Option aC→Option ab
 |some (.box [.ao _ [] true])=>ca (bJ H (.arr 0 z [] false)) b (.box [.bn H.bl.length 0 0 0]) (H.bl.length+1)
 |some (.box cs)=>Ao H b (z%1000) (z/1000) cs (cs[z/1000]?)
 |_=>none
def fF:List (Nat×Nat)→Env→ab→Option (Env×ab)
 |[],e,H=>some (e,H)
 |(t,z)::r,e,H=>match get e t with
  | .ao _ [] true=>fF r ((t,.bn H.bl.length 0 0 0)::e) (bJ H (.arr 0 z [] false))
  | .ptr b _ _ _=>(qN H b z (bk H b)).bind fun H=>fF r e H
  | .ao _ (_::_) true=>fF r e (bJ H (.arr 0 z [] false))
  |_=>none
def r0(H:ab)(t h z b v n:Nat)(e:Env):Option aC→Option aC→Option (Env×ab)
 |some (.arr 0 _ [] _),some (.arr v' z' L ex)=>bif z'==z&&v==v'&&n==L.length&&decide (H.ro≤h)&&!(h==b)&&SV.refs.av L.flatten==0 then
   some ((t,.bn h (v+1) 0 n)::e,{H with bl:=(H.bl.set h (.arr (v+1) z L ex)).set b .dead})else none
 |_,_=>none
def dV:List (Nat×Nat)→Nat→Nat→Env→ab→Option (Env×ab)
 |[],_,_,e,H=>some (e,H)
 |(t,z)::r,h,N,e,H=>match get e t with
  | .bn b v 0 n=>bif decide (N≤b)&&decide (h<N)then(r0 H t h z b v n e (bk H h) (bk H b)).bind fun s=>dV r (h+1) N s.1 s.2 else dV r (h+1) N e H
  |_=>dV r (h+1) N e H
def ko:List Nat→Bool
 |i::_=>i==999999
 |[]=>false
def vR(p:cu)(N:Nat)(H0:ab)(s:Env×ab):Option (Env×ab):=
 bif ko p.live then some (dM p.live.tail s.1,s.2)else
 bif decide (SV.refs.av ((dM p.live s.1).map (·.2))≤N)then(di N H0 s.2).map fun H=>(dM p.live s.1,H)else none
def eu(p:cu)(N:Nat)(H0:ab)(s:Env×ab):Option (Env×ab):=
 (dV p.bC (N-p.bC.length) N s.1 s.2).bind (vR p N H0)
abbrev Out:=mA×Env×ab
def OS(l:List UInt8):Nat→List UInt8
 |0=>[]
 |n+1=>l++OS l n
def su:Nat→List SV→Option SV
 |0,[.str s,.int .i64 n]=>bif decide (0≤n)&&decide (n≤1048576)&&decide (s.size≤1048576)then some (.str ⟨(OS s.data.toList n.toNat).toArray⟩)else none
 |_,_=>none
def cP(f:Env×ab→Option Out):Nat→Env×ab→Option Out
 |0,_=>none
 |n+1,s=>match f s with
  |some (.normal,s')=>cP f n s'
  |r=>r
open Classical in
noncomputable def kR (f:Env×ab→Option Out) (s:Env×ab):Option Out:=
 if h:∃n,(cP f n s).isSome then cP f (Classical.choose h) s else none
noncomputable def run {R:Type} (rec:Rec):(c:ct)→Env→ab→(k:mA→Env→ab→Option R)→oH (c,k)→Option R
 | .skip,e,H,k,_=>k .normal e H
 | .ops l,e,H,k,_=>cg rec l e H (k .normal) ()
 | .drawn l,e,H,k,_=>bZ rec l H.bl.length e H (k .normal) ()
 | .perm l os,e,H,k,_=>aN (jq (os.map (jY rec l e H))) (fun s=>k .normal s.1 s.2) ()
 | .seq a b,e,H,k,_=>run rec a e H (fun x e H=>match x with| .normal=>run rec b e H k ()|x=>k x e H) ()
 | .cond c a b,e,H,k,_=>rW (ev e c) (fun t=>fork t (run rec a e H k ()) (run rec b e H k ()) ()) ()
 | .block id a,e,H,k,_=>run rec a e H (fun x e H=>match x with| .exit j=>bif j==id then k .normal e H else k (.exit j) e H|x=>k x e H) ()
 | .freeze t,e,H,k,_=>aN (tZ H (get e t)) (fun r=>k .normal ((t,r.1)::e) r.2) ()
 | .bC vs,e,H,k,_=>aN (fF vs e H) (fun s=>k .normal s.1 s.2) ()
 | .G6 d neg x c,e,H,k,_=>qx (AT H (ev e x)) neg (fun b=>run rec c ((d,.bool b)::e) H k ()) ()
 | .loop p a,e,H,k,_=>aN (fF p.bC e H) (fun s=>aN (kR (fun s'=>(eu p s.2.bl.length {s.2 with bT:=[]} s').bind fun s'=>
    run rec a s'.1 s'.2 (fun x e H=>some (x,e,H)) ()) (s.1,{s.2 with bT:=[]})) (fun o=>k o.1 o.2.1 {o.2.2 with bT:=s.2.bT++o.2.2.bT}) ()) ()
 | .iE f ps x y,e,H,k,_=>aN (pI rec (ev e f) [.fP H.bl.length] (bJ H (.loop ⟨e,ps,x,y⟩ .ready .normal))) (fun r=>
    match bk r.2 H.bl.length with
    |some (.loop q st pend)=>match st with
     | .busy=>none
     |_=>aN (ca r.2 H.bl.length (.loop q .exhausted pend) 0) (fun H=>k pend e H) ()
    |_=>none) ()
 | .ext n,e,H,k,_=>aN (su n (e.map (·.2))) (fun v=>k .ret ((0,v)::e) H) ()
 | .exit id,e,H,k,_=>k (.exit id) e H
 | .ret,e,H,k,_=>k .ret e H
def dR(e:Env)(H:ab):wL→Option SV
 | .tmp t=>some (get e t)
 | .cell t ag n=>dg ag n H (get e t)
def results1(e:Env)(H:ab)(rs:List wL):Option SV:=
 (bR (rs.map (dR e H))).map fun vs=>match vs with|[v]=>v|vs=>.bc vs
def eo(xs:List SV):Env:=go 0 xs
where go:Nat→List SV→Env
 |_,[]=>[]
 |i,x::r=>(i,x)::go (i+1) r
def da(keep:Bool)(H0:ab)(v:SV)(H:ab):Option (SV×ab):=
 bif keep then some (v,tj H0 H)else(ez H0.bl.length H cG v).bind fun v=>(di H0.bl.length H0 H).map fun H=>(v,H)
def fM(b:Nat)(st:LoopState)(pend:mA)(H:ab):Option ab:=match bk H b with
 |some (.loop q _ _)=>ca H b (.loop q st pend) 0
 |_=>none
def eR(b:Nat)(H:ab):Option ab:=match bk H b with
 |some (.loop q .ready pend)=>ca H b (.loop q .busy pend) 0
 |_=>none
def ah:ab:={bl:=[],bT:=[],ro:=0}
def eI(F:aB)(xs:List SV):Bool:=SV.refs.av xs==0&&!F.keep
noncomputable def aa (T:FuncId→Option aB):Nat→Rec
 |0,_,_,_=>none
 |n+1,.fn f,xs,H=>match T f with
  |none=>none
  |some F=>bif eI F xs then
    (run (aa T n) F.body (eo xs) ah (fun x e H'=>match x with
     | .exit _=>none
     |_=>(results1 e H' F.res).bind fun v=>ez 0 H' cG v) ()).map fun v=>(v,H)
   else run (aa T n) F.body (eo xs) {bl:=H.bl,bT:=[],ro:=min H.ro H.bl.length} (fun x e H'=>match x with
    | .exit _=>none
    |_=>(results1 e H' F.res).bind fun v=>da F.keep H v H') ()
 |n+1,.se f,xs,H=>match T f with
  |none=>none
  |some F=>run (aa T n) F.body (eo xs) {bl:=H.bl,bT:=[],ro:=min H.ro H.bl.length} (fun x e H'=>match x with
    | .exit _=>none
    |_=>(results1 e H' F.res).bind fun v=>da true H v H') ()
 |n+1,.fP b,xs,H=>match bk H b with
  |some (.loop q .ready _)=>
   bif q.ps.length==xs.length then
    run (aa T n) q.assign ((q.ps.zip xs).reverse++q.env) {bl:=H.bl,bT:=[],ro:=min H.ro H.bl.length} (fun x e H'=>match x with
     | .normal=>(eR b H').bind fun H'=>run (aa T n) q.body e H' (fun x _ H'=>
        (fM b (match x with| .normal=>.ready|_=>.done) x H').bind fun H'=>
         (di H.bl.length H H').map fun H'=>(.bool (match x with| .normal=>true|_=>false),H')) ()
     |_=>none) ()
   else none
  |_=>none
abbrev af5(n:Int):SV:=.int .i64 n
abbrev af6:SV:=.int .i64 0
abbrev af7(a b:Nat):mi:=.pick (.t a) (.c (.bool true)) (.t b)
abbrev af8(a b:Nat):mi:=.pick (.t a) (.t b) (.c (.bool false))
abbrev af9(a:Nat):mi:=.load false 1 (.t a)
end
section
structure Bw where
 keep:FuncId→Option Nat
 loop:FuncId→Nat→cu
 lit:FuncId→Nat→Bool
 ez:FuncId→Nat→List Nat
 ZD:FuncId→Nat→List (Nat×Nat):=fun _ _=>[]
 eU:FuncId→Nat→Option Nat:=fun _ _=>none
 viewAt:FuncId→Nat→Bool:=fun _ _=>false
 EM:FuncId→Nat→Option Nat:=fun _ _=>none
 ext:FuncId→Option Nat:=fun _=>none
 U7:FuncId→Nat→Bool:=fun _ _=>false
def mZ:Nat→Value→Option SV
 |0,_=>none
 |d+1,v=>match v with
  | .bool b=>some (.bool b)
  | .int k n=>some (.int k n)
  | .string s=>some (.str s)
  | .pointer none=>some .dj
  | .slice none 0 0=>some (.ao 0 [] true)
  | .nilFunc=>some .dy
  | .agg cs=>(bR (cs.toList.map (mZ d))).bind fun cs=>bif cs.all SV.je then some (.agg cs)else none
  |_=>none
def bA:Operand→Option bX
 | .tmp t=>some (.t t)
 | .const v=>(mZ 2 v).map .c
 | .func f=>some (.c (.fn f []))
 | .global _=>none
def jo(xs:Array Operand):Option (List bX):=bR (xs.toList.map bA)
def gA:Option Operand→Option (Option bX)
 |none=>some none
 |some x=>(bA x).map some
section
variable(P:Program)
def gf(t:TypeId):Option Nat:=(P.info? t).map (·.size)
def jL(t:TypeId):Option Bool:=match P.underlying t with
 |some (.struct _)=>some true
 |some (.array _ _)=>some true
 |some _=>some false
 |none=>none
def iq(t:TypeId):Option (List SV):=match P.info? t with
 |some i=>match i.zero with
  |some v=>(bR (v.cells.toList.map (mZ 1))).bind fun z=>bif z.all SV.je then some z else none
  |none=>none
 |none=>none
def eY:Nat→TypeId→Option (List LK)
 |0,_=>none
 |d+1,t=>match P.underlying t with
  |some .bool=>some [.b]
  |some (.int _)=>some [.i]
  |some .string=>some [.s]
  |some (.struct fs)=>bif P.stoodInHeld t then none else fs.toList.foldlM (init:=[]) fun acc f=>
    bif f.name != "_" &&f.offset==acc.length then(eY d f.type).bind fun sh=>bif (gf P f.type)==some sh.length then some (acc++sh)else none else none
  |some (.array n e)=>(eY d e).bind fun sh=>bif (gf P e)==some sh.length then some (List.replicate n sh).flatten else none
  |_=>none
def lO(t:TypeId):Option (List Field):=match P.underlying t with
 |some (.struct fs)=>some fs.toList
 |_=>none
def mF(t:TypeId):Option TypeId:=match P.underlying t with
 |some (.slice e)=>some e
 |_=>none
def yH(t:TypeId)(ps:List (Nat×Operand)):Option (List (Nat×Nat×bX)):=match P.underlying t with
 |some (.struct fs)=>bif !fs.toList.all (fun f=>(gf P f.type).isSome)then none else bR (ps.map fun p=>match fs[p.1]? with
  |some f=>match gf P f.type,bA p.2 with
   |some n,some x=>some (f.offset,n,x)
   |_,_=>none
  |none=>none)
 |some (.array _ e)=>match gf P e with
  |some n=>bR (ps.map fun p=>(bA p.2).map fun x=>(p.1*n,n,x))
  |none=>none
 |_=>none
def pM(c:Call):Option mi:=match c.callee with
 | .value f=>match bA f,jo c.args with
   |some f,some xs=>some (.call f xs)
   |_,_=>none
 | .invoke _ _=>none
 | .builtin b=>match jo c.args with
   |none=>none
   |some xs=>match b,xs with
    | .len,[x]=>match(c.argTypes[0]?).bind P.underlying with
      |some .string=>some (.fO x)
      |some (.slice _)=>some (.len x)
      |some (.array n _)=>some (.A7 n)
      |_=>none
    | .max,xs=>match(c.argTypes[0]?).bind P.underlying with|some (.int _)=>some (.jb xs)|_=>none
    | .min,xs=>match(c.argTypes[0]?).bind P.underlying with|some (.int _)=>some (.mh xs)|_=>none
    | .append,[s,x]=>match(c.argTypes[0]?).bind (mF P),(c.argTypes[1]?).bind P.underlying with
      |some e,some (.slice _)=>match P.info? e with|some i=>bif i.size==0||i.bytes==0 then none else(match iq P e with|some z=>bif z.length==i.size then some (.append i.size i.bytes s x)else none|none=>none)|none=>none
      |_,_=>none
    | .copy,[d,x]=>match(c.argTypes[0]?).bind (mF P),(c.argTypes[1]?).bind P.underlying with
      |some e,some (.slice _)=>match gf P e with|some (n+1)=>some (.copy (n+1) d x)|_=>none
      |_,_=>none
    | .clear,[x]=>match(c.argTypes[0]?).bind (mF P)with
      |some e=>match iq P e with|some (z::zs)=>some (.clear (z::zs).length (z::zs) x)|_=>none
      |none=>none
    |_,_=>none
def w6(op:BinOp)(u:TypeDesc)(y:Operand)(x:bX):Option mi:=match op,u,y with
 | .eql,.pointer _,.const (.pointer none)=>some (.isNil .p false x)
 | .neq,.pointer _,.const (.pointer none)=>some (.isNil .p true x)
 | .eql,.func _ _ _,.const .nilFunc=>some (.isNil .f false x)
 | .neq,.func _ _ _,.const .nilFunc=>some (.isNil .f true x)
 | .eql,.slice _,.const (.slice none 0 0)=>some (.isNil .s false x)
 | .neq,.slice _,.const (.slice none 0 0)=>some (.isNil .s true x)
 |_,_,_=>none
def we(t:TypeId):Option (LK×TypeId):=match P.underlying t with
 |some (.map k e)=>bif gf P e==some 1&&jL P e==some false then(match P.underlying k with
  |some (.int _)=>some (.i,e)
  |some .string=>some (.s,e)
  |some .bool=>some (.b,e)
  |_=>none)else none
 |_=>none
def uj(t:TypeId):Option SV:=match P.info? t with
 |some i=>match i.zero with
  |some v=>(mZ 1 v).bind fun z=>bif z.je then some z else none
  |none=>none
 |none=>none
def oW(o:Op):Option mi:=match o with
 | .move x=>(bA x).map .dY
 | .assign x=>(bA x).map .dY
 | .pick c a b=>match bA c,bA a,bA b with
   |some c,some a,some b=>some (.pick c a b)
   |_,_,_=>none
 | .alloc t=>(iq P t).map .alloc
 | .box _ x=>(bA x).map .box
 | .build t ps=>match iq P t,yH P t ps.toList with
   |some z,some ps=>some (.build z ps)
   |_,_=>none
 | .buildSlice t n ps=>match mF P t with
   |some e=>match gf P e,iq P e,bR (ps.toList.map fun p=>(bA p.2).map fun x=>(p.1,x))with
    |some (z+1),some zs,some ps=>bif decide (n*(z+1)≤16777216)&&zs.length==z+1 then some (.gl (z+1) zs n ps)else none
    |_,_,_=>none
   |none=>none
 | .load t a=>match jL P t,gf P t,bA a with
   |some ag,some n,some a=>some (.load ag n a)
   |_,_,_=>none
 | .store t a x=>match gf P t,bA a,bA x with
   |some n,some a,some x=>some (.store n a x)
   |_,_,_=>none
 | .nilCheck x=>(bA x).map .eh
 | .binOp op t xo yo _=>match bA xo,bA yo with
   |some x,some y=>match op,P.underlying t with
    | .eql,some (.struct _)=>bif P.eqGuardType P.depth t then none else(eY P 6 t).map (.dU false · x y)
    | .neq,some (.struct _)=>bif P.eqGuardType P.depth t then none else(eY P 6 t).map (.dU true · x y)
    | .eql,some (.array _ _)=>bif P.eqGuardType P.depth t then none else(eY P 6 t).map (.dU false · x y)
    | .neq,some (.array _ _)=>bif P.eqGuardType P.depth t then none else(eY P 6 t).map (.dU true · x y)
    |op,some (.int _)=>some (.bin op x y)
    |op,some .bool=>some (.rF op x y)
    |op,some .string=>some (.bin op x y)
    |op,some u=>w6 op u yo x
    |_,none=>none
   |_,_=>none
 | .unOp .not _ x=>(bA x).map .dI
 | .unOp .neg t x=>match P.underlying t with|some (.int _)=>(bA x).map .vt|_=>none
 | .convert s d x=>match bA x with
   |none=>none
   |some x=>match P.underlying s,P.underlying d with
    |some (.int _),some (.int k)=>some (.cB k x)
    |some .string,some .string=>some (.sP x)
    |some (.slice el),some .string=>match P.underlying el,gf P el with
     |some (.int .u8),some 1=>some (.jM x)
     |_,_=>none
    |some .string,some (.slice el)=>match P.underlying el,gf P el with
     |some (.int .u8),some 1=>some (.rS x)
     |_,_=>none
    |_,_=>none
 | .makeFunc (.func f) fs cs=>bif fs.isEmpty then(jo cs).map (.iL f ·)else bif cs.isEmpty then(jo fs).map (.mB f ·)else none
 | .makeSlice t l c=>match mF P t with
   |some e=>match P.info? e,iq P e,bA l,bA c with
    |some i,some z,some l,some c=>bif i.size==0||i.bytes==0 then none else bif z.length==i.size then some (.eO i.size z i.bytes l c)else none
    |_,_,_,_=>none
   |none=>none
 | .slice t x lo hi mx=>match bA x,gA lo,gA hi,gA mx with
   |some x,some lo,some hi,some mx=>match P.underlying t with
    |some (.slice e)=>match gf P e with|some n=>bif mx.isSome&&hi.isNone then none else some (.eV n x lo hi mx)|none=>none
    |some .string=>match mx with|none=>some (.o0 x lo hi)|some _=>none
    |_=>none
   |_,_,_,_=>none
 | .fieldAddr s x f=>match bA x,(lO P s).bind (·[f]?)with
   |some x,some f=>match gf P f.type with
    |some (_+1)=>some (.af f.offset x)
    |_=>none
   |_,_=>none
 | .field s x f=>match bA x,(lO P s).bind (·[f]?)with
   |some x,some f=>match jL P f.type,gf P f.type with
    |some ag,some n=>some (.field ag n f.offset x)
    |_,_=>none
   |_,_=>none
 | .indexAddr t x ix=>match bA x,bA ix with
   |some x,some ix=>match P.underlying t with
    |some (.slice e)=>match gf P e with|some (n+1)=>some (.bw (n+1) x ix)|_=>none
    |some (.array len e)=>match gf P e with|some (n+1)=>some (.gP len (n+1) x ix)|_=>none
    |_=>none
   |_,_=>none
 | .index t x ix=>match bA x,bA ix with
   |some x,some ix=>match P.underlying t with
    |some (.array len e)=>match jL P e,gf P e with|some ag,some n=>some (.o8 ag n len x ix)|_,_=>none
    |some .string=>some (.gk x ix)
    |_=>none
   |_,_=>none
 | .extract x i=>(bA x).map (.extract · i)
 | .call c=>pM P c
 | .makeMap _ none=>some .oD
 | .insert t m k v=>match we P t,bA m,bA k,bA v with
   |some (q,_),some m,some k,some v=>some (.nZ q m k v)
   |_,_,_,_=>none
 | .mapUpdate t m k v=>match we P t,bA m,bA k,bA v with
   |some (q,_),some m,some k,some v=>some (.nZ q m k v)
   |_,_,_,_=>none
 | .lookup t m k ok=>match we P t,bA m,bA k with
   |some (q,e),some m,some k=>(uj P e).map fun z=>.kD q ok z m k
   |_,_,_=>none
 |_=>none
inductive GA where|no|list|keep (n:Nat)|view|CU (z:Nat)
def lk(dL:Bw)(f:FuncId):Option Nat→GA
 |none=>.no
 |some d=>match dL.eU f d with
  |some n=>.keep n
  |none=>match dL.EM f d with
   |some z=>.CU z
   |none=>bif dL.viewAt f d then .view else bif dL.lit f d then .list else .no
def wh(b:GA)(o:mi):mi:=match b,o with
 | .list,.gl bP z n ps=>.dT bP z n ps
 | .keep n,.call (.c (.fn g [])) xs=>.eL g n xs
 | .view,.call (.c (.fn g [])) xs=>.lu g xs
 | .CU z,.alloc [.ao 0 [] true]=>.o7 z
 | .CU z,.build [.ao 0 [] true,.ao 0 [] true] []=>.build [.ao (z/100) [] true,.ao (z%100) [] true] []
 |_,o=>o
def iX(dL:Bw)(f:FuncId)(nt:Nat)(ops:Array Oper)(o:Oper):Option aL:=
    let op:=wh (lk dL f o.dst) ((oW P o.op).getD .bad)
    bif o.dst.any (fun d=>decide (nt≤d))then none else match o.guard with
    |none=>some ⟨o.dst,op,none⟩
    |some (j,w)=>match(ops[j]?).bind (·.dst)with
     |some t=>some ⟨o.dst,op,some (t,w)⟩
     |none=>none
end
def gK:mi→Bool
 | .dY _| .pick .. | .build .. | .dT .. | .bin .. | .rF .. | .dU .. | .dI _| .vt _| .cB .. | .sP _| .iL .. | .mB .. | .field .. | .o8 .. | .gk .. | .extract .. | .fO _| .A7 _| .jb _| .mh _| .o0 .. =>true
 |_=>false
def bK(ops:List Oper):List Nat:=
 ops.foldl (init:=[]) fun acc o=>acc++[o.after.toList.foldl (fun s e=>bif Region.binds .any e then s|||2 ^ e.on|||acc.getD e.on 0 else s) 0]
def bW(o:aL):List Nat:=(match o.op with
 | .dY x| .box x| .eh x| .dI x| .isNil _ _ x| .vt x| .cB _ x| .sP x| .jM x| .rS x| .af _ x| .field _ _ _ x| .extract x _| .len x| .fO x| .clear _ _ x| .load _ _ x=>f [x]
 | .pick c a b=>f [c,a,b]
 | .build _ ps=>f (ps.map (·.2.2))
 | .gl _ _ _ ps=>f (ps.map (·.2))
 | .dT _ _ _ ps=>f (ps.map (·.2))
 | .store _ a x| .bin _ a x| .rF _ a x| .dU _ _ a x| .bw _ a x| .gP _ _ a x| .o8 _ _ _ a x| .gk a x| .append _ _ a x| .qe a x| .copy _ a x| .eO _ _ _ a x=>f [a,x]
 | .iL _ cs=>f cs
 | .mB _ cs=>f cs
 | .eV _ x lo hi mx=>f ([x]++lo.toList++hi.toList++mx.toList)
 | .o0 x lo hi=>f ([x]++lo.toList++hi.toList)
 | .jb xs| .mh xs=>f xs
 | .oD=>[]
 | .nZ _ x k v=>f [x,k,v]
 | .kD _ _ _ x k=>f [x,k]
 | .call g xs=>f (g::xs)
 | .eL _ _ xs=>f xs
 | .lu _ xs=>f xs
 | .alloc _| .o7 _| .A7 _| .bad=>[])++(match o.g with|some (t,_)=>[t]|none=>[])
where f (xs:List bX):List Nat:=xs.filterMap fun| .t n=>some n| .c _=>none
def C9(bs:List Nat)(i j:Nat):Bool:=i==j||(bs.getD j 0).testBit i||(bs.getD i 0).testBit j
def NJ(dL:Bw)(f:FuncId)(o:aL):Nat:=match o.op with
 | .call (.t _) _=>(o.dst.bind (dL.eU f)).getD 0
 | .call (.c (.fn f _)) _=>(dL.keep f).getD 0
 | .eL _ n _=>n
 | .o7 _=>2
 | .append .. | .qe .. | .box _| .alloc _| .gl .. | .eO .. | .rS _| .oD=>1
 |_=>0
def rZ(d:bH):Bool:=match d.kind with| .gU=>true|_=>false
def sG(d:bH):Bool:=match d.kind with| .j6=>true|_=>false
def rf(d:bH):Bool:=match d.kind with| .pure=>true|_=>false
def dF(d:bH):Bool:=match d.kind with| .wr _=>true|_=>false
def oU:mi→Bool
 | .af .. | .bw .. | .gP .. | .len .. | .eV .. | .eh .. | .isNil .. | .alloc .. | .box .. | .gl .. | .eO .. =>true
 |_=>false
def Cn:bX→bX→Bool
 | .t a,.t b=>a==b
 |_,_=>false
def oL(pl:List (aL×bH))(i k:Nat)(o:mi)(d:bH):Bool:=match o,d.kind with
 | .load ag n a,.wr rd=>rd.any (fun q=>Cn q.1 a&&q.2==(bif ag then n else 1))&&match a with
   | .t u=>(List.range k).all fun m=>decide (m<i)||match pl[m]? with|some p=>!(p.1.dst==some u)|none=>false
   | .c _=>false
 |_,_=>false
def l9(bs:List Nat)(ops:List Oper)(pl:List (aL×bH)):Bool:=
 let n:=pl.length
 let rg:=List.range n
 let dr:=fun i=>((pl[i]?).map (·.2)).getD ⟨.pure,[],0,0⟩
 let gU:=fun i=>rZ (dr i)
 let j6:=fun i=>sG (dr i)
 (ops.zipIdx.all fun p=>p.1.after.toList.all fun e=>!Region.binds .any e||decide (e.on<p.2)) &&
 (rg.all fun j=>(List.range j).all fun i=>match pl[i]?,pl[j]? with
  |some a,some b=>(bs.getD j 0).testBit i||!((match a.1.dst with|some d=>(bW b.1).contains d||b.1.dst==some d|none=>false)||(match b.1.dst with|some d=>(bW a.1).contains d|none=>false))
  |_,_=>false) &&
 (pl.all fun p=>!rf p.2||gK p.1.op&&p.2.xO==0) &&
 (rg.all fun i=>!gU i||rg.all fun j=>rf (dr j)||C9 bs i j) &&
 (rg.all fun i=>(dr i).kT==match i with|0=>0|k+1=>bif gU k then 0 else(dr k).kT+(dr k).xO) &&
 (rg.all fun i=>!(j6 i||dF (dr i))||(List.range i).all fun k=>!j6 k||((List.range i).any fun m=>decide (k<m)&&gU m)||(bs.getD i 0).testBit k||(List.range (dr k).xO).all fun m=>(dr i).fB.contains ((dr k).kT+m)) &&
 (rg.all fun k=>!dF (dr k)||(dr k).xO==0&&rg.all fun m=>!decide (k<m)||rf (dr m)||(bs.getD m 0).testBit k) &&
 (rg.all fun k=>!dF (dr k)||(List.range k).all fun i=>!j6 i||((List.range k).any fun m=>decide (i<m)&&gU m)||(bs.getD k 0).testBit i||match pl[i]? with|some a=>oU a.1.op||oL pl i k a.1.op (dr k)|none=>false)
def ph(dL:Bw)(f:FuncId)(bs:List Nat)(l:List aL)(useW:Bool):List (aL×bH):=
 let n:=l.length
 let pu:=l.map fun o=>gK o.op
 let nonpure:=(List.range n).filter fun i=>!pu.getD i true
 let bars:=(List.range n).map fun i=>!pu.getD i true&&nonpure.all fun j=>C9 bs i j
 let isst:=l.map fun o=>match o.op with| .store .. =>true|_=>false
 let nals:=l.zipIdx.map fun p=>bif pu.getD p.2 true||bars.getD p.2 false then 0 else NJ dL f p.1
 let scan:=(List.range n).foldl (init:=(([]:List (Nat×Nat)),0,0)) fun(acc,off,st) i=>
  bif bars.getD i false then(acc++[(off,st)],0,i+1)else(acc++[(off,st)],off+nals.getD i 0,st)
 l.zipIdx.map fun p=>
   let i:=p.2
   let os:=scan.1.getD i (0,0)
   let fB:=(List.range i).flatMap fun k=>bif decide (os.2≤k)&&!pu.getD k true&&!C9 bs i k then(List.range (nals.getD k 0)).map fun m=>(scan.1.getD k (0,0)).1+m else[]
   (p.1,bif pu.getD i true then⟨.pure,[],0,os.1⟩else bif bars.getD i false then⟨.gU,[],0,os.1⟩else
     bif useW&&isst.getD i false then⟨.wr ((List.range i).flatMap fun k=>bif decide (os.2≤k)&&!C9 bs i k then(match l[k]? with|some o=>(match o.op with| .load ag n a=>[(a,bif ag then n else 1)]|_=>[])|none=>[])else[]),fB,0,os.1⟩else
     ⟨.j6,fB,nals.getD i 0,os.1⟩)
def yI(dL:Bw)(f:FuncId)(ops:List Oper)(l:List aL):Option (List (aL×bH)):=
 let bs:=bK ops
 let a:=ph dL f bs l true
 bif l9 bs ops a then some a else
  let b:=ph dL f bs l false
  bif l9 bs ops b then some b else none
def mO(bs:List Nat):Nat→List Nat→List (List Nat)
 |0,_=>[[]]
 |n+1,rem=>rem.flatMap fun m=>bif rem.all (fun k=>k==m||!(bs.getD m 0).testBit k)then(mO bs n (rem.erase m)).map (m:: ·)else[]
def qt(bs:List Nat)(n:Nat):List Nat→List Nat→Bool
 |done,[]=>decide (done.length=n)
 |done,i::r=>decide (i<n)&&!done.contains i&&(List.range n).all (fun k=>!(bs.getD i 0).testBit k||done.contains k)&&qt bs n (i::done) r
def CE(bs:List Nat)(n:Nat)(pu:List Bool):List Nat→List Nat→List Nat
 |done,[]=>done++(List.range n).filter fun k=>!done.contains k
 |done,m::r=>
  let done:=done++(List.range n).filter fun k=>pu.getD k true&&(bs.getD m 0).testBit k&&!done.contains k
  CE bs n pu (done++[m]) r
def jc(l:List aL)(i:Nat):Bool:=match l[i]? with|some o=>!gK o.op|none=>false
def zw(bs:List Nat)(l:List aL):List (List Nat):=
 let np:=(List.range l.length).filter (jc l)
 (mO bs np.length np).map (CE bs l.length (l.map fun o=>gK o.op) [])
def fp(a b:aL):Bool:=!((match a.dst with|some d=>(bW b).contains d||b.dst==some d|none=>false)||(match b.dst with|some d=>(bW a).contains d|none=>false))
def uK(bs:List Nat)(ops:List Oper)(l:List aL)(os:List (List Nat)):Bool:=
 let n:=l.length
 let np:=(List.range n).filter (jc l)
 (ops.zipIdx.all fun p=>p.1.after.toList.all fun e=>!Region.binds .any e||decide (e.on<p.2)) &&
 ((List.range n).all fun j=>(List.range j).all fun i=>match l[i]?,l[j]? with
   |some a,some b=>(bs.getD j 0).testBit i||fp a b
   |_,_=>false) &&
 (os.all fun o=>qt bs n [] o) &&
 ((mO bs np.length np).all fun x=>os.any fun o=>o.filter (jc l)==x)
def G5:mi→Bool
 | .load .. | .eh _| .af .. | .len _| .bw .. | .gP .. =>true
 |_=>false
def Hj(l:List aL):List Nat:=(List.range l.length).filter fun i=>match l[i]? with|some o=>!gK o.op&&!G5 o.op|none=>false
def ui(W σ:List Nat)(r:Nat):Nat:=((σ.takeWhile (fun x=>x != r)).filter W.contains).length
def qC(bs W:List Nat)(r j:Nat):Bool:=(W.take j).all (fun w=>!(bs.getD w 0).testBit r)&&(W.drop j).all (fun w=>!(bs.getD r 0).testBit w)
def vd(bs:List Nat)(l:List aL):List (List Nat):=
 let W:=Hj l
 let n:=l.length
 let isR:=fun r=>match l[r]? with|some o=>G5 o.op|none=>false
 let at_:=fun(j r:Nat)=>max (W.filter fun w=>(bs.getD r 0).testBit w).length (min j (W.length-(W.filter fun w=>(bs.getD w 0).testBit r).length))
 ((List.range (W.length+1)).map fun j=>CE bs n (l.map fun o=>gK o.op) [] ((List.range (W.length+1)).flatMap fun t=>((List.range n).filter fun r=>isR r&&at_ j r==t)++(W[t]?).toList)).foldl (fun acc o=>bif acc.contains o then acc else acc++[o]) []
def xm(bs:List Nat)(ops:List Oper)(l:List aL)(os:List (List Nat)):Bool:=
 let n:=l.length
 let W:=Hj l
 (ops.zipIdx.all fun p=>p.1.after.toList.all fun e=>!Region.binds .any e||decide (e.on<p.2)) &&
 ((List.range n).all fun j=>(List.range j).all fun i=>match l[i]?,l[j]? with
   |some a,some b=>(bs.getD j 0).testBit i||fp a b
   |_,_=>false) &&
 (os.all fun o=>qt bs n [] o) &&
 ((List.range n).all fun i=>(List.range (i+1)).all fun k=>match l[k]?,l[i]? with
   |some a,some b=>(match b.dst with|some d=>!(bW a).contains d&&(k==i||!(a.dst==some d))|none=>true)
   |_,_=>false) &&
 (W.all fun w=>W.all fun w'=>!decide (w<w')||(bs.getD w' 0).testBit w) &&
 !os.isEmpty &&
 ((List.range n).all fun r=>match l[r]? with
   |some o=>!G5 o.op||(List.range (W.length+1)).all fun j=>!qC bs W r j||os.any fun σ=>ui W σ r==j
   |none=>true)
def Dl(P:Program)(dL:Bw)(f:FuncId)(nt:Nat)(ops:Array Oper):Option ct:=match bR (ops.toList.map (iX P dL f nt ops))with
 |none=>none
 |some l=>bif xm (bK ops.toList) ops.toList l (vd (bK ops.toList) l)then some (.perm l (vd (bK ops.toList) l))else
   bif uK (bK ops.toList) ops.toList l (zw (bK ops.toList) l)then some (.perm l (zw (bK ops.toList) l))else none
def zQ(P:Program)(dL:Bw)(f:FuncId)(nt:Nat)(ops:Array Oper)(draw:Bool):Option ct:=match bR (ops.toList.map (iX P dL f nt ops))with
 |none=>none
 |some l=>bif draw then(yI dL f ops.toList l).map .drawn else some (.ops l)
def fg:Code→Option Nat
 | .region id _ _=>some id
 | .seq a b=>(fg a).orElse fun _=>fg b
 | .cond _ a b=>(fg a).orElse fun _=>fg b
 | .block _ a=>fg a
 | .loop a=>fg a
 | .rangeFunc _ _ a b=>(fg a).orElse fun _=>fg b
 | .scope a=>fg a
 |_=>none
def qf(c:ct):List Nat→ct
 |[]=>c
 |t::r=>.seq (.freeze t) (qf c r)
def CJ(c:ct):List (Nat×Nat)→ct
 |[]=>c
 |vs=>.seq c (.bC vs)
def zj(P:Program)(nt:Nat):Code→Option (Array Oper×List Oper×Nat×Bool×bX)
 | .region _ ops false=>match ops.toList.getLast? with
   |some o=>match o.dst,o.guard,o.op with
    |some d,none,.binOp op t x y _=>match bA x,P.underlying t with
     |some x',some (.slice el)=>match w6 op (.slice el) y x' with
      |some (.isNil _ neg x2)=>bif decide (d<nt)then some (ops,ops.toList.dropLast,d,neg,x2)else none
      |_=>none
     |_,_=>none
    |_,_,_=>none
   |none=>none
 |_=>none
def eG(P:Program)(dL:Bw)(f:FuncId)(nt:Nat):Code→Option ct
 | .skip=>some .skip
 | .region id ops draw=>(bif draw&&dL.U7 f id then Dl P dL f nt ops else zQ P dL f nt ops draw).map fun c=>CJ (qf c (dL.ez f id)) (dL.ZD f id)
 | .seq a b=>match zj P nt a with
   |some (ops,l,d,neg,x)=>match bR (l.map (iX P dL f nt ops)),eG P dL f nt b with
    |some l,some b=>some (.seq (.ops l) (.G6 d neg x b))
    |_,_=>none
   |none=>match eG P dL f nt a,eG P dL f nt b with
    |some a,some b=>some (.seq a b)
    |_,_=>none
 | .cond c a b=>match bA c,eG P dL f nt a,eG P dL f nt b with
   |some c,some a,some b=>some (.cond c a b)
   |_,_,_=>none
 | .block id a=>(eG P dL f nt a).map (.block id)
 | .loop a=>(eG P dL f nt a).map (.loop (dL.loop f ((fg a).getD 0)))
 | .rangeFunc g ps a b=>match bA g,eG P dL f nt a,eG P dL f nt b with
   |some g,some a,some b=>bif ps.toList.any (fun d=>decide (nt≤d))then none else some (.iE g ps.toList a b)
   |_,_,_=>none
 | .exit id=>some (.exit id)
 | .ret=>some .ret
 | .label _=>some .skip
 | .scope a=>eG P dL f nt a
 |_=>none
def AW(P:Program):ResultVar→Option wL
 | .tmp t=>some (.tmp t)
 | .cell a t=>match jL P t,gf P t with
   |some ag,some n=>some (.cell a ag n)
   |_,_=>none
def wk(P:Program)(dL:Bw)(f:FuncId):Option aB:=match dL.ext f with
 |some k=>some ⟨[.tmp 0],.ext k,false⟩
 |none=>match P.funcs[f]? with
 |none=>none
 |some fn=>match fn.body with
  |none=>none
  |some b=>bif fn.name== "runtime.NumGoroutine" then none else match eG P dL f fn.ntmps b,bR (fn.results.toList.map (AW P))with
   |some b,some rs=>some ⟨rs,b,(dL.keep f).isSome⟩
   |_,_=>none
end
structure Loc where
 cm:Nat
 base:Nat
 cap:Nat
 bP:Nat
 cC:Nat
 bC:Bool
 arr:Bool
abbrev Map:=Nat→Option Loc
abbrev dH:Map:=fun _=>none
def jX:Value→Bool
 | .agg _=>false
 | .tuple _=>false
 |_=>true
def pE:SV→Option Value
 | .bool b=>some (.bool b)
 | .int k n=>some (.int k n)
 | .str s=>some (.string s)
 |_=>none
inductive VR(w:World)(F:Nat→Prop):Map→SV→Value→Prop
 |undef {ρ:Map} (v:Value):VR w F ρ .undef v
 |jy {ρ:Map}:VR w F ρ .jy undef
 |bool {ρ:Map} (b:Bool):VR w F ρ (.bool b) (.bool b)
 |int {ρ:Map} (k:IntKind) (n:Int):VR w F ρ (.int k n) (.int k n)
 |str {ρ:Map} (s:ByteArray):VR w F ρ (.str s) (.string s)
 |dj {ρ:Map}:VR w F ρ .dj (.pointer none)
 |ptr {ρ:Map} {b cC i o:Nat} {l:Loc} {v:Value} (h:ρ b=some l) (hv:cC≤l.cC) (hc:jX v=true)
   (ha:cC=l.cC→l.bC=false∧v=.pointer (some ⟨l.cm,l.base+i*l.bP+o,none⟩)):VR w F ρ (.ptr b cC i o) v
 |fY {ρ:Map} {cs:List SV} {B o:Nat} (V:Nat→Value) (hF:F B) (hc:∀j c,cs[j]?=some c→w.cell? ⟨B,o+j,none⟩=some (V j))
   (h1:∀(j:Nat) (c:SV),cs[j]?=some c→c.je=true) (hv:∀j c,cs[j]?=some c→VR w F dH c (V j)):VR w F ρ (.fY cs) (.pointer (some ⟨B,o,none⟩))
 |ao {ρ:Map} {z:Nat} {L:List (List SV)} {full:Bool} {a:Option Addr} {cap:Nat} (V:Nat→Nat→Value) (hcap:L.length≤cap) (hfull:full=true→cap=L.length)
   (hz:∀(i:Nat) cs,L[i]?=some cs→cs.length=z)
   (hat:L=[]∨∃B o,a=some ⟨B,o,none⟩∧F B∧∀(i j:Nat) cs c,L[i]?=some cs→cs[j]?=some c→w.cell? ⟨B,o+i*z+j,none⟩=some (V i j))
   (h1:∀(i j:Nat) cs (c:SV),L[i]?=some cs→cs[j]?=some c→c.je=true)
   (hv:∀(i j:Nat) cs c,L[i]?=some cs→cs[j]?=some c→VR w F dH c (V i j)):VR w F ρ (.ao z L full) (.slice a L.length cap)
 |bn {ρ:Map} {b cC off n:Nat} {l:Loc} {v:Value} (h:ρ b=some l) (hv:cC≤l.cC) (hc:jX v=true)
   (ha:cC=l.cC→(l.bC=true→∃a,v=.slice a 0 0∧off=0∧n=0)∧
    (l.bC=false→off+n≤l.cap∧∃a,v=.slice a n (l.cap-off)∧(off<l.cap→a=some ⟨l.cm,l.base+off*l.bP,none⟩))):VR w F ρ (.bn b cC off n) v
 |agg {ρ:Map} {cs:List SV} {vs:Array Value} (hn:cs.length=vs.size) (h1:∀(j:Nat) (c:SV),cs[j]?=some c→c.je=true)
   (hv:∀(j:Nat) c v,cs[j]?=some c→vs[j]?=some v→VR w F ρ c v):VR w F ρ (.agg cs) (.agg vs)
 |bc {ρ:Map} {cs:List SV} {vs:Array Value} (hn:cs.length=vs.size)
   (hv:∀(j:Nat) c v,cs[j]?=some c→vs[j]?=some v→VR w F ρ c v):VR w F ρ (.bc cs) (.tuple vs)
 |fn {ρ:Map} {f:FuncId} {cs:List SV} {vs:Array Value} (hn:cs.length=vs.size)
   (hv:∀(j:Nat) c v,cs[j]?=some c→vs[j]?=some v→VR w F ρ c v):VR w F ρ (.fn f cs) (.func (.func f) #[] vs)
 |pO {ρ:Map} {f:FuncId} {cs:List SV} {vs:Array Value} (hn:cs.length=vs.size)
   (hv:∀(j:Nat) c v,cs[j]?=some c→vs[j]?=some v→VR w F ρ c v):VR w F ρ (.pO f cs) (.func (.func f) vs #[])
 |dy {ρ:Map}:VR w F ρ .dy .nilFunc
 |fP {ρ:Map} {b:Nat} {l:Loc} (h:ρ b=some l) (ha:l.arr=false):VR w F ρ (.fP b) (.func (.yield l.cm) #[] #[])
 |mp {ρ:Map} {b:Nat} {l:Loc} (h:ρ b=some l) (ha:l.arr=false):VR w F ρ (.mp b) (.map (some l.cm))
theorem VR.one{w:World}{F:Nat→Prop}{ρ:Map}{c:SV}{v:Value}(h:VR w F ρ c v)(h1:c.je=true):jX v=true:=by
 cases h<;>first|rfl|assumption|(simp[SV.je]at h1)
def Map.le(ρ ρ':Map):Prop:=∀b l,ρ b=some l→∃l',ρ' b=some l'∧(l'=l∨(l.arr=true∧l.cC<l'.cC))
theorem Map.le_refl(ρ:Map):ρ.le ρ:=fun _ l h=>⟨l,h,.inl rfl⟩
theorem Map.le_trans{a b c:Map}(h:a.le b)(h':b.le c):a.le c:=fun x l hl=>by
 obtain⟨l1,h1,e1⟩:=h x l hl
 obtain⟨l2,h2,e2⟩:=h' x l1 h1
 refine⟨l2,h2,?_⟩
 rcases e1 with rfl|⟨a1,v1⟩
 ·exact e2
 ·rcases e2 with rfl|⟨_,v2⟩
  ·exact .inr ⟨a1,v1⟩
  ·exact .inr ⟨a1,by omega⟩
theorem lI(ρ:Map):dH.le ρ:=fun _ _ h=>by cases h
def dO(F:Nat→Prop)(w w':World):Prop:=∀B,F B→w'.heap[B]?=w.heap[B]?
theorem dO.cell{F:Nat→Prop}{w w':World}(h:dO F w w'){B o:Nat}(hB:F B):w'.cell? ⟨B,o,none⟩=w.cell? ⟨B,o,none⟩:=by
 simp only[World.cell?,h B hB]
theorem VR.mono{w w':World}{F F':Nat→Prop}(hk:dO F w w')(hF:∀B,F B→F' B){ρ:Map}{c:SV}{v:Value}
 (h:VR w F ρ c v):∀{ρ':Map},ρ.le ρ'→VR w' F' ρ' c v:=by
 induction h with
 |undef v=>exact fun _=>.undef v
 |jy=>exact fun _=>.jy
 |bool b=>exact fun _=>.bool b
 |int k n=>exact fun _=>.int k n
 |str s=>exact fun _=>.str s
 |dj=>exact fun _=>.dj
 |dy=>exact fun _=>.dy
 |ptr h hv hc ha=>
  intro ρ' hle
  obtain⟨l',h',e⟩:=hle _ _ h
  rcases e with rfl|⟨_,hlt⟩
  ·exact .ptr h' hv hc ha
  ·exact .ptr h' (by omega) hc (fun e=>by omega)
 |bn h hv hc ha=>
  intro ρ' hle
  obtain⟨l',h',e⟩:=hle _ _ h
  rcases e with rfl|⟨_,hlt⟩
  ·exact .bn h' hv hc ha
  ·exact .bn h' (by omega) hc (fun e=>by omega)
 |fP h ha=>
  intro ρ' hle
  obtain⟨l',h',e⟩:=hle _ _ h
  rcases e with rfl|⟨ht,_⟩
  ·exact .fP h' ha
  ·rw[ha]at ht;cases ht
 |mp h ha=>
  intro ρ' hle
  obtain⟨l',h',e⟩:=hle _ _ h
  rcases e with rfl|⟨ht,_⟩
  ·exact .mp h' ha
  ·rw[ha]at ht;cases ht
 |fY V hB hc h1 hv ih=>
  intro ρ' _
  exact .fY V (hF _ hB) (fun j c hj=>by rw[hk.cell hB];exact hc j c hj) h1 (fun j c hj=>ih j c hj (lI _))
 |ao V hcap hfull hz hat h1 hv ih=>
  intro ρ' _
  refine .ao V hcap hfull hz ?_ h1 (fun i j cs c hi hj=>ih i j cs c hi hj (lI _))
  rcases hat with h0|⟨B,o,ha,hB,hc⟩
  ·exact .inl h0
  ·exact .inr ⟨B,o,ha,hF _ hB,fun i j cs c hi hj=>by rw[hk.cell hB];exact hc i j cs c hi hj⟩
 |agg hn h1 hv ih=>
  intro ρ' hle
  exact .agg hn h1 (fun j c v hj hv=>ih j c v hj hv hle)
 |bc hn hv ih=>
  intro ρ' hle
  exact .bc hn (fun j c v hj hv=>ih j c v hj hv hle)
 |fn hn hv ih=>
  intro ρ' hle
  exact .fn hn (fun j c v hj hv=>ih j c v hj hv hle)
 |pO hn hv ih=>
  intro ρ' hle
  exact .pO hn (fun j c v hj hv=>ih j c v hj hv hle)
def Map.cut(ρ:Map)(N:Nat):Map:=fun b=>if b<N then ρ b else none
theorem Map.uv(ρ:Map)(N:Nat):(ρ.cut N).le ρ:=fun b l h=>by
 unfold Map.cut at h
 split at h
 ·exact⟨l,h,.inl rfl⟩
 ·cases h
theorem fh{cs:List SV}{N:Nat}(h:SV.refs.av cs≤N):∀(j:Nat) c,cs[j]?=some c→c.refs≤N:=by
 induction cs with
 |nil=>intro j c hj;simp at hj
 |cons x r ih=>
  intro j c hj
  simp only[SV.refs.av]at h
  cases j with
  |zero=>simp at hj;subst hj;omega
  |succ j=>simp at hj;exact ih (by omega) j c hj
theorem VR.cut{w:World}{F:Nat→Prop}{ρ:Map}{c:SV}{v:Value}(h:VR w F ρ c v):∀N,c.refs≤N→VR w F (ρ.cut N) c v:=by
 have at':∀{ρ:Map} {b N:Nat} {l:Loc},ρ b=some l→b+1≤N→ρ.cut N b=some l:=fun h hb=>by
  unfold Map.cut;rw[if_pos (by omega)];exact h
 induction h with
 |undef v=>exact fun _ _=>.undef v
 |jy=>exact fun _ _=>.jy
 |bool b=>exact fun _ _=>.bool b
 |int k n=>exact fun _ _=>.int k n
 |str s=>exact fun _ _=>.str s
 |dj=>exact fun _ _=>.dj
 |dy=>exact fun _ _=>.dy
 |ptr h hv hc ha=>exact fun N hN=>.ptr (at' h hN) hv hc ha
 |bn h hv hc ha=>exact fun N hN=>.bn (at' h hN) hv hc ha
 |fP h ha=>exact fun N hN=>.fP (at' h hN) ha
 |mp h ha=>exact fun N hN=>.mp (at' h hN) ha
 |fY V hB hc h1 hv ih=>exact fun N _=>.fY V hB hc h1 hv
 |ao V hcap hfull hz hat h1 hv ih=>exact fun N _=>.ao V hcap hfull hz hat h1 hv
 |agg hn h1 hv ih=>exact fun N hN=>.agg hn h1 (fun j c v hj hv=>ih j c v hj hv N (fh hN j c hj))
 |bc hn hv ih=>exact fun N hN=>.bc hn (fun j c v hj hv=>ih j c v hj hv N (fh hN j c hj))
 |fn hn hv ih=>exact fun N hN=>.fn hn (fun j c v hj hv=>ih j c v hj hv N (fh hN j c hj))
 |pO hn hv ih=>exact fun N hN=>.pO hn (fun j c v hj hv=>ih j c v hj hv N (fh hN j c hj))
def nV:mA→Option Code
 | .normal=>none
 | .exit id=>some (.exit id)
 | .ret=>some .ret
def ER(w:World)(F:Nat→Prop)(ρ:Map)(e:Env)(tmps:Array Value):Prop:=∀t,VR w F ρ (get e t) (tmps.getD t undef)
structure Ctx where
 P:Program
 dL:Bw
def kF(fz:Nat×Nat)(n:Nat):Prop:=∀o,o<n→(decide (fz.1≤o)&&decide (o<fz.2))=false
def bI(w:World)(F:Nat→Prop)(ρ:Map)(vs:Array Value)(at_:Nat)(cs:List SV):Prop:=
 ∀(j:Nat) c,cs[j]?=some c→∃v,vs[at_+j]?=some v∧VR w F ρ c v∧c.je=true
def mX(w:World)(F:Nat→Prop)(ρ:Map):List MapEntry→List (SV×SV)→Prop
 |[],[]=>True
 |e::en,(k,v)::es=>pE k=some e.key∧v.je=true∧VR w F ρ v e.val∧mX w F ρ en es
 |_,_=>False
def BR(C:Ctx)(w:World)(F:Nat→Prop)(ρ:Map)(l:Loc):aC→Prop
 | .dead=>True
 | .box cs=>l.bC=false∧l.arr=false∧l.base=0∧l.cC=0∧l.bP=cs.length∧∃vs ty fz,w.heap[l.cm]?=some (.cells vs ty fz)∧kF fz vs.size∧vs.size=cs.length∧bI w F ρ vs 0 cs
 | .arr cC z L exact=>l.arr=true∧l.cC=cC∧l.bP=z∧(∀(i:Nat) cs,L[i]?=some cs→cs.length=z)∧L.length≤l.cap∧(exact=true→l.cap=L.length)∧
    (l.bC=true→l.cap=0)∧
    (l.bC=false→∃vs ty fz,w.heap[l.cm]?=some (.cells vs ty fz)∧kF fz vs.size∧l.base+l.cap*z≤vs.size∧
      ∀(i:Nat) cs,L[i]?=some cs→bI w F ρ vs (l.base+i*z) cs)
 | .loop r st pend=>l.bC=false∧l.arr=false∧∃q:Loop,w.heap[l.cm]?=some (.loop q)∧q.state=st∧q.pending=nV pend∧q.params.toList=r.ps∧
    (∃g nt,nt≤q.tmps.size∧(∀t∈r.ps,t<nt)∧eG C.P C.dL g nt q.assign=some r.assign∧eG C.P C.dL g nt q.body=some r.body)∧ER w F ρ r.env q.tmps
 | .map es=>l.bC=false∧l.arr=false∧∃(en:Array MapEntry) (cl:Nat),w.heap[l.cm]?=some (.map en cl)∧mX w F ρ en.toList es
section
def aC.live:aC→Bool
 | .dead=>false
 |_=>true
def Own(ρ:Map)(H:ab)(b:Nat)(l:Loc):Prop:=(∃x,H.bl[b]?=some x∧x.live=true)∧ρ b=some l∧l.bC=false
structure HR(C:Ctx)(ρ:Map)(F:Nat→Prop)(H:ab)(w:World):Prop where
 jT:∀b l,ρ b=some l→b<H.bl.length
 live:∀(b:Nat) x,H.bl[b]?=some x→x.live=true→∃l,ρ b=some l∧BR C w F ρ l x
 apart:∀b b' l l',Own ρ H b l→Own ρ H b' l'→l.cm=l'.cm→b=b'
 own:∀b l,Own ρ H b l→¬F l.cm∧l.cm<w.heap.size
 iM:∀B,F B→B<w.heap.size
def Clean(N:Nat)(es:List (Nat×Nat)):Prop:=∀p∈es,¬(p.1<N∧N<p.2)
def Cm(C:Ctx)(N:Nat)(ρ:Map)(F:Nat→Prop)(H:ab)(w:World):Prop:=∀b x l,b<N→H.bl[b]?=some x→x.live=true→ρ b=some l→BR C w F (ρ.cut N) l x
structure Ext0(C:Ctx)(ρ:Map)(F:Nat→Prop)(H:ab)(w:World)(ρ':Map)(F':Nat→Prop)(H':ab)(w':World):Prop where
 map:∀b l,ρ b=some l→∃l',ρ' b=some l'∧(l'=l∨(H.ro≤b∧l.arr=true∧l.cC<l'.cC))
 iM:∀B,F B→F' B
 new:∀B,F' B→F B∨w.heap.size≤B∨∃b l,Own ρ H b l∧H.ro≤b∧l.cm=B
 frame:∀B,B<w.heap.size→(∀b l,Own ρ H b l→H.ro≤b→l.cm≠B)→w'.heap[B]?=w.heap[B]?
 size:w.heap.size≤w'.heap.size
 old:∀b l',Own ρ' H' b l'→w.heap.size≤l'.cm∨∃l,Own ρ H b l∧l.cm=l'.cm
 ro:H'.ro=H.ro
 bT:∀p∈H.bT,p∈H'.bT
 inv:∀N,N≤H'.bl.length→Clean N H'.bT→(N≤H.bl.length→Cm C N ρ F H w)→Cm C N ρ' F' H' w'
 lp:∀(B:Nat) (q:Loop),w.heap[B]?=some (.loop q)→∃q':Loop,w'.heap[B]?=some (.loop q')
 ln:H.bl.length≤H'.bl.length
 out:w'.os=w.os∧w'.output=w.output
structure Ext(C:Ctx)(ρ:Map)(F:Nat→Prop)(H:ab)(w:World)(ρ':Map)(F':Nat→Prop)(H':ab)(w':World):Prop extends Ext0 C ρ F H w ρ' F' H' w' where
 nd:∀b l',ρ' b=some l'→(∃l,ρ b=some l)∨H.bl.length≤b
section
variable{C:Ctx}{ρ ρ' ρ'':Map}{F F' F'':Nat→Prop}{H H' H'':ab}{w w' w'':World}
theorem Ext.refl(ρ:Map)(F:Nat→Prop)(H:ab)(w:World):Ext C ρ F H w ρ F H w:=
 ⟨⟨fun _ l h=>⟨l,h,.inl rfl⟩,fun _ h=>h,fun _ h=>.inl h,fun _ _ _=>rfl,acH _,fun _ l h=>.inr ⟨l,h,rfl⟩,rfl,fun _ h=>h,fun N hN _ h=>h hN,fun _ q h=>⟨q,h⟩,acH _,⟨rfl,rfl⟩⟩,fun _ l h=>.inl ⟨l,h⟩⟩
theorem Ext0.trans(h:Ext0 C ρ F H w ρ' F' H' w')(h':Ext0 C ρ' F' H' w' ρ'' F'' H'' w''):Ext0 C ρ F H w ρ'' F'' H'' w'' where
 map:=fun b l hl=>by
  obtain⟨l1,h1,e1⟩:=h.map b l hl
  obtain⟨l2,h2,e2⟩:=h'.map b l1 h1
  refine⟨l2,h2,?_⟩
  rcases e1 with rfl|⟨r1,a1,v1⟩
  ·rcases e2 with rfl|⟨r2,a2,v2⟩
   ·exact .inl rfl
   ·exact .inr ⟨h.ro▸r2,a2,v2⟩
  ·rcases e2 with rfl|⟨_,_,v2⟩
   ·exact .inr ⟨r1,a1,v1⟩
   ·exact .inr ⟨r1,a1,by omega⟩
 iM:=fun B hB=>h'.iM B (h.iM B hB)
 new:=fun B hB=>by
  rcases h'.new B hB with h1|h1|⟨b,l,ho,hr,rfl⟩
  ·exact h.new B h1
  ·exact .inr (.inl (ac7 h.size h1))
  ·rcases h.old b l ho with h2|⟨l0,h2,e2⟩
   ·exact .inr (.inl h2)
   ·exact .inr (.inr ⟨b,l0,h2,h.ro▸hr,e2⟩)
 frame:=fun B hB hno=>by
  rw[h'.frame B (adJ hB h.size) (fun b l ho hr e=>?_),h.frame B hB hno]
  rcases h.old b l ho with h2|⟨l0,h2,e2⟩
  ·omega
  ·exact hno b l0 h2 (h.ro▸hr) (e2.trans e)
 size:=ac7 h.size h'.size
 old:=fun b l ho=>by
  rcases h'.old b l ho with h1|⟨l1,h1,e1⟩
  ·exact .inl (ac7 h.size h1)
  ·rcases h.old b l1 h1 with h2|⟨l0,h2,e2⟩
   ·exact .inl (e1▸h2)
   ·exact .inr ⟨l0,h2,e2.trans e1⟩
 ro:=h'.ro.trans h.ro
 bT:=fun p hp=>h'.bT p (h.bT p hp)
 inv:=fun N hN hc h0=>h'.inv N hN hc (fun hN'=>h.inv N hN' (fun p hp=>hc p (h'.bT p hp)) h0)
 lp:=fun B q hq=>let⟨q1,h1⟩:=h.lp B q hq;h'.lp B q1 h1
 ln:=ac7 h.ln h'.ln
 out:=⟨h'.out.1.trans h.out.1,h'.out.2.trans h.out.2⟩
theorem Ext.trans(h:Ext C ρ F H w ρ' F' H' w')(h':Ext C ρ' F' H' w' ρ'' F'' H'' w''):Ext C ρ F H w ρ'' F'' H'' w'':=
 ⟨h.toExt0.trans h'.toExt0,fun b l hl=>by
   rcases h'.nd b l hl with⟨l1,h1⟩|h1
   ·exact h.nd b l1 h1
   ·exact .inr (ac7 h.ln h1)⟩
theorem Ext0.le(h:Ext0 C ρ F H w ρ' F' H' w'):ρ.le ρ':=fun b l hl=>by
 obtain⟨l',h1,e⟩:=h.map b l hl
 exact⟨l',h1,e.imp id (fun⟨_,a,v⟩=>⟨a,v⟩)⟩
theorem Ext0.keeps(h:Ext0 C ρ F H w ρ' F' H' w')(hr:HR C ρ F H w):dO F w w':=fun B hB=>
 h.frame B (hr.iM B hB) (fun b l ho _ e=>(hr.own b l ho).1 (e▸hB))
theorem Ext0.vr(h:Ext0 C ρ F H w ρ' F' H' w')(hr:HR C ρ F H w){c:SV}{v:Value}(hv:VR w F ρ c v):VR w' F' ρ' c v:=
 hv.mono (h.keeps hr) h.iM h.le
theorem Ext0.er(h:Ext0 C ρ F H w ρ' F' H' w')(hr:HR C ρ F H w){e:Env}{t:Array Value}(hv:ER w F ρ e t):ER w' F' ρ' e t:=
 fun i=>h.vr hr (hv i)
theorem bI.mono(hk:dO F w w')(hF:∀B,F B→F' B)(hle:ρ.le ρ'){vs:Array Value}{n:Nat}{cs:List SV}(h:bI w F ρ vs n cs):bI w' F' ρ' vs n cs:=
 fun j c hj=>let⟨v,hv,hr,h1⟩:=h j c hj;⟨v,hv,hr.mono hk hF hle,h1⟩
theorem mX.mono(hk:dO F w w')(hF:∀B,F B→F' B)(hle:ρ.le ρ'):∀{en:List MapEntry} {es:List (SV×SV)},mX w F ρ en es→mX w' F' ρ' en es
 |[],[],_=>trivial
 |_::_,(_,_)::_,⟨h1,h2,h3,h4⟩=>⟨h1,h2,h3.mono hk hF hle,mX.mono hk hF hle h4⟩
 |[],_::_,h=>h.elim
 |_::_,[],h=>h.elim
theorem BR.mono(hk:dO F w w')(hF:∀B,F B→F' B)(hle:ρ.le ρ'){l:Loc}{x:aC}(hb:l.bC=false→w'.heap[l.cm]?=w.heap[l.cm]?)
 (h:BR C w F ρ l x):BR C w' F' ρ' l x:=by
 cases x with
 |dead=>trivial
 |box cs=>
  obtain⟨h1,h2,h3,h4,h5,vs,ty,fz,h6,h7,h8,h9⟩:=h
  exact⟨h1,h2,h3,h4,h5,vs,ty,fz,(hb h1).trans h6,h7,h8,h9.mono hk hF hle⟩
 |arr cC z L exact'=>
  obtain⟨h1,h2,h3,h4,h5,h6,h7,h8⟩:=h
  refine⟨h1,h2,h3,h4,h5,h6,h7,fun hv=>?_⟩
  obtain⟨vs,ty,fz,a,b,c,d⟩:=h8 hv
  exact⟨vs,ty,fz,(hb hv).trans a,b,c,fun i cs hi=>(d i cs hi).mono hk hF hle⟩
 |loop r st pend=>
  obtain⟨h1,h2,q,h3,h4,h5,h6,h7,h8⟩:=h
  exact⟨h1,h2,q,(hb h1).trans h3,h4,h5,h6,h7,fun t=>(h8 t).mono hk hF hle⟩
 |map es=>
  obtain⟨h1,h2,en,cl,h3,h4⟩:=h
  exact⟨h1,h2,en,cl,(hb h1).trans h3,h4.mono hk hF hle⟩
theorem HR.same(hr:HR C ρ F H w)(hs:w.heap.size≤w'.heap.size)(hh:∀B,B<w.heap.size→w'.heap[B]?=w.heap[B]?)(hout:w'.os=w.os∧w'.output=w.output:=by exact⟨rfl,rfl⟩):HR C ρ F H w'∧Ext C ρ F H w ρ F H w':=by
 have hk:dO F w w':=fun B hB=>hh B (hr.iM B hB)
 refine⟨⟨hr.jT,fun b x hb hx=>?_,hr.apart,fun b l ho=>⟨(hr.own b l ho).1,adJ (hr.own b l ho).2 hs⟩,fun B hB=>adJ (hr.iM B hB) hs⟩,?_⟩
 ·obtain⟨l,hl,hbr⟩:=hr.live b x hb hx
  exact⟨l,hl,hbr.mono hk (fun _ h=>h) (Map.le_refl _) (fun hv=>hh _ (hr.own b l ⟨⟨x,hb,hx⟩,hl,hv⟩).2)⟩
 ·refine⟨⟨fun _ l h=>⟨l,h,.inl rfl⟩,fun _ h=>h,fun _ h=>.inl h,fun B hB _=>hh B hB,hs,fun _ l h=>.inr ⟨l,h,rfl⟩,rfl,fun _ h=>h,fun N hN _ h0 b x l hb hx hxl hl=>?_,fun B q hq=>⟨q,(hh B (ac6.1 hq).1).trans hq⟩,acH _,hout⟩,fun _ l h=>.inl ⟨l,h⟩⟩
  exact(h0 hN b x l hb hx hxl hl).mono hk (fun _ h=>h) (Map.le_refl _) (fun hv=>hh _ (hr.own b l ⟨⟨x,hx,hxl⟩,hl,hv⟩).2)
def Map.put(ρ:Map)(b:Nat)(l:Loc):Map:=fun b'=>if b'=b then some l else ρ b'
theorem Map.bG(ρ:Map)(b:Nat)(l:Loc):ρ.put b l b=some l:=by simp[Map.put]
theorem Map.bp(ρ:Map){b b':Nat}(l:Loc)(h:b'≠b):ρ.put b l b'=ρ b':=by simp[Map.put,h]
theorem HR.push(hr:HR C ρ F H w)(hs:w.heap.size≤w'.heap.size)(hh:∀B,B<w.heap.size→w'.heap[B]?=w.heap[B]?)
 (x:aC) (l:Loc) (hl:l.bC=false→w.heap.size≤l.cm∧l.cm<w'.heap.size) (hx:BR C w' F (ρ.put H.bl.length l) l x) (hout:w'.os=w.os∧w'.output=w.output:=by exact⟨rfl,rfl⟩) :
 HR C (ρ.put H.bl.length l) F (bJ H x) w'∧Ext C ρ F H w (ρ.put H.bl.length l) F (bJ H x) w':=by
 have hne:∀b l',ρ b=some l'→b≠H.bl.length:=fun b l' h=>ael (hr.jT b l' h)
 have hle:ρ.le (ρ.put H.bl.length l):=fun b l' h=>⟨l',by rw[Map.bp _ _ (hne b l' h)];exact h,.inl rfl⟩
 have hk:dO F w w':=fun B hB=>hh B (hr.iM B hB)
 have hown:∀b l',Own (ρ.put H.bl.length l) (bJ H x) b l'→(b=H.bl.length∧l'=l)∨Own ρ H b l':=by
  intro b l' ⟨⟨y,hy,hyl⟩,hm,hv⟩
  by_cases hb:b=H.bl.length
  ·subst hb
   rw[Map.bG]at hm
   exact .inl ⟨rfl,by cases hm;rfl⟩
  ·rw[Map.bp _ _ hb]at hm
   refine .inr ⟨⟨y,?_,hyl⟩,hm,hv⟩
   have hlt:=hr.jT b l' hm
   simpa[bJ,acF hlt]using hy
 refine⟨⟨fun b l' h=>?_,fun b y hb hy=>?_,fun b b' l1 l2 h1 h2 he=>?_,fun b l' ho=>?_,fun B hB=>adJ (hr.iM B hB) hs⟩,?_⟩
 ·by_cases hb:b=H.bl.length
  ·subst hb;simp[bJ]
  ·rw[Map.bp _ _ hb]at h
   have:=hr.jT b l' h
   simp[bJ];omega
 ·by_cases hb':b=H.bl.length
  ·subst hb'
   simp[bJ]at hb
   subst hb
   exact⟨l,Map.bG _ _ _,hx⟩
  ·have hlt:b<H.bl.length:=by
    have:=(acm.1 hb).1
    simp[bJ]at this;omega
   rw[bJ,acF hlt]at hb
   obtain⟨l',hl',hbr⟩:=hr.live b y hb hy
   exact⟨l',by rw[Map.bp _ _ hb'];exact hl',hbr.mono hk (fun _ h=>h) hle (fun hv=>hh _ (hr.own b l' ⟨⟨y,hb,hy⟩,hl',hv⟩).2)⟩
 ·rcases hown b l1 h1 with⟨e1,f1⟩|o1<;>rcases hown b' l2 h2 with⟨e2,f2⟩|o2
  ·rw[e1,e2]
  ·subst f1
   have:=(hr.own b' l2 o2).2
   have:=(hl h1.2.2).1
   omega
  ·subst f2
   have:=(hr.own b l1 o1).2
   have:=(hl h2.2.2).1
   omega
  ·exact hr.apart b b' l1 l2 o1 o2 he
 ·rcases hown b l' ho with⟨_,f1⟩|o1
  ·subst f1
   have h1:=hl ho.2.2
   exact⟨fun hF=>by have:=hr.iM _ hF;omega,h1.2⟩
  ·have h1:=hr.own b l' o1
   exact⟨h1.1,adJ h1.2 hs⟩
 ·refine⟨⟨fun b l' h=>⟨l',by rw[Map.bp _ _ (hne b l' h)];exact h,.inl rfl⟩,fun _ h=>h,fun _ h=>.inl h,fun B hB _=>hh B hB,hs,fun b l' ho=>?_,rfl,fun _ h=>h,fun N hN _ h0 b y l' hb hy hyl hm=>?_,fun B q hq=>⟨q,(hh B (ac6.1 hq).1).trans hq⟩,by simp[bJ],hout⟩,fun b l' h=>?_⟩
  ·rcases hown b l' ho with⟨_,f1⟩|o1
   ·subst f1;exact .inl (hl ho.2.2).1
   ·exact .inr ⟨l',o1,rfl⟩
  ·have hN':N≤H.bl.length+1:=by simpa[bJ]using hN
   by_cases hb':b=H.bl.length
   ·subst hb'
    rw[Map.bG]at hm;cases hm
    simp[bJ]at hy
    subst hy
    refine hx.mono (fun _ _=>rfl) (fun _ h=>h) (fun b1 l1 h1=>⟨l1,?_,.inl rfl⟩) (fun _=>rfl)
    have:b1<N:=by
     by_cases e:b1=H.bl.length
     ·omega
     ·rw[Map.bp _ _ e]at h1
      have:=hr.jT b1 l1 h1
      omega
    simp[Map.cut,this,h1]
   ·have hlt:b<H.bl.length:=by omega
    rw[Map.bp _ _ hb']at hm
    rw[bJ,acF hlt]at hy
    have hsm:=fun hv=>hh l'.cm (hr.own b l' ⟨⟨y,hy,hyl⟩,hm,hv⟩).2
    by_cases hNl:N≤H.bl.length
    ·refine(h0 hNl b y l' hb hy hyl hm).mono hk (fun _ h=>h) (fun b1 l1 h1=>⟨l1,?_,.inl rfl⟩) hsm
     unfold Map.cut at h1⊢
     split at h1
     ·rename_i h2;rw[if_pos h2,Map.bp _ _ (by omega)];exact h1
     ·cases h1
    ·obtain⟨l2,h2,hbr⟩:=hr.live b y hy hyl
     rw[hm]at h2;cases h2
     refine hbr.mono hk (fun _ h=>h) (fun b1 l1 h1=>⟨l1,?_,.inl rfl⟩) hsm
     have:=hr.jT b1 l1 h1
     unfold Map.cut
     rw[if_pos (by omega),Map.bp _ _ (by omega)];exact h1
  ·by_cases hb':b=H.bl.length
   ·exact .inr (by omega)
   ·rw[Map.bp _ _ hb']at h;exact .inl ⟨l',h⟩
theorem HR.set(hr:HR C ρ F H w){b:Nat}{x y:aC}{l l':Loc}{refs:Nat}(hH:ca H b y refs=some H')(hb:H.bl[b]?=some x)(hx:x.live=true)(hl:ρ b=some l)
 (hs:w.heap.size≤w'.heap.size) (hh:∀B,B<w.heap.size→(l.bC=false→B≠l.cm)→w'.heap[B]?=w.heap[B]?)
 (hl':l'.bC=false→(l.bC=false∧l'.cm=l.cm)∨(w.heap.size≤l'.cm∧l'.cm<w'.heap.size))
 (hver:l'=l∨(l.arr=true∧l.cC<l'.cC))
 (hy:y.live=true→BR C w' F (ρ.put b l') l' y) (hcut:y.live=true→∀N,refs≤N→b<N→BR C w F (ρ.cut N) l x→BR C w' F ((ρ.put b l').cut N) l' y)
 (hlk:(∃r st p,x=.loop r st p)→∃r st p,y=.loop r st p:=by(rintro⟨_,_,_,h⟩;cases h)) (hout:w'.os=w.os∧w'.output=w.output:=by exact⟨rfl,rfl⟩) :
 HR C (ρ.put b l') F H' w'∧Ext C ρ F H w (ρ.put b l') F H' w':=by
 have hro:H.ro≤b∧b<H.bl.length∧H'.bl=H.bl.set b y∧H'.ro=H.ro∧H'.bT=(bif decide (refs≤b+1)then H.bT else(b,refs)::H.bT):=by
  unfold ca at hH
  by_cases h:(decide (H.ro≤b)&&decide (b<H.bl.length))=true
  ·rw[h]at hH
   simp at h
   simp only[acG,acN]at hH
   subst hH
   exact⟨h.1,h.2,rfl,rfl,rfl⟩
  ·rw[aeB]at h;rw[h]at hH;simp at hH
 obtain⟨hro,hlt,hbl,hroe,hesc⟩:=hro
 have hle:ρ.le (ρ.put b l'):=fun b' l1 h=>by
  by_cases e:b'=b
  ·subst e;rw[hl]at h;cases h;exact⟨l',Map.bG _ _ _,hver⟩
  ·exact⟨l1,by rw[Map.bp _ _ e];exact h,.inl rfl⟩
 have hbo:l.bC=false→Own ρ H b l:=fun hv=>⟨⟨x,hb,hx⟩,hl,hv⟩
 have hk:dO F w w':=fun B hB=>hh B (hr.iM B hB) (fun hv e=>(hr.own b l (hbo hv)).1 (e▸hB))
 have bk:∀b',b'≠b→H'.bl[b']?=H.bl[b']?:=fun b' e=>by rw[hbl,acv (Ne.symm e)]
 have hgetb:H'.bl[b]?=some y:=by rw[hbl];simp[hlt]
 have hown:∀b' l1,Own (ρ.put b l') H' b' l1→(b'=b∧l1=l'∧y.live=true)∨(b'≠b∧Own ρ H b' l1):=by
  intro b' l1 ⟨⟨z,hz,hzl⟩,hm,hv⟩
  by_cases e:b'=b
  ·subst e
   rw[Map.bG]at hm;cases hm
   rw[hgetb]at hz;cases hz
   exact .inl ⟨rfl,rfl,hzl⟩
  ·rw[Map.bp _ _ e]at hm
   rw[bk b' e]at hz
   exact .inr ⟨e,⟨z,hz,hzl⟩,hm,hv⟩
 have hsame:∀b' l1,b'≠b→Own ρ H b' l1→w'.heap[l1.cm]?=w.heap[l1.cm]?:=fun b' l1 e ho=>
  hh _ (hr.own b' l1 ho).2 (fun hv h=>e (hr.apart b' b l1 l ho (hbo hv) h))
 refine⟨⟨fun b' l1 h=>?_,fun b' z hz hzl=>?_,fun b1 b2 l1 l2 h1 h2 he=>?_,fun b' l1 ho=>?_,fun B hB=>adJ (hr.iM B hB) hs⟩,?_⟩
 ·rw[hbl,acU]
  by_cases e:b'=b
  ·subst e;exact hlt
  ·rw[Map.bp _ _ e]at h;exact hr.jT b' l1 h
 ·by_cases e:b'=b
  ·subst e
   rw[hgetb]at hz;cases hz
   exact⟨l',Map.bG _ _ _,hy hzl⟩
  ·rw[bk b' e]at hz
   obtain⟨l1,hl1,hbr⟩:=hr.live b' z hz hzl
   exact⟨l1,by rw[Map.bp _ _ e];exact hl1,hbr.mono hk (fun _ h=>h) hle (fun hv=>hsame b' l1 e ⟨⟨z,hz,hzl⟩,hl1,hv⟩)⟩
 ·rcases hown b1 l1 h1 with⟨e1,f1,_⟩|⟨e1,o1⟩<;>rcases hown b2 l2 h2 with⟨e2,f2,_⟩|⟨e2,o2⟩
  ·rw[e1,e2]
  ·subst f1
   rcases hl' h1.2.2 with⟨hv,hq⟩|hq
   ·exact absurd (hr.apart b2 b l2 l o2 (hbo hv) (by rw[←he,hq])) e2
   ·have:=(hr.own b2 l2 o2).2;omega
  ·subst f2
   rcases hl' h2.2.2 with⟨hv,hq⟩|hq
   ·exact absurd (hr.apart b1 b l1 l o1 (hbo hv) (by rw[he,hq])) e1
   ·have:=(hr.own b1 l1 o1).2;omega
  ·exact hr.apart b1 b2 l1 l2 o1 o2 he
 ·rcases hown b' l1 ho with⟨_,f1,_⟩|⟨_,o1⟩
  ·subst f1
   rcases hl' ho.2.2 with⟨hv,hq⟩|hq
   ·have:=hr.own b l (hbo hv)
    exact⟨hq▸this.1,hq▸adJ this.2 hs⟩
   ·exact⟨fun hF=>by have:=hr.iM _ hF;omega,hq.2⟩
  ·have:=hr.own b' l1 o1
   exact⟨this.1,adJ this.2 hs⟩
 ·refine⟨⟨fun b' l1 h=>?_,fun _ h=>h,fun _ h=>.inl h,fun B hB hno=>hh B hB (fun hv e=>hno b l (hbo hv) hro e.symm),hs,fun b' l1 ho=>?_,hroe,fun p hp=>?_,fun N hN hc h0 b' z l1 hb1 hz hzl hm=>?_,fun B q hq=>?_,by rw[hbl,acU];exact acH _,hout⟩,fun b' l1 h=>?_⟩
  ·by_cases e:b'=b
   ·subst e;rw[hl]at h;cases h
    exact⟨l',Map.bG _ _ _,hver.imp id (fun⟨a,v⟩=>⟨hro,a,v⟩)⟩
   ·exact⟨l1,by rw[Map.bp _ _ e];exact h,.inl rfl⟩
  ·rcases hown b' l1 ho with⟨e1,f1,_⟩|⟨e1,o1⟩
   ·subst f1;subst e1
    rcases hl' ho.2.2 with⟨hv,hq⟩|hq
    ·exact .inr ⟨l,hbo hv,hq.symm⟩
    ·exact .inl hq.1
   ·exact .inr ⟨l1,o1,rfl⟩
  ·rw[hesc]
   cases decide (refs≤b+1)with
   |true=>exact hp
   |false=>exact ade _ hp
  ·have hN':N≤H.bl.length:=by rw[hbl,acU]at hN;exact hN
   by_cases e:b'=b
   ·subst e
    rw[hgetb]at hz;cases hz
    rw[Map.bG]at hm;cases hm
    refine hcut hzl N ?_ hb1 (h0 hN' b' x l hb1 hb hx hl)
    by_cases hd:refs≤b'+1
    ·omega
    ·have:(b',refs)∈H'.bT:=by
      rw[hesc];simp[hd]
     have:=hc _ this
     simp only at this
     omega
   ·rw[bk b' e]at hz
    rw[Map.bp _ _ e]at hm
    refine(h0 hN' b' z l1 hb1 hz hzl hm).mono hk (fun _ h=>h) (fun b1 l2 h1=>?_) (fun hv=>hsame b' l1 e ⟨⟨z,hz,hzl⟩,hm,hv⟩)
    unfold Map.cut at h1⊢
    split at h1
    ·rename_i h2
     rw[if_pos h2]
     by_cases e1:b1=b
     ·subst e1;rw[hl]at h1;cases h1;exact⟨l',Map.bG _ _ _,hver⟩
     ·exact⟨l2,by rw[Map.bp _ _ e1];exact h1,.inl rfl⟩
    ·cases h1
  ·have hB:=(ac6.1 hq).1
   by_cases hbl:l.bC=false∧B=l.cm
   ·obtain⟨hv,rfl⟩:=hbl
    obtain⟨l1,hl1,hbr⟩:=hr.live b x hb hx
    rw[hl]at hl1;cases hl1
    cases x with
    |dead=>cases hx
    |box cs=>obtain⟨_,_,_,_,_,vs,ty,fz,h6,_⟩:=hbr;rw[hq]at h6;cases h6
    |arr cC z L ex=>
     obtain⟨_,_,_,_,_,_,_,h8⟩:=hbr
     obtain⟨vs,ty,fz,h6,_⟩:=h8 hv
     rw[hq]at h6;cases h6
    |map es=>obtain⟨_,_,en,cl,h6,_⟩:=hbr;rw[hq]at h6;cases h6
    |loop r st p=>
     obtain⟨r',st',p',rfl⟩:=hlk ⟨r,st,p,rfl⟩
     obtain⟨_,ha,_⟩:=hbr
     have:l'=l:=by
      rcases hver with e|⟨e,_⟩
      ·exact e
      ·rw[ha]at e;cases e
     subst this
     obtain⟨_,_,q',h3,_⟩:=hy rfl
     exact⟨q',h3⟩
   ·exact⟨q,(hh B hB (fun hv e=>hbl ⟨hv,e⟩)).trans hq⟩
  ·by_cases e:b'=b
   ·subst e;exact .inl ⟨l,hl⟩
   ·rw[Map.bp _ _ e]at h;exact .inl ⟨l1,h⟩
end
end
section
section
variable{C:Ctx}{ρ:Map}{F:Nat→Prop}{H H':ab}{w w':World}{e:Env}{a:Act}
theorem aj{A:Type}{c:Bool}{x:Option A}{y:A}(h:(bif c then x else none)=some y):c=true∧x=some y:=by
 cases c with
 |true=>exact⟨rfl,h⟩
 |false=>cases h
theorem oP{A:Type}{l:List (Option A)}{r:List A}(h:bR l=some r):l=r.map some:=by
 induction l generalizing r with
 |nil=>simp[bR]at h;subst h;rfl
 |cons x l ih=>
  cases x with
  |none=>simp[bR]at h
  |some x=>
   simp only[bR,acq]at h
   obtain⟨r',h1,rfl⟩:=h
   rw[ih h1];rfl
theorem eb{A B:Type}{f:A→Option B}{l:List A}{r:List B}(h:bR (l.map f)=some r) :
 r.length=l.length∧∀(j:Nat) x y,l[j]?=some x→r[j]?=some y→f x=some y:=by
 have h1:=oP h
 have hl:r.length=l.length:=by have:=congrArg List.length h1;simpa using this.symm
 refine⟨hl,fun j x y hx hy=>?_⟩
 have h2:=congrArg (·[j]?) h1
 simp[hx,hy]at h2
 exact h2
theorem uw:∀(d:Nat) {v:Value} {s:SV},mZ d v=some s→VR w F ρ s v:=by
 intro d
 induction d with
 |zero=>intro v s h;simp[mZ]at h
 |succ d ih=>
  intro v s h
  unfold mZ at h
  split at h
  ·cases h;exact .bool _
  ·cases h;exact .int _ _
  ·cases h;exact .str _
  ·cases h;exact .dj
  ·cases h
   exact VR.ao (L:=[]) (fun _ _=>undef) (acH _) (fun _=>rfl) (by simp) (.inl rfl) (by simp) (by simp)
  ·cases h;exact .dy
  ·rename_i cs
   simp only[acu]at h
   obtain⟨r,h1,h2⟩:=h
   by_cases hok:r.all SV.je=true
   ·rw[hok]at h2
    simp only[acG,acN]at h2
    subst h2
    obtain⟨hl,hp⟩:=eb h1
    refine .agg (by simpa using hl) (fun j c hj=>?_) (fun j c v hj hv=>ih (hp j v c (by simpa using hv) hj))
    exact acZ.1 hok c (acy hj)
   ·rw[aeB]at hok;rw[hok]at h2;simp at h2
  ·cases h
theorem aZ{x:Operand}{y:bX}(h:bA x=some y)(he:ER w F ρ e a.tmps):VR w F ρ (ev e y) (a.eval x):=by
 unfold bA at h
 split at h
 ·cases h;exact he _
 ·simp only[acq]at h
  obtain⟨s,h1,rfl⟩:=h
  exact uw 2 h1
 ·cases h
  exact .fn rfl (by simp)
 ·cases h
theorem jm{xs:Array Operand}{ys:List bX}(h:jo xs=some ys)(he:ER w F ρ e a.tmps) :
 (ys.map (ev e)).length=xs.size∧∀(j:Nat) c v,(ys.map (ev e))[j]?=some c→(xs.map a.eval)[j]?=some v→VR w F ρ c v:=by
 obtain⟨hl,hp⟩:=eb h
 refine⟨by simpa using hl,fun j c v hc hv=>?_⟩
 simp at hc hv
 obtain⟨y,hy,rfl⟩:=hc
 obtain⟨x,hx,rfl⟩:=hv
 exact aZ (hp j x y (by simpa using hx) hy) he
def dJ(C:Ctx)(ρ:Map)(F:Nat→Prop)(H:ab)(w:World)(v:SV)(H':ab)(val:Value)(w':World):Prop:=
 ∃ρ' F',VR w' F' ρ' v val∧HR C ρ' F' H' w'∧Ext C ρ F H w ρ' F' H' w'
theorem dJ.same(hr:HR C ρ F H w){v:SV}{val:Value}(hv:VR w F ρ v val):dJ C ρ F H w v H val w:=⟨ρ,F,hv,hr,Ext.refl _ _ _ _⟩
def Hr(P:Program)(w:World)(s:Sem Next)(val:Value)(w':World):Prop:=s.run P w=.ok (.value val) w'∨(s.run P w=.ok .skip w'∧val=undef)
def bL(C:Ctx)(s:Sem Next)(ρ:Map)(F:Nat→Prop)(H:ab)(w:World)(v:SV)(H':ab):Prop:=
 ∃val w',Hr C.P w s val w'∧dJ C ρ F H w v H' val w'
theorem bL.val{s:Sem Value}(hr:HR C ρ F H w){v:SV}{val:Value}(hs:s.run C.P w=.ok val w)(hv:VR w F ρ v val) :
 bL C (do pure (.value (←s))) ρ F H w v H:=
 ⟨val,w,.inl (by simp[hs,pure,Sem.run]),dJ.same hr hv⟩
theorem bL.vb{s:Sem Value}{v:SV}{val:Value}(hs:s.run C.P w=.ok val w')(hd:dJ C ρ F H w v H' val w') :
 bL C (do pure (.value (←s))) ρ F H w v H':=
 ⟨val,w',.inl (by simp[hs,pure,Sem.run]),hd⟩
theorem fL{cs:List SV}{v:Value}(h:VR w F ρ (.agg cs) v):∃vs,v=.agg vs∧cs.length=vs.size∧bI w F ρ vs 0 cs:=by
 cases h with
 |agg hn h1 hv=>
  rename_i vs
  refine⟨vs,rfl,hn,fun j c hj=>?_⟩
  have hlt:=(acm.1 hj).1
  have hv':vs[j]?=some vs[j]:=adD (by omega)
  exact⟨vs[j],by simpa using hv',hv j c _ hj hv',h1 j c hj⟩
theorem ie{c:SV}{cs:List SV}{v:Value}(h:cq c=some cs)(hv:VR w F ρ c v):cs.length=v.cells.size∧bI w F ρ v.cells 0 cs∧c.refs=SV.refs.av cs:=by
 unfold cq at h
 split at h
 ·cases h
  obtain⟨vs,rfl,h1,h2⟩:=fL hv
  exact⟨h1,h2,rfl⟩
 ·rename_i hna
  by_cases hok:c.je=true
  ·rw[hok]at h
   simp only[acG,acN]at h
   subst h
   have h1:=hv.one hok
   have hc:v.cells= #[v]:=by cases v<;>simp_all [Value.cells,jX]
   rw[hc]
   refine⟨rfl,fun j d hj=>?_,by simp[SV.refs.av]⟩
   cases j with
   |zero=>simp at hj;subst hj;exact⟨v,rfl,hv,hok⟩
   |succ j=>simp at hj
  ·rw[aeB]at hok;rw[hok]at h;simp at h
theorem ry{ag:Bool}{n o at_:Nat}{cs:List SV}{s:SV}{vs:Array Value}(h:dc ag n cs o=some s)(hc:bI w F ρ vs at_ cs)
 (hsz:at_+cs.length≤vs.size):(ag=true→VR w F ρ s (.agg (vs.extract (at_+o) (at_+o+n))))∧(ag=false→∃v,vs[at_+o]?=some v∧VR w F ρ s v):=by
 unfold dc at h
 cases ag with
 |false=>
  refine⟨by simp,fun _=>?_⟩
  simp only[acJ]at h
  obtain⟨v,h1,h2,_⟩:=hc o s h
  exact⟨v,h1,h2⟩
 |true=>
  refine⟨fun _=>?_,by simp⟩
  by_cases hle:o+n≤cs.length
  ·simp[hle]at h
   subst h
   have hj:∀j c,((cs.drop o).take n)[j]?=some c→j<n∧cs[o+j]?=some c:=by
    intro j c hj
    rw[acX]at hj
    split at hj
    ·rw[ado]at hj;exact⟨by assumption,hj⟩
    ·cases hj
   refine .agg (by simp;omega) (fun j c h=>?_) (fun j c v h hv=>?_)
   ·obtain⟨_,h2⟩:=hj j c h
    obtain⟨_,_,_,h3⟩:=hc _ c h2
    exact h3
   ·obtain⟨hlt,h2⟩:=hj j c h
    obtain⟨v',h3,h4,_⟩:=hc _ c h2
    rw[afn]at hv
    have:v'=v:=by
     split at hv
     ·rw[←acD]at h3;rw[h3]at hv;exact aeo hv
     ·cases hv
    exact this▸h4
  ·simp[hle]at h
end
end
section
section
variable{P:Program}{w:World}
theorem fq{t:TypeId}{ag:Bool}(h:jL P t=some ag):(isAgg t).run P w=.ok ag w:=by
 unfold jL at h
 cases hu:P.underlying t with
 |none=>rw[hu]at h;cases h
 |some d=>
  rw[hu]at h
  unfold isAgg
  simp only[Sem.run_bind,run_underlying hu,Result.andThen]
  cases d<;>simp at h<;>subst h<;>rfl
theorem bQ{t:TypeId}{n:Nat}(h:gf P t=some n):(sizeOf t).run P w=.ok n w:=by
 unfold gf at h
 simp only[acq]at h
 obtain⟨i,hi,rfl⟩:=h
 unfold sizeOf
 simp only[Sem.run_bind,run_typeInfo w hi,Result.andThen]
 rfl
theorem dz(B o j:Nat):(⟨B,o,none⟩:Addr).add j=⟨B,o+j,none⟩:=by unfold Addr.add;split<;>simp_all
theorem oh{B o:Nat}{vs:Array Value}{ty:TypeId}{fz:Nat×Nat}(h:w.heap[B]?=some (.cells vs ty fz)):w.cell? ⟨B,o,none⟩=vs[o]?:=by
 simp[World.cell?,h]
theorem kQ{t:TypeId}{ag:Bool}{n:Nat}(hag:jL P t=some ag)(hsz:gf P t=some n){B o:Nat}(f:Nat→Value)
 (hc:∀j,j<(if ag then n else 1)→w.cell? ⟨B,o+j,none⟩=some (f j)) :
 (loadVar t ⟨B,o,none⟩).run P w=.ok (if ag then .agg ((List.range n).map f).toArray else f 0) w:=by
 unfold loadVar
 simp only[Sem.run_bind,fq hag,Result.andThen]
 cases ag with
 |true=>
  simp only[if_true]at hc⊢
  simp only[Sem.run_bind,bQ hsz,Result.andThen,run_loadCells w ⟨B,o,none⟩ n f (fun j hj=>by rw[dz];exact hc j hj)]
  rfl
 |false=>
  have:=hc 0 (by simp)
  simp only[ad9]at this
  simp only[adh,if_false,run_load,this]
theorem qY{t:TypeId}{ag:Bool}{n:Nat}(hag:jL P t=some ag)(hsz:gf P t=some n){B o:Nat}{vs:Array Value}{ty:TypeId}{fz:Nat×Nat}
 (hb:w.heap[B]?=some (.cells vs ty fz)) (hle:o+(if ag then n else 1)≤vs.size) :
 (ag=true→(loadVar t ⟨B,o,none⟩).run P w=.ok (.agg (vs.extract o (o+n))) w)∧(ag=false→∀v,vs[o]?=some v→(loadVar t ⟨B,o,none⟩).run P w=.ok v w):=by
 have h:=kQ (w:=w) hag hsz (B:=B) (o:=o) (fun j=>vs.getD (o+j) undef) (fun j hj=>by
  rw[oh hb]
  have:o+j<vs.size:=by omega
  simp[this])
 constructor
 ·rintro rfl
  rw[h]
  simp only[if_true]at hle⊢
  congr 2
  apply Array.ext
  ·simp;omega
  ·intro i h1 h2
   simp at h1
   have:o+i<vs.size:=by omega
   simp[this]
 ·rintro rfl v hv
  rw[h]
  simp[hv]
def nr(vs:Array Value)(k:Nat)(xs:List Value):Array Value:=(vs.toList.take k++xs++vs.toList.drop (k+xs.length)).toArray
def fA(w:World)(B:Nat)(vs:Array Value)(ty:TypeId)(fz:Nat×Nat):World:={w with heap:=w.heap.setIfInBounds B (.cells vs ty fz)}
theorem iB{B B':Nat}{vs:Array Value}{ty:TypeId}{fz:Nat×Nat}(h:B'≠B):(fA w B vs ty fz).heap[B']?=w.heap[B']?:=by
 simp[fA,adv (Ne.symm h)]
theorem sy{B:Nat}{vs:Array Value}{ty:TypeId}{fz:Nat×Nat}:(fA w B vs ty fz).heap.size=w.heap.size:=by simp[fA]
theorem jB{B:Nat}{vs:Array Value}{ty:TypeId}{fz:Nat×Nat}(h:B<w.heap.size):(fA w B vs ty fz).heap[B]?=some (.cells vs ty fz):=by
 simp[fA,h]
theorem jD{vs:Array Value}{k:Nat}{xs:List Value}(h:k+xs.length≤vs.size):(nr vs k xs).size=vs.size:=by
 simp[nr];omega
theorem j8{vs:Array Value}{k:Nat}{xs:List Value}(h:k+xs.length≤vs.size)(j:Nat) :
 (nr vs k xs)[j]?=if j<k then vs[j]? else if j<k+xs.length then xs[j-k]? else vs[j]?:=by
 unfold nr
 simp only[aem]
 rw[aco,adV]
 have hl:(vs.toList.take k).length=k:=by simp;omega
 rw[hl]
 split
 ·rw[acX];simp[*]
 ·rw[adV]
  split
  ·rw[if_pos (by omega)]
  ·rw[if_neg (by omega),ado]
   simp only[afv]
   congr 1;omega
theorem Iy(v:Value):jX v=v.oneCell':=by cases v<;>rfl
theorem dX(B o:Nat)(ty:TypeId)(fz:Nat×Nat):∀(xs:List Value) (i:Nat) (vs:Array Value) (w:World),w.heap[B]?=some (.cells vs ty fz)→kF fz vs.size→
 o+i+xs.length≤vs.size→(∀v∈xs,jX v=true)→(storeCells ⟨B,o,none⟩ xs i).run P w=.ok () (fA w B (nr vs (o+i) xs) ty fz)
 |[],i,vs,w,hb,ht,hle,h1=>by
  have hB:B<w.heap.size:=(ac6.1 hb).1
  have:nr vs (o+i) []=vs:=by simp[nr]
  rw[this]
  simp only[storeCells]
  have:fA w B vs ty fz=w:=by
   unfold fA
   have:w.heap.setIfInBounds B (.cells vs ty fz)=w.heap:=by
    apply aeX
    intro j
    by_cases e:B=j
    ·subst e;rw[hb];simp[hB]
    ·rw[adv e]
   rw[this]
  rw[this];rfl
 |v::r,i,vs,w,hb,ht,hle,h1=>by
  have hB:B<w.heap.size:=(ac6.1 hb).1
  simp only[acR]at hle
  have hlt:o+i<vs.size:=by omega
  have hcell:w.cell? ⟨B,o+i,none⟩=some vs[o+i]:=by rw[oh hb];simp[hlt]
  have hfz:w.frozen? ⟨B,o+i,none⟩=false:=by simp only[World.frozen?,hb];exact ht _ hlt
  have ca:w.setCell ⟨B,o+i,none⟩ v=fA w B (vs.setIfInBounds (o+i) v) ty fz:=by
   unfold World.setCell fA
   congr 1
   apply aeX
   intro j
   by_cases e:B=j
   ·subst e
    have hb':=(ac6.1 hb).2
    rw[afw]
    simp[hb,hB]
    rw[hb']
   ·rw[adv e]
    simp[afw,e]
  have hst:(store ((⟨B,o,none⟩:Addr).add i) v).run P w=.ok () (fA w B (vs.setIfInBounds (o+i) v) ty fz):=by
   rw[dz,run_store P w _ v _ (by rw[←Iy];exact h1 v (by simp)),hcell]
   simp only[hfz,ca]
   rfl
  have ih:=dX B o ty fz r (i+1) (vs.setIfInBounds (o+i) v) (fA w B (vs.setIfInBounds (o+i) v) ty fz) (jB hB) (by simpa using ht) (by simp;omega) (fun x hx=>h1 x (by simp[hx]))
  simp only[storeCells,Sem.run_bind,hst,Result.andThen_ok,ih]
  congr 1
  unfold fA
  congr 1
  rw[Array.setIfInBounds_setIfInBounds]
  congr 2
  apply aeX
  intro j
  rw[j8 (by simp;omega),j8 (by simp;omega)]
  simp only[acR]
  by_cases e1:j<o+i
  ·rw[if_pos (by omega),if_pos e1,adv (by omega)]
  ·by_cases e2:j=o+i
   ·subst e2
    rw[if_pos (by omega),if_neg (by omega),if_pos (by omega)]
    simp[hlt]
   ·have a1:¬j<o+(i+1):=by omega
    simp only[a1,e1,if_false]
    by_cases e3:j<o+(i+1)+r.length
    ·have e4:j<o+i+(r.length+1):=by omega
     simp only[e3,e4,if_true]
     rw[show j-(o+i)=(j-(o+(i+1)))+1 by omega]
     simp
    ·have e4:¬j<o+i+(r.length+1):=by omega
     simp only[e3,e4,if_false]
     rw[adv (by omega)]
theorem ki{t:TypeId}{n:Nat}(hsz:gf P t=some n){B o:Nat}{vs:Array Value}{ty:TypeId}{fz:Nat×Nat}{v:Value}
 (hb:w.heap[B]?=some (.cells vs ty fz)) (ht:kF fz vs.size) (hn:v.cells.size=n) (hle:o+n≤vs.size) (h1:∀x∈v.cells.toList,jX x=true) :
 (storeVar t ⟨B,o,none⟩ v).run P w=.ok () (fA w B (nr vs o v.cells.toList) ty fz):=by
 unfold storeVar
 simp only[Sem.run_bind,bQ hsz,Result.andThen,hn,ne_eq,not_true,if_false]
 have:=dX (P:=P) B o ty fz v.cells.toList 0 vs w hb ht (by simp;omega) h1
 simp only[ad9]at this
 simpa[Sem.run_bind]using this
end
end
section
section
variable{C:Ctx}{ρ:Map}{F:Nat→Prop}{H H':ab}{w:World}{e:Env}{a:Act}{s:SV}
theorem AX{v:Value}{cs:List SV}(h:bI w F ρ v.cells 0 cs)(hn:cs.length=v.cells.size):∀x∈v.cells.toList,jX x=true:=by
 intro x hx
 obtain⟨j,hj,rfl⟩:=List.mem_iff_getElem.1 hx
 simp at hj
 obtain⟨v',h1,h2,h3⟩:=h j _ (acK (by omega))
 have h4:v'=v.cells.toList[j]:=by
  rw[adr,adD hj]at h1
  simpa using(aeo h1).symm
 rw[←h4]
 exact h2.one h3
theorem xk(hr:HR C ρ F H w){cs:List SV}{vs:Array Value}{ty:TypeId}(hn:cs.length=vs.size)(hc:bI w F ρ vs 0 cs) :
 dJ C ρ F H w (.ptr H.bl.length 0 0 0) (bJ H (.box cs)) (.pointer (some ⟨w.heap.size,0,none⟩)) {w with heap:=w.heap.push (.cells vs ty)}:=by
 let l:Loc:={cm:=w.heap.size,base:=0,cap:=0,bP:=cs.length,cC:=0,bC:=false,arr:=false}
 have hh:∀B,B<w.heap.size→({w with heap:=w.heap.push (.cells vs ty)}:World).heap[B]?=w.heap[B]?:=fun B hB=>by
  simp[aeh,ael hB]
 have hk:dO F w ({w with heap:=w.heap.push (.cells vs ty)}:World):=fun B hB=>hh B (hr.iM B hB)
 have hle:ρ.le (ρ.put H.bl.length l):=fun b l' h=>⟨l',by rw[Map.bp _ _ (ael (hr.jT b l' h))];exact h,.inl rfl⟩
 have hp:=hr.push (w':={w with heap:=w.heap.push (.cells vs ty)}) (by simp) hh (.box cs) l (fun _=>⟨acH _,by simp[l]⟩)
  ⟨rfl,rfl,rfl,rfl,rfl,vs,ty,(0,0),by simp[l],fun o ho=>by simp,hn.symm,hc.mono hk (fun _ h=>h) hle⟩
 exact⟨_,F,.ptr (l:=l) (Map.bG _ _ _) (acH _) rfl (fun _=>⟨rfl,by simp[l]⟩),hp.1,hp.2⟩
theorem CM{x:Operand}{y:bX}(hx:bA x=some y)(hr:HR C ρ F H w)(he:ER w F ρ e a.tmps):bL C (pure (.value (a.eval x))) ρ F H w (ev e y) H:=
 ⟨a.eval x,w,.inl rfl,dJ.same hr (aZ hx he)⟩
theorem eQ{b:Bool}{v:Value}(h:VR w F ρ (.bool b) v):v=.bool b:=by cases h;rfl
theorem gj{k:IntKind}{n:Int}{v:Value}(h:VR w F ρ (.int k n) v):v=.int k n:=by cases h;rfl
theorem jP{t:ByteArray}{v:Value}(h:VR w F ρ (.str t) v):v=.string t:=by cases h;rfl
theorem FL{c x y:Operand}{c' x' y':bX}(hc:bA c=some c')(hx:bA x=some x')(hy:bA y=some y')(hr:HR C ρ F H w)(he:ER w F ρ e a.tmps)
 (h:ld (ev e c') (ev e x') (ev e y')=some s):bL C (do pure (.value (if←asBool (a.eval c)then a.eval x else a.eval y))) ρ F H w s H:=by
 have h1:=aZ hc he
 have h2:=aZ hx he
 have h3:=aZ hy he
 generalize ev e c'=c1,ev e x'=x1,ev e y'=y1 at *
 have key:∀t,c1=.bool t→VR w F ρ s (if t then a.eval x else a.eval y)→bL C (do pure (.value (if←asBool (a.eval c)then a.eval x else a.eval y))) ρ F H w s H:=by
  intro t ht hv
  subst ht
  rw[eQ h1]
  exact⟨_,w,.inl rfl,dJ.same hr hv⟩
 have ht:∃t,c1=.bool t:=by
  unfold ld at h
  split at h
  ·exact⟨_,rfl⟩
  ·exact⟨_,rfl⟩
  ·cases h
 obtain⟨t,rfl⟩:=ht
 refine key t rfl ?_
 unfold ld at h
 split at h
 ·rename_i h0
  cases h
  cases h0
  rw[eQ h2,eQ h3]
  cases t<;>exact .bool _
 ·rename_i t' heq _
  cases heq
  cases t<;>simp at h<;>subst h<;>assumption
 ·cases h
theorem J0{t:TypeId}{x:Operand}{y:bX}(hx:bA x=some y)(hr:HR C ρ F H w)(he:ER w F ρ e a.tmps){cs:List SV}(h:cq (ev e y)=some cs) :
 bL C (do pure (.value (←Instr.box t (a.eval x)))) ρ F H w (.ptr H.bl.length 0 0 0) (bJ H (.box cs)):=by
 obtain⟨h1,h2,_⟩:=ie h (aZ hx he)
 refine bL.vb (w':={w with heap:=w.heap.push (.cells (a.eval x).cells t)}) ?_ (xk hr h1 h2)
 simp[Instr.box,newVar,newRow,newObj,Sem.run]
theorem gB{t:TypeId}{z:List SV}(h:iq C.P t=some z):∃i v,C.P.info? t=some i∧i.zero=some v∧z.length=v.cells.size∧bI w F ρ v.cells 0 z:=by
 unfold iq at h
 split at h
 ·rename_i i hi
  split at h
  ·rename_i v hv
   simp only[acu]at h
   obtain⟨r,h1,h2⟩:=h
   by_cases hok:r.all SV.je=true
   ·rw[hok]at h2
    simp only[acG,acN]at h2
    subst h2
    obtain⟨hl,hp⟩:=eb h1
    refine⟨i,v,hi,hv,by simpa using hl,fun j c hj=>?_⟩
    have hlt:=(acm.1 hj).1
    have hlt':j<v.cells.size:=by simp at hl;omega
    have hv':v.cells[j]?=some v.cells[j]:=adD hlt'
    exact⟨v.cells[j],by simpa using hv',uw 1 (hp j _ c (by simpa using hv') hj),acZ.1 hok c (acy hj)⟩
   ·rw[aeB]at hok;rw[hok]at h2;simp at h2
  ·cases h
 ·cases h
theorem dK{t:TypeId}{i:TypeInfo}{v:Value}(hi:C.P.info? t=some i)(hz:i.zero=some v):(zeroValue t).run C.P w=.ok v w:=by
 unfold zeroValue
 simp only[Sem.run_bind,run_typeInfo w hi,Result.andThen,hz]
 rfl
theorem CF{t:TypeId}{z:List SV}(hz:iq C.P t=some z)(hr:HR C ρ F H w) :
 bL C (do pure (.value (←Instr.alloc t true (.tuple #[])))) ρ F H w (.ptr H.bl.length 0 0 0) (bJ H (.box z)):=by
 obtain⟨i,v,hi,hv,h1,h2⟩:=gB (w:=w) (F:=F) (ρ:=ρ) hz
 refine bL.vb (w':={w with heap:=w.heap.push (.cells v.cells t)}) ?_ (xk hr h1 h2)
 simp[Instr.alloc,dK hi hv,newVar,newRow,newObj,Sem.run]
end
end
section
section
variable{C:Ctx}{ρ:Map}{F:Nat→Prop}{H H':ab}{w:World}{e:Env}{a:Act}{s:SV}
theorem vG{ag:Bool}{n o:Nat}{cs:List SV}(h:dc ag n cs o=some s):o+(if ag then n else 1)≤cs.length:=by
 unfold dc at h
 cases ag with
 |false=>simp only[acJ]at h;have:=(acm.1 h).1;simp;omega
 |true=>
  by_cases hle:o+n≤cs.length
  ·simpa using hle
  ·simp[hle]at h
theorem rp{P:Program}{t:TypeId}{ag:Bool}{n o at_ B:Nat}{cs:List SV}{vs:Array Value}{ty:TypeId}{fz:Nat×Nat}(hag:jL P t=some ag)(hsz:gf P t=some n)
 (hb:w.heap[B]?=some (.cells vs ty fz)) (hc:bI w F ρ vs at_ cs) (hle:at_+cs.length≤vs.size) (h:dc ag n cs o=some s) :
 ∃val,(loadVar t ⟨B,at_+o,none⟩).run P w=.ok val w∧VR w F ρ s val:=by
 have h1:=vG h
 obtain⟨h2,h3⟩:=ry h hc hle
 obtain⟨r1,r2⟩:=qY (o:=at_+o) hag hsz hb (by omega)
 cases ag with
 |true=>exact⟨_,r1 rfl,h2 rfl⟩
 |false=>obtain⟨v,hv,hr⟩:=h3 rfl;exact⟨v,r2 rfl v hv,hr⟩
theorem zX(hr:HR C ρ F H w){b cC i o:Nat}{v:Value}{cs:List SV}(hv:VR w F ρ (.ptr b cC i o) v)(hb:bk H b=some (.box cs))(hi:i=0) :
 ∃l vs ty fz,ρ b=some l∧l.bC=false∧l.arr=false∧l.cC=0∧v=.pointer (some ⟨l.cm,o,none⟩)∧w.heap[l.cm]?=some (.cells vs ty fz)∧kF fz vs.size∧vs.size=cs.length∧bI w F ρ vs 0 cs∧
  BR C w F ρ l (.box cs):=by
 obtain⟨l,hl,hbr⟩:=hr.live b _ hb rfl
 have hbr':=hbr
 obtain⟨h1,h2,h3,h4,h5,vs,ty,fz,h6,h7,h8,h9⟩:=hbr
 cases hv with
 |ptr h hv hc ha=>
  rw[hl]at h;cases h
  obtain⟨_,rfl⟩:=ha (by omega)
  subst hi
  exact⟨l,vs,ty,fz,hl,h1,h2,h4,by simp[h3],h6,h7,h8,h9,hbr'⟩
theorem An(hr:HR C ρ F H w){b cC i o z:Nat}{v:Value}{L:List (List SV)}{ex:Bool}(hv:VR w F ρ (.ptr b cC i o) v)(hb:bk H b=some (.arr cC z L ex)) :
 ∃l vs ty fz,ρ b=some l∧l.bC=false∧l.cC=cC∧l.arr=true∧l.bP=z∧v=.pointer (some ⟨l.cm,l.base+i*z+o,none⟩)∧w.heap[l.cm]?=some (.cells vs ty fz)∧kF fz vs.size∧
  l.base+l.cap*z≤vs.size∧L.length≤l.cap∧(∀(i:Nat) cs,L[i]?=some cs→cs.length=z)∧(∀(i:Nat) cs,L[i]?=some cs→bI w F ρ vs (l.base+i*z) cs)∧BR C w F ρ l (.arr cC z L ex):=by
 obtain⟨l,hl,hbr⟩:=hr.live b _ hb rfl
 have hbr':=hbr
 obtain⟨h1,h2,h3,h4,h5,h6,h7,h8⟩:=hbr
 cases hv with
 |ptr h hv hc ha=>
  rw[hl]at h;cases h
  obtain⟨hvi,rfl⟩:=ha h2.symm
  obtain⟨vs,ty,fz,k1,k2,k3,k4⟩:=h8 hvi
  exact⟨l,vs,ty,fz,hl,hvi,h2,h1,h3,by rw[h3],k1,k2,k3,h5,h4,k4,hbr'⟩
theorem zG{L:List (List SV)}{i z cap base n:Nat}{cs:List SV}(hi:L[i]?=some cs)(hz:cs.length=z)(hL:L.length≤cap)(hn:base+cap*z≤n):base+i*z+cs.length≤n:=by
 have h1:=(acm.1 hi).1
 have h2:(i+1)*z≤cap*z:=adG z (by omega)
 rw[adI,aep]at h2
 omega
theorem zy{c:SV}{t:TypeId}{ag:Bool}{n:Nat}{u:Value}(hag:jL C.P t=some ag)(hsz:gf C.P t=some n)(hr:HR C ρ F H w)(hv:VR w F ρ c u)
 (h:dg ag n H c=some s):∃q val,u=.pointer (some q)∧(loadVar t q).run C.P w=.ok val w∧VR w F ρ s val:=by
 unfold dg at h
 split at h
 ·rename_i b cC i o
  split at h
  ·rename_i cs hb
   replace h:=aj h
   obtain⟨hi,h⟩:=h
   obtain⟨l,vs,ty,fz,hl,k1,k1a,k2,k3,k4,k5,k6,k7,_⟩:=zX hr hv hb (by simpa using hi)
   subst k3
   obtain⟨val,r1,r2⟩:=rp hag hsz k4 k7 (by omega) h
   rw[adr]at r1
   exact⟨_,val,rfl,r1,r2⟩
  ·rename_i ver' z L ex hb
   replace h:=aj h
   obtain⟨hve,h⟩:=h
   have hve:cC=ver':=by simpa using hve
   subst hve
   split at h
   ·rename_i cs hcs
    obtain⟨l,vs,ty,fz,hl,k1,k2,k2a,k3,k4,k5,k6,k7,k8,k9,k10,_⟩:=An hr hv hb
    subst k4
    obtain⟨val,r1,r2⟩:=rp hag hsz k5 (k10 i cs hcs) (zG hcs (k9 i cs hcs) k8 k7) h
    exact⟨_,val,rfl,r1,r2⟩
   ·cases h
  ·cases h
 ·rename_i cs
  cases hv with
  |fY V hF hc h1 hv=>
   rename_i B o
   have hle:=vG h
   have r:=kQ (w:=w) hag hsz (B:=B) (o:=o) V (fun j hj=>hc j _ (acK (by omega)))
   refine⟨_,_,rfl,r,?_⟩
   unfold dc at h
   cases ag with
   |false=>
    simp only[acJ]at h
    exact(hv 0 s h).mono (fun _ _=>rfl) (fun _ h=>h) (lI _)
   |true=>
    simp at hle
    simp[hle]at h
    subst h
    refine .agg (by simp;omega) (fun j c hj=>?_) (fun j c v hj hv'=>?_)
    ·rw[acX]at hj
     split at hj
     ·exact h1 j c hj
     ·cases hj
    ·rw[acX]at hj
     split at hj
     ·rename_i hlt
      simp[hlt]at hv'
      subst hv'
      exact(hv j c hj).mono (fun _ _=>rfl) (fun _ h=>h) (lI _)
     ·cases hj
 ·cases h
theorem GD{t:TypeId}{ag:Bool}{n:Nat}{x:Operand}{y:bX}(hag:jL C.P t=some ag)(hsz:gf C.P t=some n)(hx:bA x=some y)(hr:HR C ρ F H w)(he:ER w F ρ e a.tmps)
 (h:dg ag n H (ev e y)=some s):bL C (do pure (.value (←Instr.loadAt t (a.eval x)))) ρ F H w s H:=by
 obtain⟨q,val,hu,h1,h2⟩:=zy hag hsz hr (aZ hx he) h
 refine bL.val hr (val:=val) ?_ h2
 unfold Instr.loadAt
 rw[hu]
 simpa[Instr.sureAddr,Sem.run]using h1
theorem lW{vs:Array Value}{at_ o n:Nat}{cs xs:List SV}{v:Value}(hc:bI w F ρ vs at_ cs)(hx:bI w F ρ v.cells 0 xs)(hn:xs.length=n)(hxn:xs.length=v.cells.size)(hle:o+n≤cs.length)
 (hsz:at_+cs.length≤vs.size):bI w F ρ (nr vs (at_+o) v.cells.toList) at_ (fJ cs o n xs):=by
 intro j c hj
 have hl:v.cells.toList.length=n:=by simp;omega
 rw[j8 (by omega),hl]
 unfold fJ at hj
 rw[aco,adV]at hj
 have ht:(cs.take o).length=o:=by simp;omega
 rw[ht]at hj
 split at hj
 ·rename_i hlt
  rw[acX,if_pos hlt]at hj
  rw[if_pos (by omega)]
  exact hc j c hj
 ·rename_i hge
  rw[adV]at hj
  split at hj
  ·rename_i hlt
   rw[if_neg (by omega),if_pos (by omega)]
   obtain⟨v',h1,h2,h3⟩:=hx _ c hj
   refine⟨v',?_,h2,h3⟩
   rw[afv,show at_+j-(at_+o)=0+(j-o) by omega]
   exact h1
  ·rename_i hge2
   rw[ado]at hj
   rw[if_neg (by omega),if_neg (by omega)]
   have:o+n+(j-o-xs.length)=j:=by omega
   rw[this]at hj
   exact hc j c hj
theorem iQ{cs xs:List SV}{o n:Nat}(hn:xs.length=n)(hle:o+n≤cs.length):(fJ cs o n xs).length=cs.length:=by
 unfold fJ;simp;omega
theorem mT{vs:Array Value}{k n at_:Nat}{xs:List Value}{cs:List SV}(hc:bI w F ρ vs at_ cs)(hle:k+xs.length≤vs.size)(hap:at_+cs.length≤k∨k+xs.length≤at_) :
 bI w F ρ (nr vs k xs) at_ cs:=by
 intro j c hj
 have hlt:=(acm.1 hj).1
 obtain⟨v,h1,h2⟩:=hc j c hj
 refine⟨v,?_,h2⟩
 rw[j8 hle]
 rcases hap with h|h
 ·rw[if_pos (by omega)];exact h1
 ·rw[if_neg (by omega),if_neg (by omega)];exact h1
theorem bY{b:Nat}{l:Loc}(h:ρ b=some l):ρ.put b l=ρ:=by
 funext b'
 by_cases e:b'=b
 ·subst e;rw[Map.bG,h]
 ·rw[Map.bp _ _ e]
theorem lN(hr:HR C ρ F H w){b:Nat}{x y:aC}{l:Loc}{refs:Nat}{vs':Array Value}{ty:TypeId}{fz:Nat×Nat}(hH:ca H b y refs=some H')(hb:H.bl[b]?=some x)(hx:x.live=true)
 (hl:ρ b=some l) (hv:l.bC=false) (hy:y.live=true→∀ρ1:Map,(ρ1=ρ∨∃N,refs≤N∧ρ1=ρ.cut N)→BR C w F ρ1 l x→BR C (fA w l.cm vs' ty fz) F ρ1 l y)
 (hlk:(∃r st p,x=.loop r st p)→∃r st p,y=.loop r st p:=by(rintro⟨_,_,_,h⟩;cases h)) :
 HR C ρ F H' (fA w l.cm vs' ty fz)∧Ext C ρ F H w ρ F H' (fA w l.cm vs' ty fz):=by
 have:=hr.set (w':=fA w l.cm vs' ty fz) (l':=l) hH hb hx hl (by rw[sy];exact acH _) (fun B hB hne=>iB (hne hv)) (fun _=>.inl ⟨hv,rfl⟩) (.inl rfl) (fun hyl=>by
  rw[bY hl]
  obtain⟨l2,h2,hbr⟩:=hr.live b x hb hx
  rw[hl]at h2;cases h2
  exact hy hyl ρ (.inl rfl) hbr) (fun hyl N hN hbN hbr=>by rw[bY hl];exact hy hyl _ (.inr ⟨N,hN,rfl⟩) hbr) hlk
 rwa [bY hl]at this
def Am(C:Ctx)(ρ:Map)(F:Nat→Prop)(H H':ab)(w w':World)(refs:Nat):Prop:=
 ∀N,refs≤N→∀(b:Nat) z z' l,H.bl[b]?=some z→z.live=true→H'.bl[b]?=some z'→ρ b=some l→BR C w F (ρ.cut N) l z→BR C w' F (ρ.cut N) l z'
theorem tQ(hr:HR C ρ F H w){b:Nat}{x y:aC}{l:Loc}{refs:Nat}{vs':Array Value}{ty:TypeId}{fz:Nat×Nat}(hH:ca H b y refs=some H')(hb:H.bl[b]?=some x)(hx:x.live=true)
 (hl:ρ b=some l) (hv:l.bC=false) (hy:∀ρ1:Map,(ρ1=ρ∨∃N,refs≤N∧ρ1=ρ.cut N)→BR C w F ρ1 l x→BR C (fA w l.cm vs' ty fz) F ρ1 l y) :
 Am C ρ F H H' w (fA w l.cm vs' ty fz) refs:=by
 intro N hN b' z z' l' hz hzl hz' hl' hbr
 have hbl:H'.bl=H.bl.set b y∧b<H.bl.length:=by
  unfold ca at hH
  replace hH:=aj hH
  obtain⟨h1,h2⟩:=hH
  simp only[acw,acr]at h1
  cases h2
  exact⟨rfl,h1.2⟩
 have hk:dO F w (fA w l.cm vs' ty fz):=fun B hB=>iB (fun h=>(hr.own b l ⟨⟨x,hb,hx⟩,hl,hv⟩).1 (h▸hB))
 rw[hbl.1]at hz'
 by_cases e:b'=b
 ·subst e
  rw[hz]at hb;cases hb
  rw[hl]at hl';cases hl'
  simp[hbl.2]at hz'
  subst hz'
  exact hy _ (.inr ⟨N,hN,rfl⟩) hbr
 ·rw[acv (Ne.symm e),hz]at hz'
  cases hz'
  exact hbr.mono hk (fun _ h=>h) (Map.le_refl _) (fun hv'=>iB (fun h=>e (hr.apart b' b l' l ⟨⟨z,hz,hzl⟩,hl',hv'⟩ ⟨⟨x,hb,hx⟩,hl,hv⟩ h)))
theorem kc(hr:HR C ρ F H w){b:Nat}{x:aC}{l:Loc}(hb:H.bl[b]?=some x)(hx:x.live=true)(hl:ρ b=some l)(hv:l.bC=false){vs:Array Value}{ty:TypeId}{fz:Nat×Nat} :
 dO F w (fA w l.cm vs ty fz):=fun B hB=>iB (fun h=>(hr.own b l ⟨⟨x,hb,hx⟩,hl,hv⟩).1 (h▸hB))
theorem Ay{A:Prop}{P Q R:Prop}(h1:A→P∧Q)(h2:A→R)(a:A):P∧Q∧R:=⟨(h1 a).1,(h1 a).2,h2 a⟩
theorem vZ{t:TypeId}{n:Nat}{c p:SV}{u val:Value}(hsz:gf C.P t=some n)(hr:HR C ρ F H w)(hp:VR w F ρ p u)(hv:VR w F ρ c val)
 (h:ej n H c p=some H'):∃w',(Instr.storeAt t u val).run C.P w=.ok () w'∧HR C ρ F H' w'∧Ext C ρ F H w ρ F H' w'∧Am C ρ F H H' w w' c.refs:=by
 have hv1:∀ρ1:Map,(ρ1=ρ∨∃N,c.refs≤N∧ρ1=ρ.cut N)→VR w F ρ1 c val:=fun ρ1 h=>by
  rcases h with rfl|⟨N,hN,rfl⟩
  ·exact hv
  ·exact hv.cut N hN
 unfold Instr.storeAt
 unfold ej at h
 split at h
 ·rename_i b cC i o
  simp only[acu]at h
  obtain⟨xs,hxs,h⟩:=h
  obtain⟨q1,q2,_⟩:=ie hxs hv
  have q3:=AX q2 q1
  replace h:=aj h
  obtain⟨hn,h⟩:=h
  have hn:xs.length=n:=by simpa using hn
  ·split at h
   ·rename_i cs hb
    replace h:=aj h
    obtain⟨hi,h⟩:=h
    simp only[acw,adK,acr]at hi
    ·obtain⟨hi,hle⟩:=hi
     obtain⟨l,vs,ty,fz,hl,k1,k1a,k2,k3,k4,k5,k6,k7,kb⟩:=zX hr hp hb hi
     rw[k3]
     have r:=ki (o:=o) hsz k4 k5 (by omega) (by omega) q3
     have hk:dO F w (fA w l.cm (nr vs o val.cells.toList) ty fz):=kc hr hb rfl hl k1
     have hsz':(nr vs o val.cells.toList).size=vs.size:=jD (by simp;omega)
     have hlt:l.cm<w.heap.size:=(ac6.1 k4).1
     refine⟨_,by simpa[Instr.sureAddr,Sem.run]using r,Ay (fun hy=>(lN hr h hb rfl hl k1 (fun _=>hy))) (fun hy=>tQ hr h hb rfl hl k1 hy) (fun ρ1 hρ kb1=>?_)⟩
     obtain⟨g1,g2,g3,g4,g5,vs2,ty2,fz2,j1,j2,j3,j4⟩:=kb1
     rw[k4]at j1;cases j1
     obtain⟨_,q2',_⟩:=ie hxs (hv1 ρ1 hρ)
     refine⟨g1,g2,g3,g4,by rw[iQ hn hle];exact g5,_,ty,fz,jB hlt,by rw[hsz'];exact k5,by rw[hsz',iQ hn hle];exact k6,?_⟩
     have:=lW (at_:=0) j4 q2' hn q1 hle (by omega)
     rw[adr]at this
     exact this.mono hk (fun _ h=>h) (Map.le_refl _)
   ·rename_i ver' z L ex hb
    replace h:=aj h
    obtain⟨hve,h⟩:=h
    have hve:cC=ver':=by simpa using hve
    ·subst hve
     split at h
     ·rename_i cs hcs
      replace h:=aj h
      obtain⟨hle,h⟩:=h
      have hle:o+n≤cs.length:=by simpa using hle
      ·skip
       obtain⟨l,vs,ty,fz,hl,k1,k2,k2a,k3,k4,k5,k6,k7,k8,k9,k10,kb⟩:=An hr hp hb
       rw[k4]
       have hel:=zG hcs (k9 i cs hcs) k8 k7
       have r:=ki (o:=l.base+i*z+o) hsz k5 k6 (by omega) (by omega) q3
       have hk:dO F w (fA w l.cm (nr vs (l.base+i*z+o) val.cells.toList) ty fz):=kc hr hb rfl hl k1
       have hsz':(nr vs (l.base+i*z+o) val.cells.toList).size=vs.size:=jD (by simp;omega)
       have hlt:l.cm<w.heap.size:=(ac6.1 k5).1
       have hli:=(acm.1 hcs).1
       refine⟨_,by simpa[Instr.sureAddr,Sem.run]using r,Ay (fun hy=>(lN hr h hb rfl hl k1 (fun _=>hy))) (fun hy=>tQ hr h hb rfl hl k1 hy) (fun ρ1 hρ kb1=>?_)⟩
       obtain⟨g1,g2,g3,g4,g5,g6,g7,g8⟩:=kb1
       obtain⟨vs2,ty2,fz2,j1,j2,j3,j4⟩:=g8 k1
       rw[k5]at j1;cases j1
       obtain⟨_,q2',_⟩:=ie hxs (hv1 ρ1 hρ)
       refine⟨g1,g2,g3,fun j ds hj=>?_,by simpa using g5,by simpa using g6,g7,fun _=>⟨_,ty,fz,jB hlt,by rw[hsz'];exact k6,by rw[hsz'];exact k7,fun j ds hj=>?_⟩⟩
       ·by_cases e1:j=i
        ·subst e1
         simp[hli]at hj
         subst hj
         rw[iQ hn hle];exact k9 j cs hcs
        ·rw[acv (Ne.symm e1)]at hj
         exact g4 j ds hj
       ·by_cases e1:j=i
        ·subst e1
         simp[hli]at hj
         subst hj
         exact(lW (j4 j cs hcs) q2' hn q1 hle hel).mono hk (fun _ h=>h) (Map.le_refl _)
        ·rw[acv (Ne.symm e1)]at hj
         have hd:=k9 j ds hj
         have hz:=k9 i cs hcs
         refine(mT (n:=0) (j4 j ds hj) (by simp;omega) ?_).mono hk (fun _ h=>h) (Map.le_refl _)
         simp only[aeG]
         rcases afK e1 with hlt'|hlt'
         ·left
          have:(j+1)*z≤i*z:=adG z hlt'
          rw[adI,aep]at this
          omega
         ·right
          have:(i+1)*z≤j*z:=adG z hlt'
          rw[adI,aep]at this
          omega
     ·cases h
   ·cases h
 ·cases h
theorem Dk{t:TypeId}{n:Nat}{x y:Operand}{x' y':bX}(hsz:gf C.P t=some n)(hx:bA x=some x')(hy:bA y=some y')(hr:HR C ρ F H w)(he:ER w F ρ e a.tmps)
 (h:ej n H (ev e y') (ev e x')=some H'):bL C (do Instr.storeAt t (a.eval x) (a.eval y);pure .skip) ρ F H w .undef H':=by
 obtain⟨w',h1,h2,h3,_⟩:=vZ hsz hr (aZ hx he) (aZ hy he) h
 exact⟨undef,w',.inr ⟨by simp[h1,pure,Sem.run],rfl⟩,ρ,F,.undef _,h2,h3⟩
end
end
section
section
variable{C:Ctx}{ρ:Map}{F:Nat→Prop}{H H':ab}{w:World}{e:Env}{a:Act}{s c d:SV}
theorem u4(hr:HR C ρ F H w){b cC i o:Nat}{v:Value}(hc:cur H (.ptr b cC i o)=true)(hv:VR w F ρ (.ptr b cC i o) v) :
 ∃l,ρ b=some l∧cC=l.cC∧l.bC=false∧v=.pointer (some ⟨l.cm,l.base+i*l.bP+o,none⟩):=by
 have key:∀l,ρ b=some l→cC=l.cC→∃l,ρ b=some l∧cC=l.cC∧l.bC=false∧v=.pointer (some ⟨l.cm,l.base+i*l.bP+o,none⟩):=by
  intro l hl hve
  cases hv with
  |ptr h h1 h2 h3=>
   rw[hl]at h;cases h
   obtain⟨k1,k2⟩:=h3 hve
   exact⟨l,hl,hve,k1,k2⟩
 unfold cur at hc
 split at hc
 ·rename_i b' v' i' o' heq
  cases heq
  split at hc
  ·rename_i cs hb
   obtain⟨l,hl,hbr⟩:=hr.live b _ hb rfl
   refine key l hl ?_
   cases hv with
   |ptr h h1 h2 h3=>rw[hl]at h;cases h;have:=hbr.2.2.2.1;omega
  ·rename_i v'' z L ex hb
   obtain⟨l,hl,hbr⟩:=hr.live b _ hb rfl
   refine key l hl ?_
   have:=hbr.2.1
   simp at hc;omega
  ·cases hc
 ·rename_i heq;cases heq
 ·rename_i hne _;exact absurd rfl (hne b cC i o)
theorem ep(hr:HR C ρ F H w){b cC off n:Nat}{v:Value}(hc:cur H (.bn b cC off n)=true)(hv:VR w F ρ (.bn b cC off n) v) :
 ∃l z L ex,ρ b=some l∧bk H b=some (.arr cC z L ex)∧BR C w F ρ l (.arr cC z L ex)∧(l.bC=true→∃a,v=.slice a 0 0∧off=0∧n=0)∧
  (l.bC=false→off+n≤l.cap∧∃a,v=.slice a n (l.cap-off)∧(off<l.cap→a=some ⟨l.cm,l.base+off*l.bP,none⟩)):=by
 unfold cur at hc
 split at hc
 ·rename_i heq;cases heq
 ·rename_i b' v' o' n' heq
  cases heq
  split at hc
  ·rename_i v'' z L ex hb
   simp at hc
   subst hc
   obtain⟨l,hl,hbr⟩:=hr.live b _ hb rfl
   cases hv with
   |bn h h1 h2 h3=>
    rw[hl]at h;cases h
    obtain⟨k1,k2⟩:=h3 hbr.2.1.symm
    exact⟨l,z,L,ex,hl,hb,hbr,k1,k2⟩
  ·cases hc
 ·rename_i hne;exact absurd rfl (hne b cC off n)
theorem nG{z:Nat}(h:ew H z c=true):cur H c=true:=by
 unfold ew at h
 split at h
 ·unfold cur
  split at h
  ·rename_i hb;simp only[hb];simp at h;simpa using h.1
  ·cases h
 ·rfl
 ·cases h
theorem AK{x:Operand}{y:bX}(hx:bA x=some y)(hr:HR C ρ F H w)(he:ER w F ρ e a.tmps)(o:Oper)(ho:o.op=.nilCheck x)
 (h:cb e H (.eh y)=some (s,H')):bL C (execOp a.eval o) ρ F H w s H':=by
 have hv:=aZ hx he
 simp only[cb]at h
 replace h:=aj h;obtain⟨hc,h⟩:=h
 simp only[acq,acY]at h
 obtain⟨s',h,rfl,rfl⟩:=h
 suffices hs:∃u,a.eval x=.pointer (some u)∧s'=ev e y by
  obtain⟨u,hu,rfl⟩:=hs
  refine⟨a.eval x,w,.inl ?_,dJ.same hr hv⟩
  unfold execOp
  simp only[ho,hu]
  rfl
 generalize ev e y=c at *
 generalize a.eval x=u at *
 unfold lZ at h
 split at h
 ·cases h
  obtain⟨l,_,_,_,rfl⟩:=u4 hr hc hv
  exact⟨_,rfl,rfl⟩
 ·cases h
  cases hv
  exact⟨_,rfl,rfl⟩
 ·cases h
theorem oy{op:BinOp}{t:TypeId}{x y:Operand}{u v:Value}(hu:jX u=true)(hn:u≠.nilIface):(eqGuard op t x y u v).run C.P w=.ok () w:=by
 unfold eqGuard
 cases op<;>simp<;>(try rfl)<;>(cases u<;>first|rfl|exact absurd rfl hn|(simp[jX]at hu;done))
theorem uG{op:BinOp}{t:TypeId}{x y:Operand}{u v:Value}(hu:jX u=true)(hn:u≠.nilIface){val:Value}(hr:HR C ρ F H w)(h:(binOp op t u v).run C.P w=.ok val w)(hs:VR w F ρ s val) :
 bL C (do pure (.value (←(do eqGuard op t x y u v;binOp op t u v)))) ρ F H w s H:=by
 refine bL.val hr ?_ hs
 simp only[Sem.run_bind,oy hu hn,Result.andThen,h]
theorem GR{op:BinOp}{t:TypeId}{k k2:IntKind}{p q:Int}(h:cW op (.int k p) (.int k2 q)=some s):∃val,(binOp op t (.int k p) (.int k2 q)).run C.P w=.ok val w∧VR w F ρ s val:=by
 cases op<;>simp only[cW]at h<;>(try (cases h;done))<;>(replace h:=aj h)<;>(obtain⟨hc,h⟩:=h)<;>(try simp only[acw,adK,ac8,acx,acr]at hc) <;>
  simp only[acN]at h<;>subst h
 case add=>subst hc;exact⟨_,by simp[binOp,Op.intArith,Sem.run,pure],.int _ _⟩
 case sub=>subst hc;exact⟨_,by simp[binOp,Op.intArith,Sem.run,pure],.int _ _⟩
 case mul=>subst hc;exact⟨_,by simp[binOp,Op.intArith,Sem.run,pure],.int _ _⟩
 case quo=>obtain⟨rfl,hq⟩:=hc;exact⟨_,by simp[binOp,Op.intDiv,hq,Sem.run,pure],.int _ _⟩
 case rem=>obtain⟨rfl,hq⟩:=hc;exact⟨_,by simp[binOp,Op.intDiv,hq,Sem.run,pure],.int _ _⟩
 case and=>subst hc;exact⟨_,by simp[binOp,Op.intBits,Sem.run,pure],.int _ _⟩
 case or=>subst hc;exact⟨_,by simp[binOp,Op.intBits,Sem.run,pure],.int _ _⟩
 case xor=>subst hc;exact⟨_,by simp[binOp,Op.intBits,Sem.run,pure],.int _ _⟩
 case shl=>exact⟨_,by simp[binOp,Op.shift,Int.not_lt.2 hc,Sem.run,pure],.int _ _⟩
 case shr=>exact⟨_,by simp[binOp,Op.shift,Int.not_lt.2 hc,Sem.run,pure],.int _ _⟩
 case lss=>subst hc;exact⟨_,by simp[binOp,Op.intCmp,Sem.run,pure],.bool _⟩
 case leq=>subst hc;exact⟨_,by simp[binOp,Op.intCmp,Sem.run,pure],.bool _⟩
 case gtr=>subst hc;exact⟨_,by simp[binOp,Op.intCmp,Sem.run,pure],.bool _⟩
 case geq=>subst hc;exact⟨_,by simp[binOp,Op.intCmp,Sem.run,pure],.bool _⟩
 case eql=>subst hc;refine⟨.bool (p==q),by simp[binOp,Op.intCmp,Sem.run,pure],?_⟩;rw[show decide (p=q)=(p==q) by by_cases h:p=q<;>simp[h]];exact .bool _
 case neq=>subst hc;refine⟨.bool (p != q),by simp[binOp,Op.intCmp,Sem.run,pure],?_⟩;rw[show(!decide (p=q))=(p != q) by by_cases h:p=q<;>simp[h,bne]];exact .bool _
end
end
section
section
variable{C:Ctx}{ρ:Map}{F:Nat→Prop}{H H':ab}{w:World}{e:Env}{a:Act}{s c d:SV}
theorem qH(p q:ByteArray):(p.toList==q.toList)=decide (p=q):=by
 have h:∀x:ByteArray,x.toList=x.data.toList:=fun x=>by
  simp[ByteArray.toList_eq]
 rw[h,h]
 by_cases e:p=q
 ·subst e;simp
 ·have:p.data.toList≠q.data.toList:=fun h=>e (by cases p;cases q;simp at h;rw[h])
  simp[e]
  exact fun h=>this (by rw[h])
theorem Gy{op:BinOp}{t:TypeId}{p q:ByteArray}(h:cW op (.str p) (.str q)=some s):∃val,(binOp op t (.string p) (.string q)).run C.P w=.ok val w∧VR w F ρ s val:=by
 cases op<;>simp only[cW]at h<;>(try (cases h;done))
 case add=>
  replace h:=aj h
  obtain⟨hc,h⟩:=h
  cases h
  simp at hc
  refine⟨_,?_,.str _⟩
  have:¬((p.size+q.size:Nat):Int)>IntKind.i64.max:=by
   have:IntKind.i64.max=9223372036854775807:=by decide
   omega
  simp only[binOp,Op.stringOp,if_neg this]
  rfl
 case eql=>cases h;exact⟨_,by simp[binOp,Op.stringOp,qH,Sem.run,pure],.bool _⟩
 case neq=>cases h;exact⟨_,by simp[binOp,Op.stringOp,qH,Sem.run,pure],.bool _⟩
theorem EL{op:BinOp}{t:TypeId}{p q:Bool}(ht:C.P.underlying t=some .bool)(h:mH op (.bool p) (.bool q)=some s):∃val,(binOp op t (.bool p) (.bool q)).run C.P w=.ok val w∧VR w F ρ s val:=by
 have he:(Op.equal t (.bool p) (.bool q)).run C.P w=.ok (p==q) w:=by
  have h1:∀d,(Op.equalIn (d+1) t (.bool p) (.bool q)).run C.P w=.ok (p==q) w:=fun d=>by
   simp only[Op.equalIn,Sem.run_bind,run_underlying ht,Result.andThen]
   rfl
  exact h1 9999
 cases op<;>simp only[mH]at h<;>(try (cases h;done))
 case eql=>cases h;exact⟨_,by simp[binOp,he],.bool _⟩
 case neq=>cases h;exact⟨_,by simp[binOp,he],.bool _⟩
theorem xV{op:BinOp}(h:cW op c d=some s):(∃k p k2 q,c=.int k p∧d=.int k2 q)∨(∃p q,c=.str p∧d=.str q):=by
 unfold cW at h
 split at h<;>first|exact .inl ⟨_,_,_,_,rfl,rfl⟩|exact .inr ⟨_,_,rfl,rfl⟩|(cases h;done)
theorem Ez{op:BinOp}{t:TypeId}{x y:Operand}{x' y':bX}(hx:bA x=some x')(hy:bA y=some y')
 (hr:HR C ρ F H w) (he:ER w F ρ e a.tmps) (h:cW op (ev e x') (ev e y')=some s) :
 bL C (do pure (.value (←(do eqGuard op t x y (a.eval x) (a.eval y);binOp op t (a.eval x) (a.eval y))))) ρ F H w s H:=by
 have h1:=aZ hx he
 have h2:=aZ hy he
 generalize ev e x'=c at *
 generalize ev e y'=d at *
 rcases xV h with⟨k,p,k2,q,rfl,rfl⟩|⟨p,q,rfl,rfl⟩
 ·rw[gj h1,gj h2]
  obtain⟨val,r1,r2⟩:=GR (C:=C) (w:=w) (F:=F) (ρ:=ρ) (t:=t) h
  exact uG rfl (by simp) hr r1 r2
 ·rw[jP h1,jP h2]
  obtain⟨val,r1,r2⟩:=Gy (C:=C) (w:=w) (F:=F) (ρ:=ρ) (t:=t) h
  exact uG rfl (by simp) hr r1 r2
theorem FW{op:BinOp}{t:TypeId}{x y:Operand}{x' y':bX}(hx:bA x=some x')(hy:bA y=some y')
 (hr:HR C ρ F H w) (he:ER w F ρ e a.tmps) (hb2:C.P.underlying t=some .bool) (h:mH op (ev e x') (ev e y')=some s) :
 bL C (do pure (.value (←(do eqGuard op t x y (a.eval x) (a.eval y);binOp op t (a.eval x) (a.eval y))))) ρ F H w s H:=by
 have h1:=aZ hx he
 have h2:=aZ hy he
 generalize ev e x'=c at *
 generalize ev e y'=d at *
 have hk:∃p q,c=.bool p∧d=.bool q:=by
  unfold mH at h
  split at h<;>first|exact⟨_,_,rfl,rfl⟩|(cases h;done)
 obtain⟨p,q,rfl,rfl⟩:=hk
 rw[eQ h1,eQ h2]
 obtain⟨val,r1,r2⟩:=EL (w:=w) (F:=F) (ρ:=ρ) hb2 h
 exact uG rfl (by simp) hr r1 r2
theorem FB{t:TypeId}{x:Operand}{y:bX}(hx:bA x=some y)(hr:HR C ρ F H w)(he:ER w F ρ e a.tmps){b:Bool}(h:ev e y=.bool b) :
 bL C (do pure (.value (←Op.unary .not (a.eval x)))) ρ F H w (.bool (!b)) H:=by
 have h1:=aZ hx he
 rw[h]at h1
 rw[eQ h1]
 exact bL.val hr (val:=.bool (!b)) rfl (.bool _)
theorem GU{x:Operand}{y:bX}(hx:bA x=some y)(hr:HR C ρ F H w)(he:ER w F ρ e a.tmps){k:IntKind}{n:Int}(h:ev e y=.int k n) :
 bL C (do pure (.value (←Op.unary .neg (a.eval x)))) ρ F H w (.int k (k.wrap (0-n))) H:=by
 have h1:=aZ hx he
 rw[h]at h1
 rw[gj h1]
 exact bL.val hr (val:=.int k (k.wrap (0-n))) rfl (.int _ _)
theorem Cq{sr ds:TypeId}{k j:IntKind}{x:Operand}{y:bX}(hx:bA x=some y)(hs:C.P.underlying sr=some (.int j))(hd:C.P.underlying ds=some (.int k))(hr:HR C ρ F H w)(he:ER w F ρ e a.tmps)
 {k':IntKind} {n:Int} (h:ev e y=.int k' n):bL C (do pure (.value (←convert sr ds (a.eval x)))) ρ F H w (.int k (k.wrap n)) H:=by
 have h1:=aZ hx he
 rw[h]at h1
 rw[gj h1]
 refine bL.val hr (val:=.int k (k.wrap n)) ?_ (.int _ _)
 unfold convert
 simp only[Sem.run_bind,run_underlying hs,run_underlying hd,Result.andThen]
 rfl
theorem ES{sr ds:TypeId}{x:Operand}{y:bX}(hx:bA x=some y)(hs:C.P.underlying sr=some .string)(hd:C.P.underlying ds=some .string)(hr:HR C ρ F H w)(he:ER w F ρ e a.tmps)
 {t:ByteArray} (h:ev e y=.str t):bL C (do pure (.value (←convert sr ds (a.eval x)))) ρ F H w (.str t) H:=by
 have h1:=aZ hx he
 rw[h]at h1
 rw[jP h1]
 refine bL.val hr (val:=.string t) ?_ (.str _)
 unfold convert
 simp only[Sem.run_bind,run_underlying hs,run_underlying hd,Result.andThen]
 rfl
theorem GG{f:FuncId}{fs cs:Array Operand}{cs':List bX}(hf:fs.isEmpty=true)(hx:jo cs=some cs')(hr:HR C ρ F H w)(he:ER w F ρ e a.tmps) :
 bL C (do pure (.value (←Instr.makeFunc (.func f) (fs.map a.eval) (cs.map a.eval)))) ρ F H w (.fn f (cs'.map (ev e))) H:=by
 obtain⟨h1,h2⟩:=jm hx he
 have:fs.map a.eval= #[]:=by
  have:fs= #[]:=by simpa using hf
  subst this;simp
 rw[this]
 exact bL.val hr (val:=.func (.func f) #[] (cs.map a.eval)) rfl (.fn (by simpa using h1) h2)
theorem Di{f:FuncId}{fs cs:Array Operand}{cs':List bX}(hf:cs.isEmpty=true)(hx:jo fs=some cs')(hr:HR C ρ F H w)(he:ER w F ρ e a.tmps) :
 bL C (do pure (.value (←Instr.makeFunc (.func f) (fs.map a.eval) (cs.map a.eval)))) ρ F H w (.pO f (cs'.map (ev e))) H:=by
 obtain⟨h1,h2⟩:=jm hx he
 have:cs.map a.eval= #[]:=by
  have:cs= #[]:=by simpa using hf
  subst this;simp
 rw[this]
 exact bL.val hr (val:=.func (.func f) (fs.map a.eval) #[]) rfl (.pO (by simpa using h1) h2)
theorem pG{t:TypeId}{fs:List Field}{i:Nat}{f:Field}(h:lO C.P t=some fs)(hf:fs[i]?=some f):∃gs,C.P.underlying t=some (.struct gs)∧gs[i]?=some f:=by
 unfold lO at h
 split at h
 ·rename_i gs hu
  cases h
  exact⟨gs,hu,by simpa using hf⟩
 ·cases h
theorem wi{off:Nat}{v:Value}(hr:HR C ρ F H w)(hc:cur H c=true)(hv:VR w F ρ c v)(h:fK off c=some s) :
 ∃B o,v=.pointer (some ⟨B,o,none⟩)∧VR w F ρ s (.pointer (some ⟨B,o+off,none⟩)):=by
 unfold fK at h
 split at h
 ·rename_i b cC i o
  cases h
  obtain⟨l,h1,h2,h3,rfl⟩:=u4 hr hc hv
  exact⟨_,_,rfl,.ptr h1 (by omega) rfl (fun _=>⟨h3,by rw[acD]⟩)⟩
 ·rename_i cs
  cases h
  cases hv with
  |fY V hF hk h1 hv=>
   refine⟨_,_,rfl,.fY (fun j=>V (off+j)) hF (fun j c hj=>?_) (fun j c hj=>?_) (fun j c hj=>?_)⟩<;>rw[ado]at hj
   ·rw[acD];exact hk _ c hj
   ·exact h1 _ c hj
   ·exact hv _ c hj
 ·cases h
theorem C2{t:TypeId}{i n:Nat}{fs:List Field}{f:Field}{x:Operand}{y:bX}(hx:bA x=some y)(hfs:lO C.P t=some fs)(hf:fs[i]?=some f)(hn:gf C.P f.type=some (n+1))
 (hr:HR C ρ F H w) (he:ER w F ρ e a.tmps) (hc:cur H (ev e y)=true) (h:fK f.offset (ev e y)=some s):bL C (do pure (.value (←Instr.fieldAt t (a.eval x) i))) ρ F H w s H:=by
 obtain⟨gs,h1,h2⟩:=pG hfs hf
 obtain⟨B,o,h3,h4⟩:=wi hr hc (aZ hx he) h
 refine bL.val hr ?_ h4
 unfold Instr.fieldAt
 simp only[Sem.run_bind,run_underlying h1,Result.andThen,h2,h3,Instr.sureAddr,fieldPlace,bQ hn]
 simp[Sem.run,pure,dz]
theorem EV{t:TypeId}{i n:Nat}{ag:Bool}{fs:List Field}{f:Field}{x:Operand}{y:bX}{cs:List SV}(hx:bA x=some y)(hfs:lO C.P t=some fs)(hf:fs[i]?=some f)(hag:jL C.P f.type=some ag)
 (hn:gf C.P f.type=some n) (hr:HR C ρ F H w) (he:ER w F ρ e a.tmps) (hc:ev e y=.agg cs) (h:dc ag n cs f.offset=some s):bL C (do pure (.value (←Instr.field t (a.eval x) i))) ρ F H w s H:=by
 obtain⟨gs,h1,h2⟩:=pG hfs hf
 have hv:=aZ hx he
 rw[hc]at hv
 obtain⟨vs,h3,h4,h5⟩:=fL hv
 obtain⟨p1,p2⟩:=ry h h5 (by omega)
 suffices hs:∃val,(part f.type vs f.offset).run C.P w=.ok val w∧VR w F ρ s val by
  obtain⟨val,r1,r2⟩:=hs
  refine bL.val hr ?_ r2
  unfold Instr.field
  simp only[Sem.run_bind,run_underlying h1,Result.andThen,h2,h3,asAgg]
  simpa[Sem.run,pure]using r1
 unfold part
 cases ag with
 |true=>
  refine⟨_,by simp only[Sem.run_bind,fq hag,Result.andThen,if_true,bQ hn];rfl,by simpa using p1 rfl⟩
 |false=>
  obtain⟨v,k1,k2⟩:=p2 rfl
  rw[adr]at k1
  refine⟨v,by simp only[Sem.run_bind,fq hag,Result.andThen,adh,if_false,k1];rfl,k2⟩
theorem yT{x:Operand}{y:bX}{vs:List SV}{i:Nat}(hx:bA x=some y)(hr:HR C ρ F H w)(he:ER w F ρ e a.tmps)(hc:ev e y=.bc vs)(h:vs[i]?=some s) :
 bL C (do pure (.value (←Instr.extract (a.eval x) i))) ρ F H w s H:=by
 have hv:=aZ hx he
 rw[hc]at hv
 generalize a.eval x=u at *
 cases hv with
 |bc hn hv=>
  rename_i us
  have hlt:=(acm.1 h).1
  have hu:us[i]?=some us[i]:=adD (by omega)
  refine bL.val hr (val:=us[i]) ?_ (hv i s _ h hu)
  simp only[Instr.extract,hu]
  rfl
theorem nT{n i:Nat}{v:Value}(h:jG n c=some i)(hv:VR w F ρ c v):∃k j,v=.int k j∧0≤j∧j<n∧i=j.toNat:=by
 unfold jG at h
 split at h
 ·rename_i k j
  replace h:=aj h
  obtain⟨hc,h⟩:=h
  cases h
  simp at hc
  exact⟨k,j,gj hv,hc.1,hc.2,rfl⟩
 ·cases h
theorem AI{t el:TypeId}{len n i:Nat}{x ix:Operand}{x' i':bX}(hx:bA x=some x')(hi:bA ix=some i')(hu:C.P.underlying t=some (.array len el))(hn:gf C.P el=some (n+1))
 (hr:HR C ρ F H w) (he:ER w F ρ e a.tmps) (hc:cur H (ev e x')=true) (h1:jG len (ev e i')=some i) (h:fK (i*(n+1)) (ev e x')=some s) :
 bL C (do pure (.value (←Instr.indexAt t (a.eval x) (a.eval ix)))) ρ F H w s H:=by
 obtain⟨B,o,h3,h4⟩:=wi hr hc (aZ hx he) h
 obtain⟨k,j,h5,h6,h7,rfl⟩:=nT h1 (aZ hi he)
 refine bL.val hr ?_ h4
 unfold Instr.indexAt
 simp only[Sem.run_bind,h5,asIntOf,run_underlying hu,Result.andThen,h3,Instr.sureAddr]
 simp only[pure,Sem.run,Result.andThen,h6,h7,and_self,if_true,Sem.run_bind,bQ hn,dz]
theorem Ba{t el:TypeId}{n:Nat}{x ix:Operand}{x' i':bX}(hx:bA x=some x')(hi:bA ix=some i')(hu:C.P.underlying t=some (.slice el))(hn:gf C.P el=some (n+1))
 (hr:HR C ρ F H w) (he:ER w F ρ e a.tmps) (hc:ew H (n+1) (ev e x')=true) (h:ja (ev e x') (ev e i')=some s) :
 bL C (do pure (.value (←Instr.indexAt t (a.eval x) (a.eval ix)))) ρ F H w s H:=by
 have hv:=aZ hx he
 have hvi:=aZ hi he
 generalize ev e x'=c at *
 generalize ev e i'=d at *
 suffices hs:∃B o len cap k j,a.eval x=.slice (some ⟨B,o,none⟩) len cap∧a.eval ix=.int k j∧0≤j∧j<len∧VR w F ρ s (.pointer (some ⟨B,o+j.toNat*(n+1),none⟩)) by
  obtain⟨B,o,len,cap,k,j,h1,h2,h3,h4,h5⟩:=hs
  refine bL.val hr ?_ h5
  unfold Instr.indexAt
  simp only[Sem.run_bind,h2,asIntOf,run_underlying hu,Result.andThen,h1,Instr.sureAddr]
  simp only[pure,Sem.run,Result.andThen,h3,h4,and_self,if_true,Sem.run_bind,bQ hn,dz]
 generalize a.eval x=u at *
 unfold ja at h
 split at h
 ·rename_i z L f
  simp only[acu,acq]at h
  obtain⟨i,hi',cs,hcs,rfl⟩:=h
  obtain⟨k,j,h5,h6,h7,rfl⟩:=nT hi' hvi
  cases hv with
  |ao V hcap hfull hz hat h1 hv=>
   have hzn:z=n+1:=by
    unfold ew at hc
    simp at hc
    rcases hc with hc|hc
    ·exact hc
    ·subst hc;simp at hcs
   subst hzn
   rcases hat with h0|⟨B,o,ha,hF,hk⟩
   ·subst h0;simp at hcs
   ·subst ha
    exact⟨B,o,_,_,k,j,rfl,h5,h6,h7,.fY (fun q=>V j.toNat q) hF (fun q c hq=>hk _ q cs c hcs hq) (fun q c hq=>h1 _ q cs c hcs hq) (fun q c hq=>hv _ q cs c hcs hq)⟩
 ·rename_i b cC off m
  simp only[acq]at h
  obtain⟨i,hi',rfl⟩:=h
  obtain⟨k,j,h5,h6,h7,rfl⟩:=nT hi' hvi
  obtain⟨l,z,L,ex,hl,hb,hbr,g1,g2⟩:=ep hr (nG hc) hv
  have hzn:z=n+1:=by
   unfold ew at hc
   simp[hb]at hc
   exact hc
  subst hzn
  cases hvi':l.bC with
  |true=>
   obtain⟨_,_,_,rfl⟩:=g1 hvi'
   simp at h7;omega
  |false=>
   obtain⟨g3,q,rfl,g4⟩:=g2 hvi'
   have:=g4 (by omega)
   subst this
   refine⟨_,_,_,_,k,j,rfl,h5,h6,h7,.ptr hl (aes hbr.2.1.symm) rfl (fun _=>⟨hvi',?_⟩)⟩
   have e1:l.bP=n+1:=hbr.2.2.1
   rw[e1,adI]
   congr 3
   simp[acD]
 ·cases h
end
end
section
section
variable{C:Ctx}{ρ:Map}{F:Nat→Prop}{H H':ab}{w:World}{e:Env}{a:Act}{s c d:SV}
theorem BJ{t el:TypeId}{len n i:Nat}{ag:Bool}{x ix:Operand}{x' i':bX}{cs:List SV}(hx:bA x=some x')(hi:bA ix=some i')(hu:C.P.underlying t=some (.array len el))(hag:jL C.P el=some ag)(hn:gf C.P el=some n)
 (hr:HR C ρ F H w) (he:ER w F ρ e a.tmps) (hc:ev e x'=.agg cs) (h1:jG len (ev e i')=some i) (h:dc ag n cs (i*n)=some s) :
 bL C (do pure (.value (←Instr.index t (a.eval x) (a.eval ix)))) ρ F H w s H:=by
 have hv:=aZ hx he
 rw[hc]at hv
 obtain⟨vs,h3,h4,h5⟩:=fL hv
 obtain⟨k,j,k5,k6,k7,rfl⟩:=nT h1 (aZ hi he)
 obtain⟨p1,p2⟩:=ry h h5 (by omega)
 suffices hs:∃val,(part el vs (j.toNat*n)).run C.P w=.ok val w∧VR w F ρ s val by
  obtain⟨val,r1,r2⟩:=hs
  refine bL.val hr ?_ r2
  unfold Instr.index
  simp only[Sem.run_bind,k5,asIntOf,run_underlying hu,Result.andThen,h3]
  simp only[pure,Sem.run,Result.andThen,k6,k7,and_self,if_true,Sem.run_bind,bQ hn]
  exact r1
 unfold part
 cases ag with
 |true=>exact⟨_,by simp only[Sem.run_bind,fq hag,Result.andThen,if_true,bQ hn];rfl,by simpa using p1 rfl⟩
 |false=>
  obtain⟨v,k1,k2⟩:=p2 rfl
  rw[adr]at k1
  exact⟨v,by simp only[Sem.run_bind,fq hag,Result.andThen,adh,if_false,k1];rfl,k2⟩
theorem Bm{t:TypeId}{i:Nat}{x ix:Operand}{x' i':bX}{b:ByteArray}{y:UInt8}(hx:bA x=some x')(hi:bA ix=some i')(hu:C.P.underlying t=some .string)
 (hr:HR C ρ F H w) (he:ER w F ρ e a.tmps) (hc:ev e x'=.str b) (h1:jG b.size (ev e i')=some i) (h:b.data[i]?=some y) :
 bL C (do pure (.value (←Instr.index t (a.eval x) (a.eval ix)))) ρ F H w (.int .u8 y.toNat) H:=by
 have hv:=aZ hx he
 rw[hc]at hv
 obtain⟨k,j,k5,k6,k7,rfl⟩:=nT h1 (aZ hi he)
 have hb:b[j.toNat]?=some y:=by
  obtain⟨hlt,hv'⟩:=ac6.1 h
  have hlt':j.toNat<b.size:=hlt
  rw[getElem?_pos b j.toNat hlt']
  exact congrArg some hv'
 refine bL.val hr (val:=.int .u8 y.toNat) ?_ (.int _ _)
 unfold Instr.index
 simp only[Sem.run_bind,k5,asIntOf,run_underlying hu,Result.andThen,jP hv]
 simp only[pure,Sem.run,Result.andThen,k6,if_true,hb]
theorem Hu{ats:Array TypeId}{t0 ty:TypeId}{x:Operand}{y:bX}{b:ByteArray}(hx:bA x=some y)(h0:ats[0]?=some t0)(hu:C.P.underlying t0=some .string)(hr:HR C ρ F H w)(he:ER w F ρ e a.tmps)(hc:ev e y=.str b) :
 bL C (do pure (.value (←Builtin.len_ ats ty #[a.eval x]))) ρ F H w (.int .i64 b.size) H:=by
 have hv:=aZ hx he
 rw[hc]at hv
 refine bL.val hr (val:=.int .i64 b.size) ?_ (.int _ _)
 unfold Builtin.len_
 simp only[h0]
 simp[run_underlying hu,jP hv,goInt]
theorem Fz{n:Nat}{v:Value}(hr:HR C ρ F H w)(hc:cur H c=true)(h:pY c=some n)(hv:VR w F ρ c v):∃q cap,v=.slice q n cap:=by
 unfold pY at h
 split at h
 ·cases h
  cases hv
  exact⟨_,_,rfl⟩
 ·cases h
  obtain⟨l,z,L,ex,_,_,_,g1,g2⟩:=ep hr hc hv
  cases hvi:l.bC with
  |true=>obtain⟨q,rfl,_,rfl⟩:=g1 hvi;exact⟨_,_,rfl⟩
  |false=>obtain⟨_,q,rfl,_⟩:=g2 hvi;exact⟨_,_,rfl⟩
 ·cases h
theorem Hm{ats:Array TypeId}{t0 el ty:TypeId}{x:Operand}{y:bX}{n:Nat}(hx:bA x=some y)(h0:ats[0]?=some t0)(hu:C.P.underlying t0=some (.slice el))(hr:HR C ρ F H w)(he:ER w F ρ e a.tmps)
 (hc:cur H (ev e y)=true) (h:pY (ev e y)=some n):bL C (do pure (.value (←Builtin.len_ ats ty #[a.eval x]))) ρ F H w (.int .i64 n) H:=by
 obtain⟨q,cap,hq⟩:=Fz hr hc h (aZ hx he)
 refine bL.val hr (val:=.int .i64 n) ?_ (.int _ _)
 unfold Builtin.len_
 simp only[h0]
 simp[run_underlying hu,hq,goInt]
theorem FY{ats:Array TypeId}{t0 el ty:TypeId}{x:Operand}{n:Nat}(h0:ats[0]?=some t0)(hu:C.P.underlying t0=some (.array n el))(hr:HR C ρ F H w) :
 bL C (do pure (.value (←Builtin.len_ ats ty #[a.eval x]))) ρ F H w (.int .i64 n) H:=by
 refine bL.val hr (val:=.int .i64 n) ?_ (.int _ _)
 unfold Builtin.len_
 simp only[h0]
 simp[run_underlying hu,goInt]
theorem BA{f:Int→Int→Int}{g:Value→Value→Sem Value}(hg:∀k x k2 y,g (.int k x) (.int k2 y)=pure (.int k (f x y))) :
 ∀(cs:List SV) (vs:List Value) (x:Int) (k:IntKind) (s:SV),cs.length=vs.length→(∀(j:Nat) c v,cs[j]?=some c→vs[j]?=some v→VR w F ρ c v)→foldI f x k cs=some s→
 ∃n,s=.int k n∧(vs.foldlM g (.int k x)).run C.P w=.ok (.int k n) w:=by
 intro cs
 induction cs with
 |nil=>
  intro vs x k s hn _ h
  simp[foldI]at h
  subst h
  cases vs with
  |nil=>exact⟨x,rfl,rfl⟩
  |cons _ _=>simp at hn
 |cons c cs ih=>
  intro vs x k s hn hv h
  cases vs with
  |nil=>simp at hn
  |cons v vs=>
   cases c<;>simp only[foldI]at h<;>(try (cases h;done))
   rename_i k2 y
   replace h:=aj h
   obtain⟨_,h⟩:=h
   have h0:=gj (hv 0 _ v rfl rfl)
   subst h0
   obtain⟨n,rfl,hrun⟩:=ih vs (f x y) k s (by simpa using hn) (fun j c v hc hv'=>hv (j+1) c v (by simpa using hc) (by simpa using hv')) h
   refine⟨n,rfl,?_⟩
   simp only[afU,Sem.run_bind,hg]
   exact hrun
theorem te{f:Int→Int→Int}{g:Value→Value→Sem Value}(hg:∀k x k2 y,g (.int k x) (.int k2 y)=pure (.int k (f x y))){xs:Array Operand}{ys:List bX}(hx:jo xs=some ys)(he:ER w F ρ e a.tmps)
 (h:kV f (ys.map (ev e))=some s):∃k n x r,s=.int k n∧(xs.map a.eval).toList=x::r∧(r.foldlM g x).run C.P w=.ok (.int k n) w:=by
 obtain⟨h1,h2⟩:=jm hx he
 generalize ys.map (ev e)=cs at *
 cases cs with
 |nil=>simp[kV]at h
 |cons c cs=>
  cases c<;>simp only[kV]at h<;>(try (cases h;done))
  rename_i k x
  cases hl:(xs.map a.eval).toList with
  |nil=>simp at hl;subst hl;simp at h1
  |cons v vs=>
   have hg':∀j:Nat,(xs.map a.eval)[j]?=(v::vs)[j]?:=fun j=>by rw[←hl];simp
   have h0:=gj (h2 0 _ v rfl (by rw[hg'];rfl))
   subst h0
   have hlen:=congrArg List.length hl
   obtain⟨n,rfl,hrun⟩:=BA (C:=C) (w:=w) (F:=F) (ρ:=ρ) hg cs vs x k s (by simp at h1 hlen;omega) (fun j c v hc hv=>h2 (j+1) c v (by simpa using hc) (by rw[hg'];simpa using hv)) h
   exact⟨k,n,_,_,rfl,rfl,hrun⟩
theorem Ji{ats:Array TypeId}{ty:TypeId}{xs:Array Operand}{ys:List bX}(hx:jo xs=some ys)(hr:HR C ρ F H w)(he:ER w F ρ e a.tmps)
 (h:kV (fun a b=>if b>a then b else a) (ys.map (ev e))=some s):bL C (do pure (.value (←Builtin.max_ ats ty (xs.map a.eval)))) ρ F H w s H:=by
 obtain⟨k,n,x,r,rfl,h1,h2⟩:=te (C:=C) (g:=Builtin.max2) (fun _ _ _ _=>rfl) hx he h
 refine bL.val hr ?_ (.int k n)
 unfold Builtin.max_
 simp only[h1]
 exact h2
theorem Kb{ats:Array TypeId}{ty:TypeId}{xs:Array Operand}{ys:List bX}(hx:jo xs=some ys)(hr:HR C ρ F H w)(he:ER w F ρ e a.tmps)
 (h:kV (fun a b=>if b<a then b else a) (ys.map (ev e))=some s):bL C (do pure (.value (←Builtin.min_ ats ty (xs.map a.eval)))) ρ F H w s H:=by
 obtain⟨k,n,x,r,rfl,h1,h2⟩:=te (C:=C) (g:=Builtin.min2) (fun _ _ _ _=>rfl) hx he h
 refine bL.val hr ?_ (.int k n)
 unfold Builtin.min_
 simp only[h1]
 exact h2
theorem lF{y n:Nat}{v:Value}{code:BoundsCode}(h:vJ y c=some n)(hv:VR w F ρ c v):n≤y∧∀z,y≤z→(Instr.sliceBound v z code).run C.P w=.ok n w:=by
 unfold vJ at h
 split at h
 ·rename_i k j
  replace h:=aj h
  obtain⟨hc,h⟩:=h
  cases h
  simp at hc
  refine⟨by omega,fun z hz=>?_⟩
  rw[gj hv]
  unfold Instr.sliceBound
  have:0≤j∧j≤(z:Int):=by omega
  simp only[Sem.run_bind,asIntOf,pure,Sem.run,Result.andThen,this,and_self,if_true]
 ·cases h
theorem gz{x:Option Operand}{y:Option bX}(h:gA x=some y)(he:ER w F ρ e a.tmps):(x=none∧y=none)∨∃p q,x=some p∧y=some q∧VR w F ρ (ev e q) (a.eval p):=by
 cases x with
 |none=>simp[gA]at h;exact .inl ⟨rfl,h.symm⟩
 |some p=>
  simp only[gA,acq]at h
  obtain⟨q,h1,rfl⟩:=h
  exact .inr ⟨p,q,rfl,rfl,aZ h1 he⟩
theorem n7{isS:Bool}{n cap h l:Nat}{lo hi:Option Operand}{lo' hi':Option bX}(hlo:gA lo=some lo')(hhi:gA hi=some hi')(he:ER w F ρ e a.tmps)(hcap:n≤cap)
 (h1:fC n n (hi'.map (ev e))=some h) (h2:fC h 0 (lo'.map (ev e))=some l):l≤h∧h≤n∧(Instr.sliceBounds isS n cap (lo.map a.eval) (hi.map a.eval) none).run C.P w=.ok (l,h,cap) w:=by
 have a1:h≤n∧(match hi.map a.eval,(none:Option Value)with
  |some v,some _=>Instr.sliceBound v cap .slice3B
  |some v,none=>Instr.sliceBound v cap (if isS then .sliceAcap else .sliceAlen)
  |none,none=>pure n
  |none,some _=>stuck "Slice: max without high").run C.P w=.ok h w:=by
  rcases gz hhi he with⟨rfl,rfl⟩|⟨p,q,rfl,rfl,hv⟩
  ·simp[fC]at h1;subst h1;exact⟨acH _,rfl⟩
  ·obtain⟨k1,k2⟩:=lF (C:=C) (code:=if isS then .sliceAcap else .sliceAlen) h1 hv
   exact⟨k1,k2 cap hcap⟩
 have a2:l≤h∧(match lo.map a.eval with
  |some v=>Instr.sliceBound v h (if(none:Option Value).isSome then .slice3C else .sliceB)
  |none=>pure 0).run C.P w=.ok l w:=by
  rcases gz hlo he with⟨rfl,rfl⟩|⟨p,q,rfl,rfl,hv⟩
  ·simp[fC]at h2;subst h2;exact⟨aei _,rfl⟩
  ·obtain⟨k1,k2⟩:=lF (C:=C) (code:=.sliceB) h2 hv
   exact⟨k1,k2 h (acH _)⟩
 refine⟨a2.1,a1.1,?_⟩
 have b1:=a1.2
 have b2:=a2.2
 unfold Instr.sliceBounds
 simp only[Sem.run_bind,pure,Sem.run,Result.andThen_ok]at b1 b2⊢
 cases hi<;>cases lo<;>simp only[ae0,adm]at b1 b2⊢ <;>simp_all [Sem.run,pure]
end
end
section
section
variable{C:Ctx}{ρ:Map}{F:Nat→Prop}{H H':ab}{w:World}{e:Env}{a:Act}{s c d:SV}
theorem A3{t:TypeId}{x:Operand}{y:bX}{lo hi:Option Operand}{lo' hi':Option bX}{b:ByteArray}(hx:bA x=some y)(hlo:gA lo=some lo')(hhi:gA hi=some hi')(hu:C.P.underlying t=some .string)
 (hr:HR C ρ F H w) (he:ER w F ρ e a.tmps) (hc:ev e y=.str b) (h:uE b (lo'.map (ev e)) (hi'.map (ev e))=some s) :
 bL C (do pure (.value (←Instr.sliceAt t (a.eval x) (lo.map a.eval) (hi.map a.eval) ((none:Option Operand).map a.eval)))) ρ F H w s H:=by
 have hv:=aZ hx he
 rw[hc]at hv
 unfold uE at h
 simp only[acu,acq]at h
 obtain⟨h1,k1,l1,k2,rfl⟩:=h
 obtain⟨_,_,hrun⟩:=n7 (C:=C) (w:=w) (isS:=false) hlo hhi he (acH b.size) k1 k2
 refine bL.val hr (val:=.string (b.extract l1 h1)) ?_ (.str _)
 unfold Instr.sliceAt
 simp only[Sem.run_bind,run_underlying hu,Result.andThen,Instr.slice,jP hv,ae0,hrun]
 simp[Sem.run,pure,hrun]
theorem cZ{A:Type}{L:List A}{h l i:Nat}{x:A}(hx:((L.take h).drop l)[i]?=some x):L[l+i]?=some x∧l+i<h:=by
 rw[ado,acX]at hx
 split at hx
 ·exact⟨hx,by assumption⟩
 ·cases hx
theorem orElse_some{A:Type}{x:Option A}{f:Unit→Option A}{s:A}(h:x.orElse f=some s):x=some s∨f ()=some s:=by
 cases x with
 |none=>exact .inr h
 |some y=>exact .inl h
theorem AF{t el:TypeId}{n:Nat}{x:Operand}{y:bX}{lo hi mx:Option Operand}{lo' hi' mx':Option bX}(hx:bA x=some y)(hlo:gA lo=some lo')(hhi:gA hi=some hi')(hmx:gA mx=some mx')
 (hu:C.P.underlying t=some (.slice el)) (hn:gf C.P el=some n) (hr:HR C ρ F H w) (he:ER w F ρ e a.tmps) (hc:ew H n (ev e y)=true)
 (h:gr H (ev e y) (lo'.map (ev e)) (hi'.map (ev e)) (mx'.map (ev e))=some s) :
 bL C (do pure (.value (←Instr.sliceAt t (a.eval x) (lo.map a.eval) (hi.map a.eval) (mx.map a.eval)))) ρ F H w s H:=by
 have hv:=aZ hx he
 generalize ev e y=c at *
 unfold gr at h
 split at h
 ·rename_i b v off m hvv hh hm
  cases hmx':mx' with
  |some q=>rw[hmx']at hm;cases hm
  |none=>
   have hmn:mx=none:=by
    rcases gz hmx he with⟨e1,_⟩|⟨_,_,_,e2,_⟩
    ·exact e1
    ·rw[hmx']at e2;cases e2
   subst hmx' hmn
   split at h
   ·rename_i v0 z L ex hb0
    simp only[acu,acq]at h
    obtain⟨h1,k1,l1,k2,rfl⟩:=h
    obtain⟨l,z9,L9,ex9,hl,hb,hbr,g1,g2⟩:=ep hr (nG hc) hv
    rw[hb0]at hb
    cases hb
    have hb:=hb0
    have hzn:z=n:=by
     unfold ew at hc
     simp[hb]at hc
     exact hc
    subst hzn
    have hver:v=l.cC:=hbr.2.1.symm
    have hesz:l.bP=z:=hbr.2.2.1
    have hLc:L.length≤l.cap:=hbr.2.2.2.2.1
    have k1':fC (L.length-off) (L.length-off) (hi'.map (ev e))=some h1:=by rw[hh];exact k1
    have his:∃u,hi=some u:=by
     rcases gz hhi he with⟨_,e2⟩|⟨p,q,e1,_,_⟩
     ·rw[e2]at hh;cases hh
     ·exact⟨p,e1⟩
    obtain⟨u,rfl⟩:=his
    suffices hs:∃q len cap,a.eval x=.slice q len cap∧L.length-off≤cap∧(L.length-off≤cap→l1≤h1→h1≤L.length-off→VR w F ρ (.bn b v (off+l1) (h1-l1)) (.slice (if cap=l1 then q else q.map (·.add (l1*z))) (h1-l1) (cap-l1))) by
     obtain⟨q,len,cap,j1,j2,j3⟩:=hs
     obtain⟨p1,p2,hrun⟩:=n7 (C:=C) (w:=w) (isS:=true) hlo hhi he j2 k1' k2
     refine bL.val hr ?_ (j3 j2 p1 p2)
     unfold Instr.sliceAt
     have hrun':(Instr.sliceBounds true len cap (lo.map a.eval) (some (a.eval u)) none).run C.P w=.ok (l1,h1,cap) w:=hrun
     simp only[Sem.run_bind,run_underlying hu,Result.andThen,Instr.slice,j1,adm,ae0,hrun',bQ hn]
     rfl
    cases hvi:l.bC with
    |true=>
     obtain⟨q,hq,rfl,rfl⟩:=g1 hvi
     have hcap0:=hbr.2.2.2.2.2.2.1 hvi
     refine⟨q,0,0,hq,by omega,fun j2 p1 p2=>?_⟩
     have:h1=0:=by omega
     subst this
     have:l1=0:=by omega
     subst this
     exact .bn hl (aes hver) rfl (fun _=>⟨fun _=>⟨q,rfl,rfl,rfl⟩,(fun hf=>by rw[hvi]at hf;cases hf)⟩)
    |false=>
     obtain⟨g3,q,hq,g4⟩:=g2 hvi
     refine⟨q,m,l.cap-off,hq,by omega,fun j2 p1 p2=>?_⟩
     refine .bn hl (aes hver) rfl (fun _=>⟨(fun hf=>by rw[hvi]at hf;cases hf),fun _=>⟨by omega,_,by congr 1;omega,fun hlt=>?_⟩⟩)
     rw[if_neg (by omega),g4 (by omega)]
     simp[dz,hesz,adI,acD]
   ·cases h
 ·cases h
theorem Bh{t el:TypeId}{n:Nat}{x:Operand}{y:bX}{lo hi mx:Option Operand}{lo' hi' mx':Option bX}(hx:bA x=some y)(hlo:gA lo=some lo')(hhi:gA hi=some hi')(hmx:gA mx=some mx')
 (hu:C.P.underlying t=some (.slice el)) (hn:gf C.P el=some n) (hr:HR C ρ F H w) (he:ER w F ρ e a.tmps) (hc:ew H n (ev e y)=true) (hsome:mx'.isSome=true→hi'.isSome=true)
 (h:lj (ev e y) (lo'.map (ev e)) (hi'.map (ev e)) (mx'.map (ev e))=some s) :
 bL C (do pure (.value (←Instr.sliceAt t (a.eval x) (lo.map a.eval) (hi.map a.eval) (mx.map a.eval)))) ρ F H w s H:=by
 have hv:=aZ hx he
 generalize ev e y=c at *
 suffices hs:∃q len cap l1 h1 m1,a.eval x=.slice q len cap∧(Instr.sliceBounds true len cap (lo.map a.eval) (hi.map a.eval) (mx.map a.eval)).run C.P w=.ok (l1,h1,m1) w∧
  VR w F ρ s (.slice (if m1=l1 then q else q.map (·.add (l1*n))) (h1-l1) (m1-l1)) by
  obtain⟨q,len,cap,l1,h1,m1,k1,k2,k3⟩:=hs
  refine bL.val hr ?_ k3
  unfold Instr.sliceAt
  simp only[Sem.run_bind,run_underlying hu,Result.andThen,Instr.slice,k1,k2,bQ hn]
  rfl
 cases hmx':mx' with
 |none=>
  have hmn:mx=none:=by
   rcases gz hmx he with⟨e1,_⟩|⟨_,_,_,e2,_⟩
   ·exact e1
   ·rw[hmx']at e2;cases e2
  subst hmx' hmn
  simp only[ae0]at h⊢
  unfold lj at h
  split at h
  ·rename_i z L f
   simp only[acu,acq,fC,acN]at h
   obtain⟨m,rfl,h1,k1,l1,k2,rfl⟩:=h
   generalize a.eval x=u at *
   cases hv with
   |ao V hcap hfull hz hat h1' hv=>
    rename_i q cap
    obtain⟨p1,p2,hrun⟩:=n7 (C:=C) (w:=w) (isS:=true) hlo hhi he hcap k1 k2
    refine⟨q,_,cap,l1,h1,cap,rfl,hrun,?_⟩
    have hlen:((L.take h1).drop l1).length=h1-l1:=by simp;omega
    rw[←hlen]
    refine .ao (fun i j=>V (l1+i) j) (by rw[hlen];omega) (fun hf=>?_) (fun i cs hi=>hz _ cs (cZ hi).1) ?_ (fun i j cs c hi hj=>h1' _ j cs c (cZ hi).1 hj) (fun i j cs c hi hj=>hv _ j cs c (cZ hi).1 hj)
    ·simp at hf
     rw[hlen,hfull hf.1,hf.2]
    ·by_cases hemp:(L.take h1).drop l1=[]
     ·exact .inl hemp
     ·right
      have hlt:l1<h1:=by
       have:0<((L.take h1).drop l1).length:=afG.2 hemp
       omega
      rcases hat with h0|⟨B,o,ha,hF,hk⟩
      ·subst h0;simp at p2;omega
      ·subst ha
       have hne:L≠[]:=fun h=>by subst h;simp at p2;omega
       have hzn:z=n:=by
        unfold ew at hc
        simp at hc
        rcases hc with hc|hc
        ·exact hc
        ·exact absurd hc hne
       subst hzn
       refine⟨B,o+l1*z,?_,hF,fun i j cs c hi hj=>?_⟩
       ·rw[if_neg (by omega)];simp[dz]
       ·have:=hk _ j cs c (cZ hi).1 hj
        rw[adI]at this
        rw[acD o]
        exact this
  ·rename_i b cC off m
   simp only[acu,acq]at h
   obtain⟨h1,k1,l1,k2,rfl⟩:=h
   obtain⟨l,z,L,ex,hl,hb,hbr,g1,g2⟩:=ep hr (nG hc) hv
   have hzn:z=n:=by
    unfold ew at hc
    simp[hb]at hc
    exact hc
   subst hzn
   have hver:cC=l.cC:=hbr.2.1.symm
   have hesz:l.bP=z:=hbr.2.2.1
   cases hvi:l.bC with
   |true=>
    obtain⟨q,hq,rfl,rfl⟩:=g1 hvi
    obtain⟨p1,p2,hrun⟩:=n7 (C:=C) (w:=w) (isS:=true) hlo hhi he (acH 0) k1 k2
    have:h1=0:=by omega
    subst this
    have:l1=0:=by omega
    subst this
    exact⟨q,0,0,0,0,0,hq,hrun,.bn hl (aes hver) rfl (fun _=>⟨fun _=>⟨q,rfl,rfl,rfl⟩,(fun hf=>by rw[hvi]at hf;cases hf)⟩)⟩
   |false=>
    obtain⟨g3,q,hq,g4⟩:=g2 hvi
    obtain⟨p1,p2,hrun⟩:=n7 (C:=C) (w:=w) (isS:=true) hlo hhi he (show m≤l.cap-off by omega) k1 k2
    refine⟨q,m,l.cap-off,l1,h1,l.cap-off,hq,hrun,.bn hl (aes hver) rfl (fun _=>⟨(fun hf=>by rw[hvi]at hf;cases hf),fun _=>⟨by omega,_,by congr 1;omega,fun hlt=>?_⟩⟩)⟩
    rw[if_neg (by omega),g4 (by omega)]
    simp[dz,hesz,adI,acD]
  ·cases h
 |some mq=>
  obtain⟨mo,rfl,hmv⟩:∃mo,mx=some mo∧VR w F ρ (ev e mq) (a.eval mo):=by
   rcases gz hmx he with⟨_,e2⟩|⟨p,q,e1,e2,e3⟩
   ·rw[hmx']at e2;cases e2
   ·rw[hmx']at e2;cases e2;exact⟨p,e1,e3⟩
  subst hmx'
  simp only[adm]at h⊢
  have hb3:∀{n0 cap m h1 l1:Nat},n0≤cap→vJ n0 (ev e mq)=some m→fC m n0 (hi'.map (ev e))=some h1→fC h1 0 (lo'.map (ev e))=some l1→hi'.isSome=true→
   l1≤h1∧h1≤m∧m≤n0∧(Instr.sliceBounds true n0 cap (lo.map a.eval) (hi.map a.eval) (some (a.eval mo))).run C.P w=.ok (l1,h1,m) w:=by
   intro n0 cap m h1 l1 hcap km kh kl hsome
   obtain⟨m1,m2⟩:=lF (C:=C) (code:=.slice3Acap) km hmv
   rcases gz hhi he with⟨_,rfl⟩|⟨hp,hq,rfl,rfl,hhv⟩
   ·cases hsome
   ·obtain⟨h3,h4⟩:=lF (C:=C) (code:=.slice3B) kh hhv
    have a2:l1≤h1∧(match lo.map a.eval with
     |some v=>Instr.sliceBound v h1 (if(some (a.eval mo)).isSome then .slice3C else .sliceB)
     |none=>pure 0).run C.P w=.ok l1 w:=by
     rcases gz hlo he with⟨rfl,rfl⟩|⟨p,q,rfl,rfl,hv⟩
     ·simp[fC]at kl;subst kl;exact⟨aei _,rfl⟩
     ·obtain⟨k1,k2⟩:=lF (C:=C) (code:=.slice3C) kl hv
      exact⟨k1,k2 h1 (acH _)⟩
    refine⟨a2.1,h3,m1,?_⟩
    have b2:=a2.2
    have b1:=h4 m (acH _)
    have b0:=m2 cap hcap
    unfold Instr.sliceBounds
    simp only[Sem.run_bind,pure,Sem.run,Result.andThen_ok]at b0 b1 b2⊢
    cases lo<;>simp only[ae0,adm]at b2⊢ <;>simp_all [Sem.run,pure]
  have hsome:=hsome rfl
  unfold lj at h
  split at h
  ·rename_i z L f
   simp only[acu,acq,fC]at h
   obtain⟨m,km,h1,k1,l1,k2,rfl⟩:=h
   generalize a.eval x=u at *
   cases hv with
   |ao V hcap hfull hz hat h1' hv=>
    rename_i q cap
    obtain⟨p1,p2,p3,hrun⟩:=hb3 hcap km k1 k2 hsome
    refine⟨q,_,cap,l1,h1,m,rfl,hrun,?_⟩
    have hlen:((L.take h1).drop l1).length=h1-l1:=by simp;omega
    rw[←hlen]
    refine .ao (fun i j=>V (l1+i) j) (by rw[hlen];omega) (fun hf=>?_) (fun i cs hi=>hz _ cs (cZ hi).1) ?_ (fun i j cs c hi hj=>h1' _ j cs c (cZ hi).1 hj) (fun i j cs c hi hj=>hv _ j cs c (cZ hi).1 hj)
    ·simp at hf
     rw[hlen,hf]
    ·by_cases hemp:(L.take h1).drop l1=[]
     ·exact .inl hemp
     ·right
      have hlt:l1<h1:=by
       have:0<((L.take h1).drop l1).length:=afG.2 hemp
       omega
      rcases hat with h0|⟨B,o,ha,hF,hk⟩
      ·subst h0;simp at p3;omega
      ·subst ha
       have hne:L≠[]:=fun h=>by subst h;simp at p3;omega
       have hzn:z=n:=by
        unfold ew at hc
        simp at hc
        rcases hc with hc|hc
        ·exact hc
        ·exact absurd hc hne
       subst hzn
       refine⟨B,o+l1*z,?_,hF,fun i j cs c hi hj=>?_⟩
       ·rw[if_neg (by omega)];simp[dz]
       ·have:=hk _ j cs c (cZ hi).1 hj
        rw[adI]at this
        rw[acD o]
        exact this
  ·rename_i b cC off m0
   simp only[acu,acq,fC]at h
   obtain⟨m,km,h1,k1,l1,k2,h⟩:=h
   obtain⟨l,z,L,ex,hl,hb,hbr,g1,g2⟩:=ep hr (nG hc) hv
   have hsl:∃q cap,a.eval x=.slice q m0 cap∧m0≤cap:=by
    cases hvi:l.bC with
    |true=>obtain⟨q,hq,_,rfl⟩:=g1 hvi;exact⟨q,0,hq,acH _⟩
    |false=>obtain⟨g3,q,hq,_⟩:=g2 hvi;exact⟨q,_,hq,by omega⟩
   obtain⟨q,cap,hq,hcap⟩:=hsl
   obtain⟨p1,p2,p3,hrun⟩:=hb3 hcap km k1 k2 hsome
   refine⟨q,m0,cap,l1,h1,m,hq,hrun,?_⟩
   replace h:=aeo h
   cases hml:m==l1 with
   |false=>rw[hml,acJ]at h;rw[←h];exact VR.undef _
   |true=>
   rw[hml,acG]at h
   rw[←h]
   have hml:m=l1:=by simpa using hml
   have e1:h1-l1=0:=by omega
   have e2:m-l1=0:=by omega
   rw[e1,e2]
   exact VR.ao (L:=[]) (fun _ _=>undef) (acH _) (fun _=>rfl) (by simp) (.inl rfl) (by simp) (by simp)
  ·cases h
end
end
section
section
variable{C:Ctx}{ρ:Map}{F:Nat→Prop}{H H':ab}{w:World}{e:Env}{a:Act}{s c d:SV}
theorem vn(off:Nat):∀(l:List Value) (k:Nat) (cells:Array Value),off+k+l.length≤cells.size→
 (l.zipIdx k).foldl (fun(cs:Array Value) (p:Value×Nat)=>cs.setIfInBounds (off+p.2) p.1) cells=nr cells (off+k) l
 |[],k,cells,_=>by simp[nr]
 |v::r,k,cells,h=>by
  simp only[acR]at h
  rw[List.zipIdx_cons,adB,vn off r (k+1) _ (by simp;omega)]
  apply aeX
  intro j
  rw[j8 (by simp;omega),j8 (by simp;omega)]
  simp only[acR]
  by_cases e1:j<off+k
  ·have e2:j<off+(k+1):=by omega
   simp only[e1,e2,if_true]
   rw[adv (by omega)]
  ·by_cases e2:j=off+k
   ·subst e2
    have e3:off+k<off+(k+1):=by omega
    have e4:¬off+k<off+k:=by omega
    have e5:off+k<off+k+(r.length+1):=by omega
    simp only[e3,e4,e5,if_true,if_false]
    have:off+k<cells.size:=by omega
    simp[this]
   ·have a1:¬j<off+(k+1):=by omega
    simp only[a1,e1,if_false]
    by_cases e3:j<off+(k+1)+r.length
    ·have e4:j<off+k+(r.length+1):=by omega
     simp only[e3,e4,if_true]
     rw[show j-(off+k)=(j-(off+(k+1)))+1 by omega]
     simp
    ·have e4:¬j<off+k+(r.length+1):=by omega
     simp only[e3,e4,if_false]
     rw[adv (by omega)]
theorem sI{place:Nat→Option (Nat×Nat)}{cells:Array Value}{i off:Nat}{v:Value}{rest:List (Nat×Value)}(hp:place i=some (off,v.cells.size))(hle:off+v.cells.size≤cells.size) :
 Instr.fill place cells ((i,v)::rest)=Instr.fill place (nr cells off v.cells.toList) rest:=by
 have:(v.cells.zipIdx.foldl (fun cs (c,j)=>cs.setIfInBounds (off+j) c) cells)=nr cells off v.cells.toList:=by
  have:=vn off v.cells.toList 0 cells (by simpa using hle)
  rw[ad9]at this
  rw[←this,←Array.foldl_toList,Array.toList_zipIdx]
 simp only[Instr.fill,hp]
 rw[if_neg (by simp;omega),this]
theorem pk{place:Nat→Option (Nat×Nat)}:∀(qs:List (Nat×Operand)) (ps:List (Nat×Nat×bX)) (z r:List SV) (cells:Array Value),
 ps.length=qs.length→(∀(j:Nat) p q,qs[j]?=some q→ps[j]?=some p→place q.1=some (p.1,p.2.1)∧bA q.2=some p.2.2)→ER w F ρ e a.tmps→z.length=cells.size→bI w F ρ cells 0 z→ir (ev e) z ps=some r→
 ∃out,Instr.fill place cells (qs.map fun q=>(q.1,a.eval q.2))=some out∧r.length=out.size∧bI w F ρ out 0 r
 |[],[],z,r,cells,_,_,_,hz,hc,h=>by
  simp[ir]at h;subst h
  exact⟨cells,rfl,hz,hc⟩
 |[],_::_,_,_,_,hl,_,_,_,_,_=>by simp at hl
 |_::_,[],_,_,_,hl,_,_,_,_,_=>by simp at hl
 |q::qs,(off,n,x)::ps,z,r,cells,hl,hp,he,hz,hc,h=>by
  obtain⟨h1,h2⟩:=hp 0 _ _ rfl rfl
  simp only[ir,acu]at h
  obtain⟨cs,hcs,h⟩:=h
  replace h:=aj h
  obtain⟨hb,h⟩:=h
  simp at hb
  obtain⟨hn,hle⟩:=hb
  obtain⟨k1,k2,_⟩:=ie hcs (aZ h2 he)
  have hsz:(nr cells off (a.eval q.2).cells.toList).size=cells.size:=jD (by simp;omega)
  have bJ:=lW (at_:=0) hc k2 hn k1 hle (by omega)
  rw[adr]at bJ
  obtain⟨out,o1,o2,o3⟩:=pk qs ps _ r (nr cells off (a.eval q.2).cells.toList) (by simpa using hl) (fun j p q hq hp'=>hp (j+1) p q (by simpa using hq) (by simpa using hp')) he
   (by rw[iQ hn hle,hsz];exact hz) bJ h
  refine⟨out,?_,o2,o3⟩
  simp only[ada]
  rw[sI (by rw[h1,←k1,hn]) (by omega)]
  exact o1
theorem run_places{P:Program}{w:World}:∀(fs:List Field),(∀f∈fs,(gf P f.type).isSome=true)→Sem.run P (fs.mapM (fun(f:Field)=>(do pure (f.offset,←sizeOf f.type):Sem (Nat×Nat)))) w=.ok (fs.map fun(f:Field)=>(f.offset,(gf P f.type).getD 0)) w
 |[],_=>rfl
 |f::fs,h=>by
  obtain⟨n,hn⟩:=Option.isSome_iff_exists.1 (h f (by simp))
  have ih:=run_places (P:=P) (w:=w) fs (fun g hg=>h g (by simp[hg]))
  simp only[List.mapM_cons,Sem.run_bind,bQ hn,Result.andThen,ada,hn,ad3]
  simp only[pure,Sem.run,Result.andThen,Sem.run_bind]at ih⊢
  rw[ih]
theorem Cj{t:TypeId}{qs:Array (Nat×Operand)}{z r:List SV}{ps:List (Nat×Nat×bX)}(hz:iq C.P t=some z)(hp:yH C.P t qs.toList=some ps)(hr:HR C ρ F H w)(he:ER w F ρ e a.tmps)
 (h:ir (ev e) z ps=some r):bL C (do pure (.value (←Instr.build t (qs.map fun(i,x)=>(i,a.eval x))))) ρ F H w (.agg r) H:=by
 obtain⟨i,v,hi,hv,h1,h2⟩:=gB (w:=w) (F:=F) (ρ:=ρ) hz
 have fin:∀out:Array Value,r.length=out.size→bI w F ρ out 0 r→VR w F ρ (.agg r) (.agg out):=fun out o1 o2=>
  .agg o1 (fun j c hj=>let⟨_,_,_,h⟩:=o2 j c hj;h) (fun j c v hj hv=>by
   obtain⟨v',h3,h4,_⟩:=o2 j c hj
   rw[adr]at h3
   rw[h3]at hv;cases hv;exact h4)
 have hlist:(qs.map fun(i,x)=>(i,a.eval x)).toList=qs.toList.map fun q=>(q.1,a.eval q.2):=by simp
 unfold yH at hp
 split at hp
 ·rename_i fs hu
  cases hall:fs.toList.all (fun f=>(gf C.P f.type).isSome)with
  |false=>rw[hall]at hp;simp at hp
  |true=>
   rw[hall]at hp
   simp only[adp,acJ]at hp
   obtain⟨p1,p2⟩:=eb hp
   have hpl:=run_places (P:=C.P) (w:=w) fs.toList (fun f hf=>acZ.1 hall f hf)
   obtain⟨out,o1,o2,o3⟩:=pk (place:=((fs.toList.map fun f=>(f.offset,(gf C.P f.type).getD 0)).toArray[·]?)) qs.toList ps z r v.cells p1 (fun j p q hq hp'=>by
    have:=p2 j q p hq hp'
    split at this
    ·rename_i f hf
     split at this
     ·rename_i n x hn hx
      cases this
      refine⟨?_,hx⟩
      simp[hf,hn]
     ·cases this
    ·cases this) he h1 h2 h
   refine bL.val hr ?_ (fin out o2 o3)
   unfold Instr.build
   simp only[Sem.run_bind,dK hi hv,Result.andThen,run_underlying hu,Array.mapM_eq_mapM_toList]
   rw[Sem.run_map,hpl]
   simp only[Result.andThen,hlist,o1]
   rfl
 ·rename_i n el hu
  split at hp
  ·rename_i m hm
   obtain⟨p1,p2⟩:=eb hp
   obtain⟨out,o1,o2,o3⟩:=pk (place:=fun i=>some (i*m,m)) qs.toList ps z r v.cells p1 (fun j p q hq hp'=>by
    have:=p2 j q p hq hp'
    simp only[acq]at this
    obtain⟨x,hx,rfl⟩:=this
    exact⟨rfl,hx⟩) he h1 h2 h
   refine bL.val hr ?_ (fin out o2 o3)
   unfold Instr.build
   simp only[Sem.run_bind,dK hi hv,Result.andThen,run_underlying hu,bQ hm,hlist,o1]
   rfl
  ·cases hp
 ·cases hp
end
end
section
section
variable{C:Ctx}{ρ:Map}{F:Nat→Prop}{H H':ab}{w:World}{e:Env}{a:Act}{s c d:SV}
def eK(w:World)(F:Nat→Prop)(ρ:Map)(vs:Array Value)(at_ z:Nat)(L:List (List SV)):Prop:=
 (∀(i:Nat) cs,L[i]?=some cs→cs.length=z)∧∀(i:Nat) cs,L[i]?=some cs→bI w F ρ vs (at_+i*z) cs
theorem kM(hr:HR C ρ F H w){L:List (List SV)}{z cap:Nat}{ex:Bool}{vs:Array Value}{ty:TypeId}{w':World}(hw:w'.heap=w.heap.push (.cells vs ty))(hcap:L.length≤cap)(hex:ex=true→cap=L.length)
 (hsz:cap*z≤vs.size) (hc:eK w F ρ vs 0 z L) (n:Nat) (hn:n≤L.length) (hout:w'.os=w.os∧w'.output=w.output:=by exact⟨rfl,rfl⟩) :
 dJ C ρ F H w (.bn H.bl.length 0 0 n) (bJ H (.arr 0 z L ex)) (.slice (some ⟨w.heap.size,0,none⟩) n cap) w':=by
 let l:Loc:={cm:=w.heap.size,base:=0,cap:=cap,bP:=z,cC:=0,bC:=false,arr:=true}
 have hh:∀B,B<w.heap.size→w'.heap[B]?=w.heap[B]?:=fun B hB=>by
  rw[hw];simp[aeh,ael hB]
 have hk:dO F w w':=fun B hB=>hh B (hr.iM B hB)
 have hle:ρ.le (ρ.put H.bl.length l):=fun b l' h=>⟨l',by rw[Map.bp _ _ (ael (hr.jT b l' h))];exact h,.inl rfl⟩
 have hp:=hr.push (w':=w') (by rw[hw];simp) hh (.arr 0 z L ex) l (fun _=>⟨acH _,by rw[hw];simp[l]⟩)
  ⟨rfl,rfl,rfl,hc.1,hcap,hex,(fun h=>by cases h),fun _=>⟨vs,ty,(0,0),by rw[hw];simp[l],fun o ho=>by simp,by simpa[l]using hsz,fun i cs hi=>by
   have:=hc.2 i cs hi
   exact this.mono hk (fun _ h=>h) hle⟩⟩ hout
 exact⟨_,F,.bn (l:=l) (Map.bG _ _ _) (acH _) rfl (fun _=>⟨(fun h=>by cases h),fun _=>⟨by simp[l];omega,_,rfl,fun _=>by simp[l]⟩⟩),hp.1,hp.2⟩
theorem sD{z:Nat}:∀(qs:List (Nat×Operand)) (ps:List (Nat×bX)) (L r:List (List SV)) (cells:Array Value),
 ps.length=qs.length→(∀(j:Nat) p q,qs[j]?=some q→ps[j]?=some p→q.1=p.1∧bA q.2=some p.2)→ER w F ρ e a.tmps→L.length*z≤cells.size→eK w F ρ cells 0 z L→fc (ev e) z L ps=some r→
 ∃out,Instr.fill (fun i=>some (i*z,z)) cells (qs.map fun q=>(q.1,a.eval q.2))=some out∧r.length=L.length∧out.size=cells.size∧eK w F ρ out 0 z r
 |[],[],L,r,cells,_,_,_,hz,hc,h=>by
  simp[fc]at h;subst h
  exact⟨cells,rfl,rfl,rfl,hc⟩
 |[],_::_,_,_,_,hl,_,_,_,_,_=>by simp at hl
 |_::_,[],_,_,_,hl,_,_,_,_,_=>by simp at hl
 |q::qs,(i,x)::ps,L,r,cells,hl,hp,he,hz,hc,h=>by
  obtain⟨h1,h2⟩:=hp 0 _ _ rfl rfl
  simp only[fc,acu]at h
  obtain⟨cs,hcs,h⟩:=h
  replace h:=aj h
  obtain⟨hb,h⟩:=h
  simp at hb
  obtain⟨hn,hlt⟩:=hb
  simp only at h1 h2
  obtain⟨k1,k2,_⟩:=ie hcs (aZ h2 he)
  have hm:(i+1)*z≤L.length*z:=adG z hlt
  rw[adI,aep]at hm
  have hle:i*z+(a.eval q.2).cells.size≤cells.size:=by omega
  have hsz:(nr cells (i*z) (a.eval q.2).cells.toList).size=cells.size:=jD (by simp;omega)
  have hrow:eK w F ρ (nr cells (i*z) (a.eval q.2).cells.toList) 0 z (L.set i cs):=by
   refine⟨fun j ds hj=>?_,fun j ds hj=>?_⟩
   ·by_cases e1:j=i
    ·subst e1;simp[hlt]at hj;subst hj;exact hn
    ·rw[acv (Ne.symm e1)]at hj;exact hc.1 j ds hj
   ·by_cases e1:j=i
    ·subst e1
     simp[hlt]at hj
     subst hj
     obtain⟨old,hold⟩:∃o,L[j]?=some o:=⟨L[j],acK hlt⟩
     have:=lW (at_:=0+j*z) (o:=0) (n:=z) (hc.2 j old hold) k2 hn k1 (by rw[hc.1 j old hold];omega) (by rw[hc.1 j old hold];omega)
     rw[ad9,adr]at this
     rw[adr]
     intro q' c' hq'
     refine this q' c' ?_
     have hlen:=(acm.1 hq').1
     unfold fJ
     rw[aeV,adu,acF hlen]
     exact hq'
    ·rw[acv (Ne.symm e1)]at hj
     refine mT (n:=0) (hc.2 j ds hj) (by simp;omega) ?_
     have hd:=hc.1 j ds hj
     simp only[aeG]
     rcases afK e1 with hlt'|hlt'
     ·left
      have:(j+1)*z≤i*z:=adG z hlt'
      rw[adI,aep]at this
      omega
     ·right
      have:(i+1)*z≤j*z:=adG z hlt'
      rw[adI,aep]at this
      omega
  obtain⟨out,o1,o2,o3,o4⟩:=sD qs ps _ r (nr cells (i*z) (a.eval q.2).cells.toList) (by simpa using hl) (fun j p q hq hp'=>hp (j+1) p q (by simpa using hq) (by simpa using hp')) he
   (by rw[hsz];simpa using hz) hrow h
  refine⟨out,?_,by simpa using o2,o3.trans hsz,o4⟩
  simp only[ada]
  rw[h1,sI (by rw[←k1,hn]) hle]
  exact o1
def cI(zs:Array Value)(n:Nat):Array Value:=(Array.range n).map fun i=>zs[i%zs.size]!
theorem jU{z n:Nat}{zs:Array Value}{zl:List SV}(hz:zl.length=z)(hzs:zl.length=zs.size)(hc:bI w F ρ zs 0 zl)(h0:0<z):eK w F ρ (cI zs (n*z)) 0 z (List.replicate n zl):=by
 refine⟨fun i cs hi=>?_,fun i cs hi=>?_⟩<;>rw[adX]at hi<;>split at hi<;>(try (cases hi;done))<;>cases hi
 ·exact hz
 ·rename_i hlt
  intro j c hj
  have hjl:=(acm.1 hj).1
  obtain⟨v,h1,h2,h3⟩:=hc j c hj
  have hm:(i+1)*z≤n*z:=adG z hlt
  rw[adI,aep]at hm
  refine⟨v,?_,h2,h3⟩
  rw[adr]at h1⊢
  unfold cI
  have hmod:(i*z+j)%zs.size=j:=by
   rw[←hzs,hz,afZ,Nat.add_mul_mod_self_right,afV (by omega)]
  simp only[Array.getElem?_map,Array.getElem?_range,show i*z+j<n*z by omega,if_true,adm,hmod]
  congr 1
  have hj':j<zs.size:=by omega
  rw[getElem!_pos zs j hj']
  rw[adD hj']at h1
  exact aeo h1
theorem Bv{t el:TypeId}{n z:Nat}{qs:Array (Nat×Operand)}{zl:List SV}{ps:List (Nat×bX)}{L:List (List SV)}(he0:mF C.P t=some el)(hsz:gf C.P el=some (z+1))(hz:iq C.P el=some zl)
 (hp:bR (qs.toList.map fun p=>(bA p.2).map fun x=>(p.1,x))=some ps) (hlim:n*(z+1)≤16777216) (hzl:zl.length=z+1) (hr:HR C ρ F H w) (he:ER w F ρ e a.tmps)
 (h:fc (ev e) (z+1) (List.replicate n zl) ps=some L):bL C (do pure (.value (←Instr.buildSlice t n (qs.map fun(i,x)=>(i,a.eval x))))) ρ F H w (.bn H.bl.length 0 0 n) (bJ H (.arr 0 (z+1) L true)):=by
 obtain⟨i,v,hi,hv,h1,h2⟩:=gB (w:=w) (F:=F) (ρ:=ρ) hz
 have hu:C.P.underlying t=some (.slice el):=by
  unfold mF at he0
  split at he0
  ·cases he0;assumption
  ·cases he0
 have hlist:(qs.map fun(i,x)=>(i,a.eval x)).toList=qs.toList.map fun q=>(q.1,a.eval q.2):=by simp
 obtain⟨p1,p2⟩:=eb hp
 have hzr:(cI v.cells (n*(z+1))).size=n*(z+1):=by simp[cI]
 obtain⟨out,o1,o2,o3,o4⟩:=sD qs.toList ps (List.replicate n zl) L (cI v.cells (n*(z+1))) p1 (fun j p q hq hp'=>by
  have:=p2 j q p hq hp'
  simp only[acq]at this
  obtain⟨x,hx,rfl⟩:=this
  exact⟨rfl,hx⟩) he (by rw[hzr];simp) (jU hzl h1 h2 (Nat.succ_pos z)) h
 have hlen:L.length=n:=by simpa using o2
 refine bL.vb (w':={w with heap:=w.heap.push (.cells out el)}) ?_ (kM hr rfl (acH L.length) (fun _=>rfl) (by rw[o3,hzr,hlen];exact acH _) o4 n (by omega))
 have hlim':¬n*(z+1)>2 ^ 24:=by omega
 unfold Instr.buildSlice
 simp only[Sem.run_bind,run_underlying hu,Result.andThen,bQ hsz,if_neg hlim']
 by_cases h0:n*(z+1)=0
 ·have hzz:(Array.range (n*(z+1))).map (fun x=>(#[]:Array Value)[x%(#[]:Array Value).size]!)=cI v.cells (n*(z+1)):=by
   unfold cI;rw[h0];simp
  simp only[h0,if_true,pure,Sem.run,Result.andThen,Sem.run_bind]
  rw[h0]at hzz
  rw[h0]at o1
  simp only[hzz,hlist,o1]
  simp[newRow,newObj,Sem.run,hlen]
 ·simp only[h0,if_false,Sem.run_bind,dK hi hv,Result.andThen,pure,Sem.run]
  have hzz:(Array.range (n*(z+1))).map (fun x=>v.cells[x%v.cells.size]!)=cI v.cells (n*(z+1)):=rfl
  simp only[hzz,hlist,o1]
  simp[newRow,newObj,Sem.run,hlen]
end
end
section
section
variable{C:Ctx}{ρ:Map}{F:Nat→Prop}{H H':ab}{w:World}{e:Env}{a:Act}{s c d:SV}
theorem tP{w':World}(h:w'.heap=w.heap)(ad:Addr):w'.cell? ad=w.cell? ad:=by simp[World.cell?,h]
theorem oE{vs:Array Value}{at_ z:Nat}:eK w F ρ vs at_ z []:=⟨by simp,by simp⟩
theorem zV{vs:Array Value}{z:Nat}{X:List (List SV)}(h:eK w F ρ vs 0 z X)(hn:vs.size=X.length*z):∀v∈vs.toList,jX v=true:=by
 intro v hv
 obtain⟨j,hj,rfl⟩:=List.mem_iff_getElem.1 hv
 simp at hj
 have hz:0<z:=by
  rcases Nat.eq_zero_or_pos z with h0|h0
  ·subst h0;omega
  ·exact h0
 have hi:j/z<X.length:=by
  apply Nat.div_lt_of_lt_mul
  rw[afx];omega
 have hx:X[j/z]?=some X[j/z]:=acK hi
 have hl:=h.1 _ _ hx
 have hm:j%z<(X[j/z]).length:=by rw[hl];exact afo _ hz
 obtain⟨v',h1,h2,h3⟩:=h.2 _ _ hx (j%z) _ (acK hm)
 have:0+j/z*z+j%z=j:=by
  rw[adr,afx];exact Nat.div_add_mod j z
 rw[this,adD (by omega)]at h1
 have:v'=vs.toList[j]:=by simpa using(aeo h1).symm
 rw[←this]
 exact h2.one h3
def F5(C:Ctx)(w:World)(F:Nat→Prop)(H:ab)(ρ ρ1:Map)(c:SV):Prop:=∀b cC off n l x,c=.bn b cC off n→ρ b=some l→bk H b=some x→x.live=true→BR C w F ρ1 l x
theorem eP(hr:HR C ρ F H w):F5 C w F H ρ ρ c:=fun b cC off n l x _ hl hb hx=>by
 obtain⟨l',h1,h2⟩:=hr.live b x hb hx
 rw[hl]at h1;cases h1
 exact h2
theorem kH(hr:HR C ρ F H w){z:Nat}(hz:0<z){X:List (List SV)}{v:Value}(hv:VR w F ρ c v)(h:nq z H c=some X) :
 ∃q cap cells,v=.slice q X.length cap∧(∀w':World,w'.heap=w.heap→(Builtin.firstCells z X.length v).run C.P w'=.ok cells w')∧cells.size=X.length*z∧∀ρ1:Map,F5 C w F H ρ ρ1 c→eK w F ρ1 cells 0 z X:=by
 unfold nq at h
 split at h
 ·rename_i z' L f
  replace h:=aj h
  obtain⟨hc,h⟩:=h
  have h':L=X:=aeo h
  subst h'
  clear h
  cases hv with
  |ao V hcap hfull hz' hat h1 hv=>
   rename_i q cap
   rcases hat with h0|⟨B,o,ha,hF,hk⟩
   ·subst h0
    refine⟨q,cap,#[],rfl,fun w' hw=>?_,by simp,fun _ _=>oE⟩
    cases q with
    |none=>rfl
    |some q=>simp only[Builtin.firstCells,acV,ae1];rfl
   ·subst ha
    by_cases h0:L=[]
    ·subst h0
     exact⟨_,cap,#[],rfl,fun w' hw=>by simp only[Builtin.firstCells,acV,ae1];rfl,by simp,fun _ _=>oE⟩
    ·have hzz:z'=z:=by
      simp at hc
      rcases hc with hc|hc
      ·exact hc
      ·exact absurd hc h0
     subst hzz
     refine⟨_,cap,((List.range (L.length*z')).map fun j=>V (j/z') (j%z')).toArray,rfl,fun w' hw=>?_,by simp,fun ρ1 _=>⟨fun i cs hi=>hz' i cs hi,fun i cs hi j c hj=>?_⟩⟩
     ·simp only[Builtin.firstCells]
      refine run_loadCells w' _ _ _ (fun j hj=>?_)
      rw[dz,tP hw]
      have hi:j/z'<L.length:=Nat.div_lt_of_lt_mul (by rw[afx];exact hj)
      have hx:L[j/z']?=some L[j/z']:=acK hi
      have hm:j%z'<(L[j/z']).length:=by rw[hz' _ _ hx];exact afo _ hz
      have:=hk _ _ _ _ hx (acK hm)
      rw[acD,afx,Nat.div_add_mod]at this
      exact this
     ·have hil:=(acm.1 hi).1
      have hjl:=(acm.1 hj).1
      rw[hz' i cs hi]at hjl
      have hm:(i+1)*z'≤L.length*z':=adG z' hil
      rw[adI,aep]at hm
      refine⟨V i j,?_,(hv i j cs c hi hj).mono (fun _ _=>rfl) (fun _ h=>h) (lI _),h1 i j cs c hi hj⟩
      have e1:(i*z'+j)/z'=i:=by
       rw[afZ,Nat.add_mul_div_right _ _ hz,Nat.div_eq_of_lt hjl,adr]
      have e2:(i*z'+j)%z'=j:=by rw[afZ,Nat.add_mul_mod_self_right,afV hjl]
      rw[adr]
      have hlt:i*z'+j<L.length*z':=by omega
      simp only[aem,ad2,aeu hlt,adm,e1,e2]
 ·rename_i b cC off n
  split at h
  ·rename_i ver' z' L ex hb
   replace h:=aj h
   obtain⟨hc,h⟩:=h
   simp at hc
   obtain⟨⟨rfl,rfl⟩,hle⟩:=hc
   cases h
   obtain⟨l,z2,L2,ex2,hl,hb2,hbr,g1,g2⟩:=ep hr (by unfold cur;simp[hb]) hv
   rw[hb]at hb2;cases hb2
   have hlen:((L.drop off).take n).length=n:=by simp;omega
   cases hvi:l.bC with
   |true=>
    obtain⟨q,rfl,rfl,rfl⟩:=g1 hvi
    simp only[aeV,acV,ae1]
    refine⟨q,0,#[],rfl,fun w' hw=>?_,by simp,fun _ _=>oE⟩
    cases q with
    |none=>rfl
    |some q=>simp only[Builtin.firstCells,ae1];rfl
   |false=>
    obtain⟨g3,q,rfl,g4⟩:=g2 hvi
    obtain⟨h1,h2,h3,h4,h5,h6,h7,h8⟩:=hbr
    obtain⟨vs,ty,fz,k1,k2,k3,k4⟩:=h8 hvi
    rw[hlen]
    by_cases hn0:n=0
    ·subst hn0
     simp only[aeV]
     refine⟨q,_,#[],rfl,fun w' hw=>?_,by simp,fun _ _=>oE⟩
     cases q with
     |none=>rfl
     |some q=>simp only[Builtin.firstCells,ae1];rfl
    ·have:=g4 (by omega)
     subst this
     have hm:(off+n)*z'≤l.cap*z':=adG z' g3
     rw[adI]at hm
     refine⟨_,_,vs.extract (l.base+off*z') (l.base+off*z'+n*z'),rfl,fun w' hw=>?_,by simp;omega,fun ρ1 hρ1=>⟨fun i cs hi=>?_,fun i cs hi=>?_⟩⟩
     ·simp only[Builtin.firstCells,h3]
      rw[run_loadCells w' _ _ (fun j=>vs.getD (l.base+off*z'+j) undef) (fun j hj=>by
       rw[dz,tP hw,oh k1]
       have:l.base+off*z'+j<vs.size:=by omega
       simp[this])]
      congr 1
      apply Array.ext
      ·simp;omega
      ·intro j h1 h2
       simp at h1
       have:l.base+off*z'+j<vs.size:=by omega
       simp[this]
     ·obtain⟨e1,_⟩:L[off+i]?=some cs∧True:=by
       rw[acX]at hi
       split at hi
       ·rw[ado]at hi;exact⟨hi,trivial⟩
       ·cases hi
      exact h4 _ cs e1
     ·obtain⟨e1,e2⟩:L[off+i]?=some cs∧i<n:=by
       rw[acX]at hi
       split at hi
       ·rw[ado]at hi;exact⟨hi,by assumption⟩
       ·cases hi
      intro j c hj
      have hjl:=(acm.1 hj).1
      rw[h4 _ cs e1]at hjl
      obtain⟨_,_,_,_,_,_,_,h9⟩:=hρ1 b _ _ _ l _ rfl hl hb rfl
      obtain⟨vs2,ty2,fz2,m1,m2,m3,m4⟩:=h9 hvi
      rw[k1]at m1;cases m1
      obtain⟨v',p1,p2⟩:=m4 _ cs e1 j c hj
      refine⟨v',?_,p2⟩
      have hm2:(i+1)*z'≤n*z':=adG z' e2
      rw[adI,aep]at hm2
      rw[afn,if_pos (by omega)]
      rw[adI]at p1
      rw[show l.base+off*z'+(0+i*z'+j)=l.base+(off*z'+i*z')+j by omega]
      exact p1
  ·cases h
 ·cases h
end
end
section
section
variable{C:Ctx}{ρ:Map}{F:Nat→Prop}{H H':ab}{w:World}{e:Env}{a:Act}{s c d:SV}
structure FE(P:Program)(ats:Array TypeId)(el:TypeId)(z:Nat)(i:TypeInfo)(zv:Value):Prop where
 t0:∃t,ats[0]?=some t∧P.underlying t=some (.slice el)
 t1:∃t el',ats[1]?=some t∧P.underlying t=some (.slice el')
 inf:P.info? el=some i
 size:i.size=z
 zero:i.zero=some zv
 Z4:zv.cells.size=z
 Er:0<z
 byt:0<i.bytes
theorem FE.gf{P:Program}{ats:Array TypeId}{el:TypeId}{z:Nat}{i:TypeInfo}{zv:Value}(h:FE P ats el z i zv):gf P el=some z:=by
 unfold Go.Sh.gf;rw[h.inf];simp[h.size]
theorem run_append_fits{P:Program}{ats:Array TypeId}{el:TypeId}{z:Nat}{i:TypeInfo}{zv:Value}(hT:FE P ats el z i zv){ty:TypeId}{base q:Option Addr}{sl sc m mc:Nat}{cells:Array Value}
 (hx:(Builtin.firstCells z m (.slice q m mc)).run P w=.ok cells w) (hfit:sl+m≤sc) {w':World} (hst:∀ad,base=some ad→(storeCells (ad.add (sl*z)) cells.toList).run P w=.ok () w') (hno:base=none→w'=w) :
 (Builtin.append_ ats ty #[.slice base sl sc,.slice q m mc]).run P w=.ok (.slice base (sl+m) sc) w':=by
 obtain⟨t0,h0,hu0⟩:=hT.t0
 obtain⟨t1,el',h1,hu1⟩:=hT.t1
 unfold Builtin.append_
 simp only[h0,h1,aem,List.getElem?_cons_zero,aeE,Sem.run_bind,run_underlying hu0,run_underlying hu1,Result.andThen,bQ hT.gf]
 simp only[pure,Sem.run,Result.andThen,Builtin.lenOf,adh,if_false,hfit,if_true,Sem.run_bind,adU]
 rw[hx]
 cases base with
 |none=>simp only[hno rfl];rfl
 |some ad=>simp only[hst ad rfl,Sem.run_bind,Result.andThen];rfl
theorem oR{P:Program}{ats:Array TypeId}{el:TypeId}{z:Nat}{i:TypeInfo}{zv:Value}(hT:FE P ats el z i zv){ty:TypeId}{base q:Option Addr}{sl sc m mc:Nat}{cells old:Array Value}
 (hx:∀w',w'.heap=w.heap→(Builtin.firstCells z m (.slice q m mc)).run P w'=.ok cells w') (ho:∀w',w'.heap=w.heap→(Builtin.firstCells z sl (.slice base sl sc)).run P w'=.ok old w') (hfit:¬sl+m≤sc) (hb:(sl+m)*i.bytes≤bV) :
 ∃nc w' vs ty',sl+m≤nc∧(w'.heap=w.heap.push (.cells vs ty')∧w'.os=w.os∧w'.output=w.output)∧(∃rest,vs=old++cells++rest∧rest.size=(nc-(sl+m))*z)∧
  (Builtin.append_ ats ty #[.slice base sl sc,.slice q m mc]).run P w=.ok (.slice (some ⟨w.heap.size,0,none⟩) (sl+m) nc) w':=by
 obtain⟨t0,h0,hu0⟩:=hT.t0
 obtain⟨t1,el',h1,hu1⟩:=hT.t1
 have hbp:=hT.byt
 have hml:bV=1099511627776:=rfl
 have g1:¬Builtin.nextslicecap (sl+m) sc*i.bytes>2 ^ 48:=by
  have:=growslice_fits (need:=sl+m) (old:=sc) (bytes:=i.bytes) (by omega) (by omega)
  omega
 have hle:sl+m≤(sl+m)*i.bytes:=Nat.le_mul_of_pos_right _ hbp
 have g2:¬(9223372036854775807<((sl:Int)+(m:Int))):=by omega
 have g1':¬(281474976710656<Builtin.nextslicecap (sl+m) sc*i.bytes):=by omega
 refine⟨grownCap w (sl+m) sc el,w.drew.alloc (.cells (old++cells++Builtin.zeroCells zv.cells (grownCap w (sl+m) sc el-(sl+m))) el),_,el,?_,⟨rfl,rfl,rfl⟩,⟨_,rfl,by simp[Builtin.zeroCells,hT.Z4]⟩,?_⟩
 ·show sl+m≤(sl+m)+_%_
  omega
 ·have hf:=hx w.drew rfl
  have hfo:=ho w.drew rfl
  have hi:=hT.inf
  have hsz:=hT.size
  have hz:=hT.zero
  simp[Builtin.append_,h0,h1,run_underlying hu0,run_underlying hu1,sizeOf,typeInfo,zeroValue,hi,hz,hsz,Builtin.lenOf,hfit,g2,g1',Question.forced,hf,hfo,newRow,grownCap]
end
end
section
section
variable{C:Ctx}{ρ:Map}{F:Nat→Prop}{H H':ab}{w:World}{e:Env}{a:Act}{s c d:SV}
theorem mR{vs ws:Array Value}{at_:Nat}{cs:List SV}(hc:bI w F ρ vs at_ cs):bI w F ρ (vs++ws) at_ cs:=by
 intro j c hj
 obtain⟨v,h1,h2⟩:=hc j c hj
 have:=(ac6.1 h1).1
 exact⟨v,by rw[ae7 this];exact h1,h2⟩
theorem vp{vs ws:Array Value}{at_:Nat}{cs:List SV}(hc:bI w F ρ ws at_ cs):bI w F ρ (vs++ws) (vs.size+at_) cs:=by
 intro j c hj
 obtain⟨v,h1,h2⟩:=hc j c hj
 refine⟨v,?_,h2⟩
 rw[Array.getElem?_append_right (by omega),show vs.size+at_+j-vs.size=at_+j by omega]
 exact h1
theorem wT{vs ws rest:Array Value}{z:Nat}{Y X:List (List SV)}(hy:eK w F ρ vs 0 z Y)(hs:vs.size=Y.length*z)(hx:eK w F ρ ws 0 z X):eK w F ρ (vs++ws++rest) 0 z (Y++X):=by
 refine⟨fun i cs hi=>?_,fun i cs hi=>?_⟩<;>rw[adV]at hi<;>split at hi
 ·exact hy.1 i cs hi
 ·exact hx.1 _ cs hi
 ·exact mR (mR (hy.2 i cs hi))
 ·rename_i hge
  have:=mR (ws:=rest) (vp (vs:=vs) (hx.2 _ cs hi))
  rw[hs,adr,←adI,show Y.length+(i-Y.length)=i by omega]at this
  rwa [adr]
theorem wC{vs xs:Array Value}{z base off cap:Nat}{L X:List (List SV)}(hL:∀(i:Nat) cs,L[i]?=some cs→cs.length=z)(hc:∀(i:Nat) cs,L[i]?=some cs→bI w F ρ vs (base+i*z) cs)(hx:eK w F ρ xs 0 z X)(hn:xs.size=X.length*z)
 (ho:off≤L.length) (hfit:off+X.length≤cap) (hLc:L.length≤cap) (hsz:base+cap*z≤vs.size) :
 eK w F ρ (nr vs (base+off*z) xs.toList) base z (L.take off++X++L.drop (off+X.length)):=by
 have hm:(off+X.length)*z≤cap*z:=adG z hfit
 rw[adI]at hm
 have hle:base+off*z+xs.toList.length≤vs.size:=by simp;omega
 have ht:(L.take off).length=off:=by simp;omega
 have key:∀(i:Nat) cs,(L.take off++X++L.drop (off+X.length))[i]?=some cs→(off≤i∧i<off+X.length∧X[i-off]?=some cs)∨((i<off∨off+X.length≤i)∧L[i]?=some cs):=by
  intro i cs hi
  rw[aco,adV,ht]at hi
  split at hi
  ·rename_i hlt
   rw[acX,if_pos hlt]at hi
   exact .inr ⟨.inl hlt,hi⟩
  ·rename_i hge
   rw[adV]at hi
   split at hi
   ·exact .inl ⟨by omega,by omega,hi⟩
   ·rename_i h2
    rw[ado,show off+X.length+(i-off-X.length)=i by omega]at hi
    exact .inr ⟨.inr (by omega),hi⟩
 refine⟨fun i cs hi=>?_,fun i cs hi=>?_⟩
 ·rcases key i cs hi with⟨_,_,h⟩|⟨_,h⟩
  ·exact hx.1 _ cs h
  ·exact hL i cs h
 ·rcases key i cs hi with⟨h1,h2,h⟩|⟨h1,h⟩
  ·intro j c hj
   have hjl:=(acm.1 hj).1
   rw[hx.1 _ cs h]at hjl
   obtain⟨v,p1,p2⟩:=hx.2 _ cs h j c hj
   refine⟨v,?_,p2⟩
   have hp:=(ac6.1 p1).1
   have e1:i*z=off*z+(i-off)*z:=by rw[←adI];congr 1;omega
   rw[j8 hle,if_neg (by omega),if_pos (by simp;omega),afv]
   rw[show base+i*z+j-(base+off*z)=0+(i-off)*z+j by omega]
   exact p1
  ·refine mT (n:=0) (hc i cs h) hle ?_
   rw[hL i cs h]
   simp only[aeG,hn]
   rcases h1 with h1|h1
   ·left
    have:(i+1)*z≤off*z:=adG z h1
    rw[adI,aep]at this
    omega
   ·right
    have:(off+X.length)*z≤i*z:=adG z h1
    rw[adI]at this
    omega
theorem CD{vs:Array Value}{z at_ N:Nat}{X:List (List SV)}(h:eK w F ρ vs at_ z X)(hN:SV.refs.av X.flatten≤N):eK w F (ρ.cut N) vs at_ z X:=by
 refine⟨h.1,fun i cs hi j c hj=>?_⟩
 obtain⟨v,h1,h2,h3⟩:=h.2 i cs hi j c hj
 have hm:c∈X.flatten:=afc.2 ⟨cs,acy hi,acy hj⟩
 obtain⟨m,hm⟩:=ac4 hm
 exact⟨v,h1,h2.cut N (fh hN m c hm),h3⟩
def zf(ρ ρ1:Map)(r:Nat):Prop:=ρ1=ρ∨∃N,r≤N∧ρ1=ρ.cut N
theorem po{vs:Array Value}{z at_:Nat}{X:List (List SV)}{ρ1:Map}(h:eK w F ρ vs at_ z X)(hN:zf ρ ρ1 (SV.refs.av X.flatten)):eK w F ρ1 vs at_ z X:=by
 rcases hN with rfl|⟨N,hN,rfl⟩
 ·exact h
 ·exact CD h hN
theorem ke{ats:Array TypeId}{el:TypeId}{z:Nat}{i:TypeInfo}{zv:Value}(hT:FE C.P ats el z i zv){ty:TypeId}(hr:HR C ρ F H w){Y X:List (List SV)}{sv xv:Value}{base:Option Addr}{sc:Nat}(hsv:VR w F ρ s sv)(hxv:VR w F ρ c xv)
 (hY:nq z H s=some Y) (hX:nq z H c=some X) (he:sv=.slice base Y.length sc) (hg:¬Y.length+X.length≤sc) (hb:(Y.length+X.length)*i.bytes≤bV) :
 ∃nc w' vs ty',Y.length+X.length≤nc∧(w'.heap=w.heap.push (.cells vs ty')∧w'.os=w.os∧w'.output=w.output)∧nc*z≤vs.size∧(∀ρ1:Map,F5 C w F H ρ ρ1 s→zf ρ ρ1 (SV.refs.av X.flatten)→eK w F ρ1 vs 0 z (Y++X))∧
  (Builtin.append_ ats ty #[sv,xv]).run C.P w=.ok (.slice (some ⟨w.heap.size,0,none⟩) (Y.length+X.length) nc) w':=by
 obtain⟨q,mc,cells,rfl,k1,k2,k3⟩:=kH hr hT.Er hxv hX
 obtain⟨q',mc',old,h1,j1,j2,j3⟩:=kH hr hT.Er hsv hY
 subst he
 cases h1
 obtain⟨nc,w',vs,ty',g1,g2,⟨rest,g3,g4⟩,g5⟩:=oR hT (ty:=ty) k1 j1 hg hb
 refine⟨nc,w',vs,ty',g1,g2,?_,?_,g5⟩
 ·rw[g3]
  simp only[Array.size_append,j2,k2,g4]
  rw[←adI,←adI]
  exact adG z (by omega)
 ·intro ρ1 h1 h2
  rw[g3];exact wT (j3 ρ1 h1) j2 (po (k3 ρ (eP hr)) h2)
theorem uZ(hr:HR C ρ F H w){b cC z:Nat}{L L':List (List SV)}{ex:Bool}{l:Loc}{refs:Nat}(hb:bk H b=some (.arr cC z L ex))(hl:ρ b=some l)(hbr:BR C w F ρ l (.arr cC z L ex))
 (hH:ca H b (.arr (cC+1) z L' false) refs=some H') {w':World} {l':Loc} (hv':l'.cC=cC+1) (ha:l'.arr=true) (hs:w.heap.size≤w'.heap.size) (hh:∀B,B<w.heap.size→(l.bC=false→B≠l.cm)→w'.heap[B]?=w.heap[B]?)
 (hl':l'.bC=false→(l.bC=false∧l'.cm=l.cm)∨(w.heap.size≤l'.cm∧l'.cm<w'.heap.size))
 (hy:∀ρ1:Map,zf ρ ρ1 refs→BR C w F ρ1 l (.arr cC z L ex)→BR C w' F (ρ1.put b l') l' (.arr (cC+1) z L' false)) {off n:Nat} {val:Value} (hone:jX val=true)
 (hval:(l'.bC=true→∃a,val=.slice a 0 0∧off=0∧n=0)∧
  (l'.bC=false→off+n≤l'.cap∧∃a,val=.slice a n (l'.cap-off)∧(off<l'.cap→a=some ⟨l'.cm,l'.base+off*l'.bP,none⟩))) (hout:w'.os=w.os∧w'.output=w.output:=by exact⟨rfl,rfl⟩) :
 dJ C ρ F H w (.bn b (cC+1) off n) H' val w':=by
 obtain⟨p1,p2⟩:=hr.set (w':=w') hH hb rfl hl hs hh hl' (.inr ⟨hbr.1,by have:=hbr.2.1;omega⟩) (fun _=>hy ρ (.inl rfl) hbr) (fun _ N hN hbN h=>by
  have:=hy (ρ.cut N) (.inr ⟨N,hN,rfl⟩) h
  have e:(ρ.put b l').cut N=(ρ.cut N).put b l':=by
   funext b'
   unfold Map.cut Map.put
   by_cases e:b'=b
   ·subst e;simp[hbN]
   ·simp[e]
  rw[e];exact this) (hout:=hout)
 exact⟨_,F,.bn (Map.bG _ _ _) (by omega) hone (fun _=>hval),p1,p2⟩
theorem iN{ats:Array TypeId}{el:TypeId}{z:Nat}{i:TypeInfo}{zv:Value}(hT:FE C.P ats el z i zv){ty:TypeId}(hr:HR C ρ F H w){xv:Value}{base:Option Addr}{sl sc:Nat}(hxv:VR w F ρ c xv)
 (hX:nq z H c=some []) (hg:sl≤sc):(Builtin.append_ ats ty #[.slice base sl sc,xv]).run C.P w=.ok (.slice base sl sc) w:=by
 obtain⟨q,mc,cells,rfl,k1,k2,k3⟩:=kH hr hT.Er hxv hX
 have h0:cells= #[]:=aew (by simpa using k2)
 subst h0
 have:=run_append_fits hT (ty:=ty) (base:=base) (k1 w rfl) (by simpa using hg) (w':=w) (fun ad _=>rfl) (fun _=>rfl)
 simpa using this
theorem nJ{ats:Array TypeId}{el:TypeId}{z:Nat}{i:TypeInfo}{zv:Value}(hT:FE C.P ats el z i zv){ty:TypeId}(hr:HR C ρ F H w){X:List (List SV)}{xv:Value}{b v off n:Nat}{L:List (List SV)}{ex:Bool}{l:Loc}
 (hxv:VR w F ρ c xv) (hX:nq z H c=some X) (hb:bk H b=some (.arr v z L ex)) (hl:ρ b=some l) (hbr:BR C w F ρ l (.arr v z L ex)) (hvi:l.bC=false) (hle:off+n≤L.length) (hfit:off+n+X.length≤l.cap) :
 ∃vs' ty' fz,(Builtin.append_ ats ty #[.slice (some ⟨l.cm,l.base+off*z,none⟩) n (l.cap-off),xv]).run C.P w=.ok (.slice (some ⟨l.cm,l.base+off*z,none⟩) (n+X.length) (l.cap-off)) (fA w l.cm vs' ty' fz)∧
  kF fz vs'.size∧l.base+l.cap*z≤vs'.size∧(∀ρ1:Map,BR C w F ρ1 l (.arr v z L ex)→zf ρ ρ1 (SV.refs.av X.flatten)→eK (fA w l.cm vs' ty' fz) F ρ1 vs' l.base z (L.take (off+n)++X++L.drop (off+n+X.length)))∧(fA w l.cm vs' ty' fz).heap[l.cm]?=some (.cells vs' ty' fz):=by
 obtain⟨q,mc,cells,rfl,k1,k2,k3⟩:=kH hr hT.Er hxv hX
 obtain⟨h1,h2,h3,h4,h5,h6,h7,h8⟩:=hbr
 obtain⟨vs,ty',fz,g1,g2,g3,g4⟩:=h8 hvi
 have hm:(off+n+X.length)*z≤l.cap*z:=adG z hfit
 rw[adI]at hm
 have hsz:(nr vs (l.base+(off+n)*z) cells.toList).size=vs.size:=jD (by simp;omega)
 have hlt:l.cm<w.heap.size:=(ac6.1 g1).1
 have hst:=dX (P:=C.P) l.cm (l.base+(off+n)*z) ty' fz cells.toList 0 vs w g1 g2 (by simp;omega) (fun x hx=>zV (k3 ρ (eP hr)) k2 x hx)
 refine⟨nr vs (l.base+(off+n)*z) cells.toList,ty',fz,?_,by rw[hsz];exact g2,by rw[hsz];exact g3,?_,jB hlt⟩
 ·refine run_append_fits hT (k1 w rfl) (by omega) (fun ad hd=>?_) (fun h=>by cases h)
  cases hd
  rw[dz,show l.base+off*z+n*z=l.base+(off+n)*z by rw[adI];omega]
  exact hst
 ·intro ρ1 hb1 hc1
  obtain⟨_,_,_,_,_,_,_,q8⟩:=hb1
  obtain⟨vs2,ty2,fz2,m1,m2,m3,m4⟩:=q8 hvi
  rw[g1]at m1;cases m1
  have:=wC (xs:=cells) h4 m4 (po (k3 ρ (eP hr)) hc1) k2 hle hfit h5 g3
  have hk:dO F w (fA w l.cm (nr vs (l.base+(off+n)*z) cells.toList) ty' fz):=kc hr hb rfl hl hvi
  exact⟨this.1,fun j cs hj=>(this.2 j cs hj).mono hk (fun _ h=>h) (Map.le_refl _)⟩
theorem Bo{ats:Array TypeId}{el:TypeId}{z:Nat}{i:TypeInfo}{zv:Value}(hT:FE C.P ats el z i zv){ty:TypeId}(hr:HR C ρ F H w){X:List (List SV)}{sv xv:Value}(hsv:VR w F ρ s sv)(hxv:VR w F ρ c xv)
 (hX:nq z H c=some X) (h:gZ z i.bytes H s X=some (d,H')):∃val w',(Builtin.append_ ats ty #[sv,xv]).run C.P w=.ok val w'∧dJ C ρ F H w d H' val w':=by
 have hz:=hT.Er
 unfold gZ at h
 split at h
 ·rename_i z0 L f
  replace h:=aj h
  obtain⟨hb,h⟩:=h
  replace hb:=acQ hb
  cases hsv with
  |ao V hcap hfull hz' hat h1 hv=>
   rename_i q cap
   split at h
   ·replace h:=aj h
    obtain⟨hf,h⟩:=h
    simp only[acN,acY]at h
    obtain⟨rfl,rfl⟩:=h
    have hc0:cap=0:=hfull hf
    subst hc0
    cases X with
    |nil=>
     refine⟨_,w,iN hT hr hxv hX (acH _),?_⟩
     let l:Loc:={cm:=0,base:=0,cap:=0,bP:=z,cC:=0,bC:=true,arr:=true}
     have hp:=hr.push (w':=w) (acH _) (fun _ _=>rfl) (.arr 0 z [] false) l (fun h=>by cases h) ⟨rfl,rfl,rfl,by simp,acH _,(fun h=>by cases h),fun _=>rfl,fun h=>by cases h⟩
     exact⟨_,F,.bn (l:=l) (Map.bG _ _ _) (acH _) rfl (fun _=>⟨fun _=>⟨q,rfl,rfl,rfl⟩,fun h=>by cases h⟩),hp.1,hp.2⟩
    |cons x X=>
     obtain⟨nc,w',vs,ty',g1,g2,g3,g4,g5⟩:=ke hT (ty:=ty) hr (.ao V hcap hfull hz' hat h1 hv) hxv (Y:=[]) (by simp[nq]) hX rfl (by simp) hb
     refine⟨_,w',g5,?_⟩
     have:=kM hr (ex:=false) (hout:=g2.2) g2.1 (by simpa using g1) (fun h=>by cases h) g3 (g4 ρ (eP hr) (.inl rfl)) (x::X).length (by simp)
     simpa using this
   ·simp only[acN,acY]at h
    obtain⟨rfl,rfl⟩:=h
    exact⟨_,w,iN hT hr hxv hX hcap,dJ.same hr (.ao V hcap hfull hz' hat h1 hv)⟩
   ·rename_i hne1 hne2
    replace h:=aj h
    obtain⟨hf,h⟩:=h
    simp only[acw,adK]at hf
    obtain⟨hf,rfl⟩:=hf
    simp only[acN,acY]at h
    obtain⟨rfl,rfl⟩:=h
    have hc0:=hfull hf
    have hX0:0<X.length:=by
     cases X with
     |nil=>exact absurd rfl hne2
     |cons _ _=>simp
    obtain⟨nc,w',vs,ty',g1,g2,g3,g4,g5⟩:=ke hT (ty:=ty) hr (.ao V hcap hfull hz' hat h1 hv) hxv (Y:=L) (by simp[nq]) hX rfl (by omega) hb
    refine⟨_,w',g5,?_⟩
    have:=kM hr (ex:=false) (hout:=g2.2) g2.1 (by simpa using g1) (fun h=>by cases h) g3 (g4 ρ (eP hr) (.inl rfl)) (L.length+X.length) (by simp)
    simpa using this
 ·rename_i b v off n
  replace h:=aj h
  obtain⟨hb,h⟩:=h
  replace hb:=acQ hb
  split at h
  ·rename_i v' z' L ex hg
   replace h:=aj h
   obtain⟨hc,h⟩:=h
   simp only[acw,adK,acr]at hc
   obtain⟨⟨rfl,rfl⟩,hle⟩:=hc
   have hY:nq z' H (.bn b v off n)=some ((L.drop off).take n):=by
    simp[nq,hg,hle]
   have hYl:((L.drop off).take n).length=n:=by simp;omega
   obtain⟨l,z2,L2,ex2,hl,hb2,hbr,g1,g2⟩:=ep hr (by unfold cur;simp[hg]) hsv
   rw[hg]at hb2;cases hb2
   have hbr':=hbr
   obtain⟨b1,b2,b3,b4,b5,b6,b7,b8⟩:=hbr'
   obtain⟨base,sc,hse,hsc⟩:∃base sc,sv=.slice base n sc∧n≤sc:=by
    cases hvi:l.bC with
    |true=>obtain⟨q,p1,p2,p3⟩:=g1 hvi;exact⟨q,0,by rw[p1,p3],by omega⟩
    |false=>obtain⟨p1,q,p2,p3⟩:=g2 hvi;exact⟨q,_,p2,by omega⟩
   cases hi:(!ex&&off==0&&n==L.length)with
   |true=>
    rw[hi]at h
    simp only[acw,adK,ac8]at hi
    obtain⟨⟨he0,rfl⟩,hn⟩:=hi
    simp only[acG,acq,acY]at h
    obtain⟨H1,hH,rfl,rfl⟩:=h
    have hY':(L.drop 0).take n=L:=by rw[hn];simp
    rw[hY']at hY hYl
    have hLX:∀(j:Nat) cs,(L++X)[j]?=some cs→cs.length=z':=fun j cs hj=>by
     rw[adV]at hj
     obtain⟨q,mc,cells,_,_,_,k3⟩:=kH hr hz hxv hX
     split at hj
     ·exact b4 j cs hj
     ·exact(k3 ρ (eP hr)).1 _ cs hj
    have hle':∀(ρ1:Map) (l':Loc),zf ρ ρ1 (SV.refs.av X.flatten)→l'.cC=v+1→ρ1.le (ρ1.put b l'):=fun ρ1 l' hc hv' b' l1 h1=>by
     have h2:ρ b'=some l1:=by
      rcases hc with rfl|⟨N,_,rfl⟩
      ·exact h1
      ·unfold Map.cut at h1
       split at h1
       ·exact h1
       ·cases h1
     by_cases e:b'=b
     ·subst e;rw[hl]at h2;cases h2;exact⟨_,Map.bG _ _ _,.inr ⟨b1,by omega⟩⟩
     ·exact⟨l1,by rw[Map.bp _ _ e];exact h1,.inl rfl⟩
    by_cases hX0:X=[]
    ·subst hX0
     subst hse
     refine⟨_,w,iN hT hr hxv hX hsc,?_⟩
     rw[adn]at hH
     refine uZ hr hg hl hbr hH (w':=w) (l':={l with cC:=v+1}) rfl b1 (acH _) (fun _ _ _=>rfl) (fun h=>.inl ⟨h,rfl⟩) (fun ρ1 hρ1 hbr1=>⟨b1,rfl,b3,b4,b5,(fun h=>by cases h),b7,fun h=>?_⟩) rfl ⟨fun h=>?_,fun h=>?_⟩
     ·obtain⟨vs,ty',fz,e1,e2,e3,e4⟩:=hbr1.2.2.2.2.2.2.2 h
      exact⟨vs,ty',fz,e1,e2,e3,fun j cs hj=>(e4 j cs hj).mono (fun _ _=>rfl) (fun _ h=>h) (hle' ρ1 _ hρ1 rfl)⟩
     ·obtain⟨q,p1,p2,p3⟩:=g1 h
      exact⟨q,by rw[p1],p2,by simpa using p3⟩
     ·obtain⟨p1,q,p2,p3⟩:=g2 h
      exact⟨by simpa using p1,q,by simpa using p2,by simpa using p3⟩
    ·have hXp:0<X.length:=by
      cases X with
      |nil=>exact absurd rfl hX0
      |cons _ _=>simp
     by_cases hfit:l.bC=false∧n+X.length≤l.cap
     ·obtain⟨hvi,hfit⟩:=hfit
      obtain⟨p1,q,p2,p3⟩:=g2 hvi
      have:=p3 (by omega)
      subst this
      rw[p2,b3]
      obtain⟨vs',ty',fz,e1,e2,e3,e4,e5⟩:=nJ hT (ty:=ty) hr hxv hX hg hl hbr hvi hle (by omega)
      refine⟨_,_,e1,?_⟩
      have hc:L.take (0+n)++X++L.drop (0+n+X.length)=L++X:=by
       rw[adr,hn,adF,aeb (by omega),adn]
      refine uZ hr hg hl hbr hH (l':={l with cC:=v+1}) rfl b1 (by rw[sy];exact acH _) (fun B _ hB=>iB (hB hvi)) (fun h=>.inl ⟨h,rfl⟩) (fun ρ1 hρ1 hbr1=>⟨b1,rfl,b3,hLX,by simp;omega,(fun h=>by cases h),b7,fun h=>?_⟩) rfl ⟨fun h=>?_,fun h=>?_⟩
      ·have e6:=e4 ρ1 hbr1 hρ1
       rw[hc]at e6
       exact⟨vs',ty',fz,e5,e2,e3,fun j cs hj=>(e6.2 j cs hj).mono (fun _ _=>rfl) (fun _ h=>h) (hle' ρ1 _ hρ1 rfl)⟩
      ·simp[hvi]at h
      ·exact⟨by simpa using hfit,_,rfl,fun _=>by simp[b3]⟩
     ·have hg':¬L.length+X.length≤sc:=by
       cases hvi:l.bC with
       |true=>obtain⟨q,p1,p2,p3⟩:=g1 hvi;rw[p1]at hse;cases hse;omega
       |false=>obtain⟨p1,q,p2,p3⟩:=g2 hvi;rw[p2]at hse;cases hse;have:¬n+X.length≤l.cap:=fun h=>hfit ⟨hvi,h⟩;omega
      obtain⟨nc,w',vs,ty',e1,e2,e3,e4,e5⟩:=ke hT (ty:=ty) hr hsv hxv hY hX (by rw[hse,hn]) hg' (by rw[←hn];exact hb)
      refine⟨_,w',e5,?_⟩
      have hkeep:∀B,B<w.heap.size→w'.heap[B]?=w.heap[B]?:=fun B hB=>by
       rw[e2.1];simp[aeh,ael hB]
      rw[hn]
      refine uZ hr hg hl hbr hH (hout:=e2.2) (l':={cm:=w.heap.size,base:=0,cap:=nc,bP:=z',cC:=v+1,bC:=false,arr:=true}) rfl rfl (by rw[e2.1];simp) (fun B hB _=>hkeep B hB) (fun _=>.inr ⟨acH _,by rw[e2.1];simp⟩)
       (fun ρ1 hρ1 hbr1=>⟨rfl,rfl,rfl,hLX,by simpa using e1,(fun h=>by cases h),(fun h=>by cases h),fun _=>?_⟩) rfl ⟨fun h=>(by cases h),fun _=>⟨by simpa using e1,_,rfl,fun _=>by simp⟩⟩
      have e6:=e4 ρ1 (fun b' _ _ _ l2 x hs h1 h2 _=>by cases hs;rw[hl]at h1;cases h1;rw[hg]at h2;cases h2;exact hbr1) hρ1
      exact⟨vs,ty',(0,0),by rw[e2.1];simp,fun o ho=>by simp,by simpa using e3,fun j cs hj=>(e6.2 j cs hj).mono (fun B hB=>hkeep B (hr.iM B hB)) (fun _ h=>h) (hle' ρ1 _ hρ1 rfl)⟩
   |false=>
    rw[hi]at h
    simp only[acJ]at h
    cases hfit:decide (off+n+X.length≤L.length)with
    |true=>
     rw[hfit]at h
     replace hfit:=acQ hfit
     simp only[acG,acq,acY]at h
     obtain⟨H1,hH,rfl,rfl⟩:=h
     by_cases hX0:X=[]
     ·subst hX0
      subst hse
      refine⟨_,w,iN hT hr hxv hX hsc,?_⟩
      rw[adn,acV,ad9,adC]at hH
      obtain⟨p1,p2⟩:=hr.set (w':=w) (l':=l) hH hg rfl hl (acH _) (fun _ _ _=>rfl) (fun h=>.inl ⟨h,rfl⟩) (.inl rfl) (fun _=>by rw[bY hl];exact hbr) (fun _ N _ _ h=>by rw[bY hl];exact h)
      rw[bY hl]at p1 p2
      exact⟨ρ,F,hsv,p1,p2⟩
     ·have hXp:0<X.length:=by
       cases X with
       |nil=>exact absurd rfl hX0
       |cons _ _=>simp
      have hvi:l.bC=false:=by
       cases hvi:l.bC with
       |true=>have:=b7 hvi;omega
       |false=>rfl
      obtain⟨p1,q,p2,p3⟩:=g2 hvi
      have:=p3 (by omega)
      subst this
      rw[p2,b3]
      obtain⟨vs',ty',fz,e1,e2,e3,e4,e5⟩:=nJ hT (ty:=ty) hr hxv hX hg hl hbr hvi hle (by omega)
      refine⟨_,_,e1,?_⟩
      have hlen:(L.take (off+n)++X++L.drop (off+n+X.length)).length=L.length:=by simp;omega
      obtain⟨r1,r2⟩:=lN (vs':=vs') (ty:=ty') (fz:=fz) hr hH hg rfl hl hvi (fun _ ρ1 hρ1 hbr1=>⟨b1,b2,b3,(e4 ρ1 hbr1 hρ1).1,by rw[hlen];exact b5,by rw[hlen];exact b6,b7,fun _=>⟨vs',ty',fz,e5,e2,e3,(e4 ρ1 hbr1 hρ1).2⟩⟩)
      exact⟨ρ,F,.bn hl (by omega) rfl (fun _=>⟨fun h=>(by rw[hvi]at h;cases h),fun _=>⟨by omega,_,rfl,fun _=>by rw[b3]⟩⟩),r1,r2⟩
    |false=>
     rw[hfit]at h
     replace hfit:=adi hfit
     simp only[acJ]at h
     replace h:=aj h
     obtain⟨hex,h⟩:=h
     simp only[acN,acY]at h
     obtain⟨rfl,rfl⟩:=h
     have hcap:=b6 hex
     have hg':¬((L.drop off).take n).length+X.length≤sc:=by
      rw[hYl]
      cases hvi:l.bC with
      |true=>obtain⟨q,p1,p2,p3⟩:=g1 hvi;rw[p1]at hse;cases hse;have:=b7 hvi;omega
      |false=>obtain⟨p1,q,p2,p3⟩:=g2 hvi;rw[p2]at hse;cases hse;omega
     obtain⟨nc,w',vs,ty',e1,e2,e3,e4,e5⟩:=ke hT (ty:=ty) hr hsv hxv hY hX (by rw[hse,hYl]) hg' (by rw[hYl];exact hb)
     refine⟨_,w',e5,?_⟩
     rw[hYl]
     exact kM hr (ex:=false) (hout:=e2.2) e2.1 (by simpa using e1) (fun h=>by cases h) e3 (e4 ρ (eP hr) (.inl rfl)) _ (by rw[acn,hYl];exact acH _)
  ·cases h
 ·cases h
end
end
section
section
variable{C:Ctx}{ρ:Map}{F:Nat→Prop}{H H':ab}{w:World}{e:Env}{a:Act}{s c d:SV}
theorem wrap_small{n:Int}(h0:0≤n)(h1:n≤bV):IntKind.i64.wrap n=n:=by
 have:bV=1099511627776:=rfl
 rw[IntKind.wrap_i64];omega
theorem y7{t el:TypeId}{i:TypeInfo}{z:List SV}(hu:C.P.underlying t=some (.slice el))(hi:C.P.info? el=some i)(hz:iq C.P el=some z)(hzl:z.length=i.size)(h0:0<i.size)(hbp:0<i.bytes)(hr:HR C ρ F H w)
 {lv cv:Value} {ls cs:SV} (hl:VR w F ρ ls lv) (hc:VR w F ρ cs cv) (h:kK i.size z i.bytes H ls cs=some (d,H')):∃val w',(Instr.makeSlice t lv cv).run C.P w=.ok val w'∧dJ C ρ F H w d H' val w':=by
 unfold kK at h
 split at h
 ·rename_i l c
  replace h:=aj h
  obtain⟨hb,h⟩:=h
  simp only[acw,acr]at hb
  obtain⟨⟨h1,h2⟩,h3⟩:=hb
  simp only[acN,acY]at h
  obtain⟨rfl,rfl⟩:=h
  obtain rfl:=gj hl
  obtain rfl:=gj hc
  obtain⟨i',v,hi',hv,k1,k2⟩:=gB (w:=w) (F:=F) (ρ:=ρ) hz
  rw[hi]at hi';cases hi'
  have hzr:(cI v.cells (c.toNat*i.size)).size=c.toNat*i.size:=by simp[cI]
  have hrow:=jU (n:=c.toNat) hzl k1 k2 h0
  refine⟨.slice (some ⟨w.heap.size,0,none⟩) l.toNat c.toNat,{w with heap:=w.heap.push (.cells (cI v.cells (c.toNat*i.size)) el)},?_,kM hr rfl (by simp) (fun _=>by simp) (by rw[hzr];exact acH _) hrow l.toNat (by simp;omega)⟩
  have hm:c≤c*i.bytes:=by
   have:c*1≤c*i.bytes:=adQ (by omega) (by omega)
   omega
  have hml:(bV:Int)=1099511627776:=rfl
  have wl:IntKind.i64.wrap l=l:=wrap_small h1 (by omega)
  have wc:IntKind.i64.wrap c=c:=wrap_small (by omega) (by omega)
  have n1:¬c<0:=by omega
  have n2:¬(281474976710656<(i.bytes:Int)*c):=by rw[afy];omega
  have n3:¬l<0:=by omega
  have n4:¬c<l:=by omega
  by_cases hn:c.toNat*i.size=0
  ·have hzz:(Array.range (c.toNat*i.size)).map (fun x=>(#[]:Array Value)[x%(#[]:Array Value).size]!)=cI v.cells (c.toNat*i.size):=by
    unfold cI;rw[hn];simp
   have hask:∀w:World,(askRoom (c.toNat*i.bytes)).run C.P w=.ok () w:=fun w=>by unfold askRoom;split<;>rfl
   unfold Instr.makeSlice
   simp only[Sem.run_bind,run_underlying hu,Result.andThen,run_typeInfo _ hi,asInt,asIntOf,pure,Sem.run,wl,wc,hask]
   simp[n1,n2,n3,n4,hask,sizeOf,typeInfo,hi,newRow,hn]
   have hr0:Array.range 0= #[]:=aew (by simp)
   simp[cI,hr0]
  ·have hask:∀w:World,(askRoom (c.toNat*i.bytes)).run C.P w=.ok () w:=fun w=>by unfold askRoom;split<;>rfl
   unfold Instr.makeSlice
   simp only[Sem.run_bind,run_underlying hu,Result.andThen,run_typeInfo _ hi,asInt,asIntOf,pure,Sem.run,wl,wc,hask]
   simp[n1,n2,n3,n4,hask,sizeOf,typeInfo,hi,newRow,hn,zeroValue,hv,cI]
 ·cases h
end
end
section
section
variable{C:Ctx}{ρ:Map}{F:Nat→Prop}{H H':ab}{w:World}{e:Env}{a:Act}{s c d:SV}
theorem iP:∀(sh:List LK) (x y:List SV) (r:Bool),bz sh x y=some r→x.length=sh.length∧y.length=sh.length
 |[],x,y,r,h=>by
  unfold bz at h
  split at h<;>first|(simp;done)|(simp_all;done)
 |k::sh,x,y,r,h=>by
  unfold bz at h
  split at h
  ·rename_i h1;cases h1
  ·rename_i sh' k1 p1 x' k2 p2 y' h1
   cases h1
   replace h:=aj h
   simp only[acq]at h
   obtain⟨_,r',h2,_⟩:=h
   have:=iP sh x' y' r' h2
   simp[this]
  ·rename_i sh' p1 x' p2 y' h1
   cases h1
   simp only[acq]at h
   obtain⟨r',h2,_⟩:=h
   have:=iP sh x' y' r' h2
   simp[this]
  ·rename_i sh' p1 x' p2 y' h1
   cases h1
   simp only[acq]at h
   obtain⟨r',h2,_⟩:=h
   have:=iP sh x' y' r' h2
   simp[this]
  ·cases h
theorem lg{k:LK}{c d:SV}{r:Bool}(h:bz [k] [c] [d]=some r):(∃q p p',k=.i∧c=.int q p∧d=.int q p'∧r=decide (p=p'))∨(∃p p',k=.b∧c=.bool p∧d=.bool p'∧r=(p==p'))∨
 (∃p p',k=.s∧c=.str p∧d=.str p'∧r=decide (p=p')):=by
 unfold bz at h
 split at h
 ·simp_all
 ·rename_i sh q p x q2 p2 y h1 h2 h3
  cases h1;cases h2;cases h3
  replace h:=aj h
  simp only[acq]at h
  obtain⟨hk,r',h3,rfl⟩:=h
  have:r'=true:=by simpa[bz]using h3.symm
  subst this
  have:q=q2:=by simpa using hk
  subst this
  exact .inl ⟨_,_,_,rfl,rfl,rfl,by simp⟩
 ·rename_i sh p x p2 y h1 h2 h3
  cases h1;cases h2;cases h3
  simp only[acq]at h
  obtain⟨r',h3,rfl⟩:=h
  have:r'=true:=by simpa[bz]using h3.symm
  subst this
  exact .inr (.inl ⟨_,_,rfl,rfl,rfl,by simp⟩)
 ·rename_i sh p x p2 y h1 h2 h3
  cases h1;cases h2;cases h3
  simp only[acq]at h
  obtain⟨r',h3,rfl⟩:=h
  have:r'=true:=by simpa[bz]using h3.symm
  subst this
  exact .inr (.inr ⟨_,_,rfl,rfl,rfl,by simp⟩)
 ·cases h
theorem A9{A:Type}{c:Bool}{x:Option A}{y:A}(h:(bif c then none else x)=some y):c=false∧x=some y:=by
 cases c with
 |true=>cases h
 |false=>exact⟨rfl,h⟩
theorem eM:∀(s1 s2:List LK) (x y:List SV) (r:Bool),bz (s1++s2) x y=some r→
 ∃r1 r2,bz s1 (x.take s1.length) (y.take s1.length)=some r1∧bz s2 (x.drop s1.length) (y.drop s1.length)=some r2∧r=(r1&&r2)
 |[],s2,x,y,r,h=>⟨true,r,by simp[bz],by simpa using h,by simp⟩
 |k::s1,s2,x,y,r,h=>by
  simp only[adE]at h
  unfold bz at h
  split at h
  ·rename_i h1;cases h1
  ·rename_i sh' k1 p1 x' k2 p2 y' h1
   cases h1
   replace h:=aj h
   simp only[acq]at h
   obtain⟨hk,r',h2,rfl⟩:=h
   obtain⟨r1,r2,h3,h4,rfl⟩:=eM s1 s2 x' y' r' h2
   exact⟨decide (p1=p2)&&r1,r2,by simp[bz,hk,h3],by simpa using h4,by simp[af3]⟩
  ·rename_i sh' p1 x' p2 y' h1
   cases h1
   simp only[acq]at h
   obtain⟨r',h2,rfl⟩:=h
   obtain⟨r1,r2,h3,h4,rfl⟩:=eM s1 s2 x' y' r' h2
   exact⟨(p1==p2)&&r1,r2,by simp[bz,h3],by simpa using h4,by simp[af3]⟩
  ·rename_i sh' p1 x' p2 y' h1
   cases h1
   simp only[acq]at h
   obtain⟨r',h2,rfl⟩:=h
   obtain⟨r1,r2,h3,h4,rfl⟩:=eM s1 s2 x' y' r' h2
   exact⟨decide (p1=p2)&&r1,r2,by simp[bz,h3],by simpa using h4,by simp[af3]⟩
  ·cases h
def Ge(P:Program)(w:World)(F:Nat→Prop)(ρ:Map)(dd:Nat)(t:TypeId)(sh:List LK):Prop:=
 ∀(xs ys:Array Value) (cs ds:List SV) (r:Bool) (o:Nat),bI w F ρ xs o cs→bI w F ρ ys o ds→bz sh cs ds=some r→gf P t=some sh.length→
  ∃u v,(part t xs o).run P w=.ok u w∧(part t ys o).run P w=.ok v w∧(Op.equalIn dd t u v).run P w=.ok r w
theorem me{vs:Array Value}{o i n:Nat}{cs:List SV}(h:bI w F ρ vs o cs):bI w F ρ vs (o+i) ((cs.drop i).take n):=by
 intro j c hj
 rw[acX]at hj
 split at hj
 ·rw[ado]at hj
  obtain⟨v,h1,h2,h3⟩:=h _ c hj
  exact⟨v,by rw[acD];exact h1,h2,h3⟩
 ·cases hj
theorem mC{vs:Array Value}{o n:Nat}{cs:List SV}(h:bI w F ρ vs o cs)(hn:cs.length≤n):bI w F ρ (vs.extract o (o+n)) 0 cs:=by
 intro j c hj
 obtain⟨v,h1,h2,h3⟩:=h j c hj
 have hlt:=(acm.1 hj).1
 have hlt':=(ac6.1 h1).1
 refine⟨v,?_,h2,h3⟩
 rw[adr,afn,if_pos (by omega)]
 exact h1
theorem yp{P:Program}{t:TypeId}{k k2:IntKind}{p q:Int}{dd:Nat}{q0:IntKind}(hu:P.underlying t=some (.int q0))(hk:k=k2):(Op.equalIn (dd+1) t (.int k p) (.int k2 q)).run P w=.ok (decide (p=q)) w:=by
 subst hk
 simp only[Op.equalIn,Sem.run_bind,run_underlying hu,Result.andThen_ok]
 simp only[if_true,Sem.run_pure]
 congr 1
theorem sY{P:Program}{t:TypeId}{vs:Array Value}{o:Nat}{v:Value}(hag:jL P t=some false)(h:vs[o]?=some v):(part t vs o).run P w=.ok v w:=by
 unfold part
 simp only[Sem.run_bind,fq hag,Result.andThen,adh,if_false,h]
 rfl
theorem xz{P:Program}{t:TypeId}{vs:Array Value}{o n:Nat}(hag:jL P t=some true)(hsz:gf P t=some n):(part t vs o).run P w=.ok (.agg (vs.extract o (o+n))) w:=by
 unfold part
 simp only[Sem.run_bind,fq hag,Result.andThen,if_true,bQ hsz]
 rfl
def C5(P:Program)(dd:Nat)(acc:List LK)(f:Field):Option (List LK):=
 bif f.name != "_" &&f.offset==acc.length then(eY P dd f.type).bind fun sh=>bif (gf P f.type)==some sh.length then some (acc++sh)else none else none
theorem jV{P:Program}{dd d2:Nat}(ih:∀t sh,eY P dd t=some sh→Ge P w F ρ d2 t sh):∀(fs:List Field) (acc sh:List LK) (xs ys:Array Value) (cs ds:List SV) (r:Bool),
 fs.foldlM (C5 P dd) acc=some sh→∃rest,sh=acc++rest∧
 (bI w F ρ xs acc.length cs→bI w F ρ ys acc.length ds→bz rest cs ds=some r→(Op.eqFields d2 xs ys fs).run P w=.ok r w)
 |[],acc,sh,xs,ys,cs,ds,r,h=>by
  simp at h
  subst h
  refine⟨[],by simp,fun hx hy hr=>?_⟩
  have:r=true:=by
   unfold bz at hr
   split at hr<;>simp_all
  subst this
  rfl
 |f::fs,acc,sh,xs,ys,cs,ds,r,h=>by
  rw[afU]at h
  simp only[bind,acu]at h
  obtain⟨acc',h1,h2⟩:=h
  unfold C5 at h1
  replace h1:=aj h1
  obtain⟨hc,h1⟩:=h1
  simp only[acw,bne_iff_ne,adK]at hc
  simp only[acu]at h1
  obtain⟨shf,h3,h1⟩:=h1
  replace h1:=aj h1
  obtain⟨h4,h1⟩:=h1
  cases h1
  have h4:gf P f.type=some shf.length:=by simpa using h4
  obtain⟨rest,hrest,_⟩:=jV ih fs (acc++shf) sh xs ys [] [] true h2
  refine⟨shf++rest,by rw[hrest];simp,fun hx hy hr=>?_⟩
  obtain⟨r1,r2,k1,k2,rfl⟩:=eM _ _ _ _ _ hr
  have hx1:=me (i:=0) (n:=shf.length) hx
  have hy1:=me (i:=0) (n:=shf.length) hy
  simp only[ad9,aev]at hx1 hy1
  obtain⟨u,v,g1,g2,g3⟩:=ih f.type shf h3 xs ys _ _ r1 acc.length hx1 hy1 k1 h4
  obtain⟨rest',hrest',hrec⟩:=jV ih fs (acc++shf) sh xs ys (cs.drop shf.length) (ds.drop shf.length) r2 h2
  have:rest'=rest:=List.append_cancel_left (hrest'.symm.trans hrest)
  subst this
  have hx2:bI w F ρ xs (acc++shf).length (cs.drop shf.length):=by
   intro j c hj
   rw[ado]at hj
   obtain⟨v,q1,q2,q3⟩:=hx _ c hj
   exact⟨v,by rw[acn,acD];exact q1,q2,q3⟩
  have hy2:bI w F ρ ys (acc++shf).length (ds.drop shf.length):=by
   intro j c hj
   rw[ado]at hj
   obtain⟨v,q1,q2,q3⟩:=hy _ c hj
   exact⟨v,by rw[acn,acD];exact q1,q2,q3⟩
  have:=hrec hx2 hy2 k2
  simp only[Op.eqFields,ne_eq,hc.1,not_false_eq_true,if_true,Sem.run_bind,hc.2,g1,g2,g3,Result.andThen_ok]
  cases r1 with
  |true=>simpa using this
  |false=>simp
theorem pD{P:Program}{d2:Nat}{t:TypeId}{sh:List LK}(ih:Ge P w F ρ d2 t sh)(hsz:gf P t=some sh.length):∀(n i:Nat) (xs ys:Array Value) (cs ds:List SV) (r:Bool),
 bI w F ρ xs (i*sh.length) cs→bI w F ρ ys (i*sh.length) ds→bz (List.replicate n sh).flatten cs ds=some r→(Op.eqItems d2 t sh.length xs ys (List.range' i n)).run P w=.ok r w
 |0,i,xs,ys,cs,ds,r,hx,hy,hr=>by
  have:r=true:=by
   simp only[aej,List.flatten_nil]at hr
   unfold bz at hr
   split at hr<;>simp_all
  subst this
  rfl
 |n+1,i,xs,ys,cs,ds,r,hx,hy,hr=>by
  rw[aek,afp]at hr
  obtain⟨r1,r2,k1,k2,rfl⟩:=eM _ _ _ _ _ hr
  have hx1:=me (i:=0) (n:=sh.length) hx
  have hy1:=me (i:=0) (n:=sh.length) hy
  simp only[ad9,aev]at hx1 hy1
  obtain⟨u,v,g1,g2,g3⟩:=ih xs ys _ _ r1 _ hx1 hy1 k1 hsz
  have hx2:bI w F ρ xs ((i+1)*sh.length) (cs.drop sh.length):=by
   intro j c hj
   rw[ado]at hj
   obtain⟨v,q1,q2,q3⟩:=hx _ c hj
   exact⟨v,by rw[adI,aep,acD];exact q1,q2,q3⟩
  have hy2:bI w F ρ ys ((i+1)*sh.length) (ds.drop sh.length):=by
   intro j c hj
   rw[ado]at hj
   obtain⟨v,q1,q2,q3⟩:=hy _ c hj
   exact⟨v,by rw[adI,aep,acD];exact q1,q2,q3⟩
  have:=pD ih hsz n (i+1) xs ys _ _ r2 hx2 hy2 k2
  simp only[List.range'_succ,Op.eqItems,Sem.run_bind,g1,g2,g3,Result.andThen_ok]
  cases r1 with
  |true=>simpa using this
  |false=>simp
theorem s7{P:Program}{dd D:Nat}{t:TypeId}{sh:List LK}(ih:∀t sh,eY P dd t=some sh→Ge P w F ρ (D+dd) t sh)(h:eY P (dd+1) t=some sh)(hag:jL P t=some true){xs ys:Array Value}{cs ds:List SV}{r:Bool}
 (hx:bI w F ρ xs 0 cs) (hy:bI w F ρ ys 0 ds) (hr:bz sh cs ds=some r):(Op.equalIn (D+dd+1) t (.agg xs) (.agg ys)).run P w=.ok r w:=by
 unfold eY at h
 split at h
 ·rename_i hu;simp[jL,hu]at hag
 ·rename_i hu;simp[jL,hu]at hag
 ·rename_i hu;simp[jL,hu]at hag
 ·rename_i fs hu
  replace h:=A9 h
  obtain⟨hs,h⟩:=h
  have hf:P.fieldsOf t=fs:=by simp[Program.fieldsOf,hu]
  rw[run_equalIn_struct w (D+dd) t xs ys (by rw[hf];exact hu) hs,hf]
  obtain⟨rest,h1,h2⟩:=jV ih fs.toList [] sh xs ys cs ds r h
  simp only[adu]at h1
  subst h1
  exact h2 hx hy hr
 ·rename_i n e hu
  simp only[acu]at h
  obtain⟨she,h1,h⟩:=h
  replace h:=aj h
  obtain⟨h2,h⟩:=h
  cases h
  have h2:gf P e=some she.length:=by simpa using h2
  have h3:=h2
  unfold gf at h3
  simp only[acq]at h3
  obtain⟨i,hi,hi2⟩:=h3
  have hcells:P.cellsOf e=she.length:=by simp[Program.cellsOf,hi,hi2]
  rw[run_equalIn_array w (D+dd) xs ys hu hi,hcells,afD]
  exact pD (ih e she h1) h2 n 0 xs ys cs ds r (by simpa using hx) (by simpa using hy) hr
 ·cases h
theorem LD{P:Program}:∀(dd:Nat) (D:Nat) (t:TypeId) (sh:List LK),eY P dd t=some sh→Ge P w F ρ (D+dd) t sh
 |0,_,_,_,h=>by simp[eY]at h
 |dd+1,D,t,sh,h=>by
  intro xs ys cs ds r o hx hy hr hsz
  have hlen:=iP sh cs ds r hr
  have leaf:jL P t=some false→∀k,sh=[k]→(∀u v,∀c d,VR w F ρ c u→VR w F ρ d v→bz [k] [c] [d]=some r→(Op.equalIn (D+dd+1) t u v).run P w=.ok r w)→
   ∃u v,(part t xs o).run P w=.ok u w∧(part t ys o).run P w=.ok v w∧(Op.equalIn (D+dd+1) t u v).run P w=.ok r w:=by
   intro hag k hk hgo
   subst hk
   obtain⟨c,rfl⟩:∃c,cs=[c]:=aet.1 hlen.1
   obtain⟨d,rfl⟩:∃d,ds=[d]:=aet.1 hlen.2
   obtain⟨u,u1,u2,_⟩:=hx 0 c rfl
   obtain⟨v,v1,v2,_⟩:=hy 0 d rfl
   exact⟨u,v,sY hag u1,sY hag v1,hgo u v c d u2 v2 hr⟩
  have agg:jL P t=some true→∃u v,(part t xs o).run P w=.ok u w∧(part t ys o).run P w=.ok v w∧(Op.equalIn (D+dd+1) t u v).run P w=.ok r w:=fun hag=>
   ⟨_,_,xz hag hsz,xz hag hsz,s7 (fun t sh h=>LD dd D t sh h) h hag (mC hx (by omega)) (mC hy (by omega)) hr⟩
  rw[←acD]
  unfold eY at h
  split at h
  ·rename_i hu
   refine leaf (by simp[jL,hu]) .b (by simpa using h.symm) (fun u v c d hu1 hv1 hr1=>?_)
   rcases lg hr1 with⟨_,_,_,h0,_⟩|⟨p,p',_,rfl,rfl,rfl⟩|⟨_,_,h0,_⟩
   ·cases h0
   ·rw[eQ hu1,eQ hv1,run_equalIn_bool w _ t _ _ hu]
   ·cases h0
  ·rename_i q hu
   refine leaf (by simp[jL,hu]) .i (by simpa using h.symm) (fun u v c d hu1 hv1 hr1=>?_)
   rcases lg hr1 with⟨q,p,p',_,rfl,rfl,rfl⟩|⟨_,_,h0,_⟩|⟨_,_,h0,_⟩
   ·rw[gj hu1,gj hv1,yp hu rfl]
   ·cases h0
   ·cases h0
  ·rename_i hu
   refine leaf (by simp[jL,hu]) .s (by simpa using h.symm) (fun u v c d hu1 hv1 hr1=>?_)
   rcases lg hr1 with⟨_,_,_,h0,_⟩|⟨_,_,h0,_⟩|⟨p,p',_,rfl,rfl,rfl⟩
   ·cases h0
   ·cases h0
   ·rw[jP hu1,jP hv1,run_equalIn_string w _ t _ _ hu,qH]
  ·rename_i fs hu;exact agg (by simp[jL,hu])
  ·rename_i n el hu;exact agg (by simp[jL,hu])
  ·cases h
theorem Dz{op:BinOp}{neg:Bool}{t:TypeId}{x y:Operand}{x' y':bX}{sh:List LK}{cs ds:List SV}{r:Bool}(ed:(op=.eql∧neg=false)∨(op=.neq∧neg=true))(hx:bA x=some x')(hy:bA y=some y')
 (hm:C.P.eqGuardType C.P.depth t=false) (hsh:eY C.P 6 t=some sh) (hag:jL C.P t=some true) (hr:HR C ρ F H w) (he:ER w F ρ e a.tmps) (h1:ev e x'=.agg cs) (h2:ev e y'=.agg ds) (h:bz sh cs ds=some r) :
 bL C (do let v←(do eqGuard op t x y (a.eval x) (a.eval y);binOp op t (a.eval x) (a.eval y));pure (.value v)) ρ F H w (.bool (neg ^^ r)) H:=by
 have v1:=aZ hx he
 have v2:=aZ hy he
 rw[h1]at v1
 rw[h2]at v2
 obtain⟨xs,e1,_,c1⟩:=fL v1
 obtain⟨ys,e2,_,c2⟩:=fL v2
 rw[e1,e2]
 have hq:=s7 (dd:=5) (D:=9994) (fun t sh h=>LD 5 9994 t sh h) hsh hag c1 c2 h
 have hE:(Op.equal t (.agg xs) (.agg ys)).run C.P w=.ok r w:=hq
 refine⟨.bool (neg ^^ r),w,.inl ?_,dJ.same hr (.bool _)⟩
 simp only[Sem.run_bind,run_eqGuard_agg w op t x y xs ys hm,Result.andThen_ok]
 rcases ed with⟨rfl,rfl⟩|⟨rfl,rfl⟩
 ·simp[binOp,hE]
 ·simp[binOp,hE]
end
end
section
section
variable{C:Ctx}{ρ:Map}{F:Nat→Prop}{H H':ab}{w:World}{e:Env}{a:Act}{s c d:SV}
theorem ta(z m:Nat)(q:Option Addr)(n cap n' cap':Nat):Builtin.firstCells z m (.slice q n cap)=Builtin.firstCells z m (.slice q n' cap'):=by
 cases q<;>rfl
theorem EJ(hr:HR C ρ F H w){z:Nat}(hz:0<z){X:List (List SV)}{v:Value}(hv:VR w F ρ c v)(h:nq z H c=some X){m:Nat}(hm:m≤X.length) :
 ∃q cap cells,v=.slice q X.length cap∧(Builtin.firstCells z m v).run C.P w=.ok cells w∧cells.size=m*z∧∀ρ1:Map,F5 C w F H ρ ρ1 c→eK w F ρ1 cells 0 z (X.take m):=by
 have hml:(X.take m).length=m:=by simp;omega
 unfold nq at h
 split at h
 ·rename_i z' L f
  have h0:=aj h
  obtain⟨hc,h1⟩:=h0
  have h':L=X:=aeo h1
  subst h'
  cases hv with
  |ao V hcap hfull hz' hat h1 hv=>
   rename_i q cap
   have hv2:VR w F ρ (.ao z' (L.take m) false) (.slice q (L.take m).length cap):=by
    refine .ao V (by omega) (fun h=>by cases h) (fun i cs hi=>hz' i cs ?_) ?_ (fun i j cs c hi hj=>h1 i j cs c ?_ hj) (fun i j cs c hi hj=>hv i j cs c ?_ hj)
    ·rw[acX]at hi;split at hi
     ·exact hi
     ·cases hi
    ·rcases hat with h0|⟨B,o,ha,hF,hk⟩
     ·left;rw[h0];simp
     ·exact .inr ⟨B,o,ha,hF,fun i j cs c hi hj=>hk i j cs c (by
       rw[acX]at hi;split at hi
       ·exact hi
       ·cases hi) hj⟩
    ·rw[acX]at hi;split at hi
     ·exact hi
     ·cases hi
    ·rw[acX]at hi;split at hi
     ·exact hi
     ·cases hi
   have DU:nq z H (.ao z' (L.take m) false)=some (L.take m):=by
    unfold nq
    simp only[adw,adK]at hc
    rcases hc with hc|hc
    ·subst hc;simp
    ·have:L=[]:=by simpa using hc
     subst this;simp
   obtain⟨q',cap',cells,k0,k1,k2,k3⟩:=kH hr hz hv2 DU
   rw[hml]at k1 k2
   refine⟨q,cap,cells,rfl,?_,k2,fun ρ1 _=>k3 ρ1 (fun b cC off n l x hh=>by cases hh)⟩
   rw[ta z m q L.length cap m cap]
   exact k1 w rfl
 ·rename_i b cC off n
  split at h
  ·rename_i ver' z' L ex hb
   have h0:=aj h
   obtain⟨hc,h1⟩:=h0
   simp only[acw,adK,acr]at hc
   obtain⟨⟨rfl,rfl⟩,hle⟩:=hc
   have hX:(L.drop off).take n=X:=aeo h1
   have hXl:X.length=n:=by rw[←hX];simp;omega
   obtain⟨l,z2,L2,ex2,hl,hb2,hbr,g1,g2⟩:=ep hr (by unfold cur;simp[hb]) hv
   rw[hb]at hb2;cases hb2
   obtain⟨q,cap,hve⟩:∃q cap,v=.slice q n cap:=by
    cases hvi:l.bC with
    |true=>obtain⟨q,p1,p2,p3⟩:=g1 hvi;exact⟨q,0,by rw[p1,p3]⟩
    |false=>obtain⟨p1,q,p2,p3⟩:=g2 hvi;exact⟨q,_,p2⟩
   have hv2:VR w F ρ (.bn b cC off m) (.slice q m cap):=by
    refine .bn hl (aes hbr.2.1.symm) rfl (fun _=>⟨fun hvi=>?_,fun hvi=>?_⟩)
    ·obtain⟨q',p1,p2,p3⟩:=g1 hvi
     rw[p1]at hve
     have hm0:m=0:=by omega
     injection hve with e1 e2 e3
     rw[hm0,←e1,←e3]
     exact⟨q',rfl,p2,rfl⟩
    ·obtain⟨p1,q',p2,p3⟩:=g2 hvi
     rw[p2]at hve
     injection hve with e1 e2 e3
     rw[←e1,←e3]
     exact⟨by omega,q',rfl,p3⟩
   have DU:nq z' H (.bn b cC off m)=some (X.take m):=by
    have hlm:off+m≤L.length:=by omega
    unfold nq
    simp[hb,hlm]
    rw[←hX,List.take_take,adM (by omega)]
   obtain⟨q',cap',cells,k0,k1,k2,k3⟩:=kH hr hz hv2 DU
   rw[hml]at k1 k2
   subst hve
   refine⟨q,cap,cells,by rw[hXl],?_,k2,fun ρ1 hs=>k3 ρ1 (fun b1 ver1 off1 n1 l1 x1 hh h2 h3 h4=>by cases hh;exact hs _ _ _ _ _ _ rfl h2 h3 h4)⟩
   rw[ta z' m q n cap m cap]
   exact k1 w rfl
  ·cases h
 ·cases h
theorem qR(hr:HR C ρ F H w){b v off z:Nat}{L X:List (List SV)}{ex:Bool}{l:Loc}{cells:Array Value}(hb:bk H b=some (.arr v z L ex))(hl:ρ b=some l)(hbr:BR C w F ρ l (.arr v z L ex))
 (hvi:l.bC=false) (hfit:off+X.length≤L.length) (hsz:cells.size=X.length*z) (hrow:∀ρ1:Map,zf ρ ρ1 (SV.refs.av X.flatten)→eK w F ρ1 cells 0 z X) {refs:Nat} (hrefs:SV.refs.av X.flatten≤refs)
 (hH:ca H b (.arr v z (L.take off++X++L.drop (off+X.length)) ex) refs=some H') :
 ∃w',(storeCells ⟨l.cm,l.base+off*z,none⟩ cells.toList).run C.P w=.ok () w'∧HR C ρ F H' w'∧Ext C ρ F H w ρ F H' w':=by
 obtain⟨h1,h2,h3,h4,h5,h6,h7,h8⟩:=id hbr
 obtain⟨vs,ty',fz,g1,g2,g3,g4⟩:=h8 hvi
 have hm:(off+X.length)*z≤l.cap*z:=adG z (by omega)
 rw[adI]at hm
 have hsz':(nr vs (l.base+off*z) cells.toList).size=vs.size:=jD (by simp;omega)
 have hlt:l.cm<w.heap.size:=(ac6.1 g1).1
 have hst:=dX (P:=C.P) l.cm (l.base+off*z) ty' fz cells.toList 0 vs w g1 g2 (by simp;omega) (fun x hx=>zV (hrow ρ (.inl rfl)) hsz x hx)
 have hlen:(L.take off++X++L.drop (off+X.length)).length=L.length:=by simp;omega
 have hk:dO F w (fA w l.cm (nr vs (l.base+off*z) cells.toList) ty' fz):=kc hr hb rfl hl hvi
 obtain⟨r1,r2⟩:=lN (vs':=nr vs (l.base+off*z) cells.toList) (ty:=ty') (fz:=fz) hr hH hb rfl hl hvi (fun _ ρ1 hρ1 hbr1=>by
  obtain⟨_,_,_,_,_,_,_,q8⟩:=hbr1
  obtain⟨vs2,ty2,fz2,m1,m2,m3,m4⟩:=q8 hvi
  rw[g1]at m1;cases m1
  have hcut:zf ρ ρ1 (SV.refs.av X.flatten):=by
   rcases hρ1 with h|⟨N,hN,h⟩
   ·exact .inl h
   ·exact .inr ⟨N,by omega,h⟩
  have:=wC (xs:=cells) h4 m4 (hrow ρ1 hcut) hsz (by omega) (show off+X.length≤l.cap by omega) h5 g3
  exact⟨h1,h2,h3,this.1,by rw[hlen];exact h5,by rw[hlen];exact h6,h7,fun _=>⟨_,ty',fz,jB hlt,by rw[hsz'];exact g2,by rw[hsz'];exact g3,fun j cs hj=>(this.2 j cs hj).mono hk (fun _ h=>h) (Map.le_refl _)⟩⟩)
 exact⟨_,hst,r1,r2⟩
theorem xe(hr:HR C ρ F H w){b v z:Nat}{L:List (List SV)}{ex:Bool}{l:Loc}{refs:Nat}(hb:bk H b=some (.arr v z L ex))(hl:ρ b=some l)(hbr:BR C w F ρ l (.arr v z L ex))
 (hH:ca H b (.arr v z L ex) refs=some H'):HR C ρ F H' w∧Ext C ρ F H w ρ F H' w:=by
 obtain⟨p1,p2⟩:=hr.set (w':=w) (l':=l) hH hb rfl hl (acH _) (fun _ _ _=>rfl) (fun h=>.inl ⟨h,rfl⟩) (.inl rfl) (fun _=>by rw[bY hl];exact hbr) (fun _ N _ _ h=>by rw[bY hl];exact h)
 rw[bY hl]at p1 p2
 exact⟨p1,p2⟩
theorem yb(X:List (List SV))(m:Nat):SV.refs.av (X.take m).flatten≤SV.refs.av X.flatten:=by
 have app:∀(a b:List SV),SV.refs.av a≤SV.refs.av (a++b)∧SV.refs.av b≤SV.refs.av (a++b):=by
  intro a b
  induction a with
  |nil=>simp[SV.refs.av]
  |cons x r ih=>simp only[adE,SV.refs.av];omega
 have:=(app (X.take m).flatten (X.drop m).flatten).1
 rwa [←List.flatten_append,adC]at this
theorem Hf{ats:Array TypeId}{t el ty:TypeId}{z:Nat}(h0:ats[0]?=some t)(hu:C.P.underlying t=some (.slice el))(hsz:gf C.P el=some z)(hz:0<z)(hr:HR C ρ F H w){X:List (List SV)}{dv xv:Value}
 (hdv:VR w F ρ d dv) (hxv:VR w F ρ c xv) (hX:nq z H c=some X) (h:DX z H X d=some (s,H')):∃val w',(Builtin.copy_ ats ty #[dv,xv]).run C.P w=.ok val w'∧dJ C ρ F H w s H' val w':=by
 unfold DX at h
 split at h
 ·rename_i b v off n
  split at h
  ·rename_i v' z' L ex hg
   replace h:=aj h
   obtain⟨hc,h⟩:=h
   simp only[acw,adK,acr]at hc
   obtain⟨⟨rfl,rfl⟩,hle⟩:=hc
   simp only[acq,acY]at h
   obtain⟨H1,hH,rfl,rfl⟩:=h
   obtain⟨l,z2,L2,ex2,hl,hb2,hbr,g1,g2⟩:=ep hr (by unfold cur;simp[hg]) hdv
   rw[hg]at hb2;cases hb2
   obtain⟨base,sc,hse⟩:∃base sc,dv=.slice base n sc:=by
    cases hvi:l.bC with
    |true=>obtain⟨q,p1,p2,p3⟩:=g1 hvi;exact⟨q,0,by rw[p1,p3]⟩
    |false=>obtain⟨p1,q,p2,p3⟩:=g2 hvi;exact⟨q,_,p2⟩
   obtain⟨q,cap,cells,rfl,k1,k2,k3⟩:=EJ (m:=min X.length n) hr hz hxv hX (Nat.min_le_left _ _)
   have hXt:X.take n=X.take (min X.length n):=by
    rcases Nat.le_total X.length n with h|h
    ·rw[adM h,ac1 h,adF]
    ·rw[Nat.min_eq_right h]
   have hlen:(X.take n).length=min X.length n:=by rw[adA,Nat.min_comm]
   have hrun:∀w',(match base with|some a=>storeCells a cells.toList|none=>pure ()).run C.P w=.ok () w'→(Builtin.copy_ ats ty #[dv,.slice q X.length cap]).run C.P w=.ok (.int .i64 (min X.length n:Nat)) w':=by
    intro w' hw
    subst hse
    unfold Builtin.copy_
    simp only[h0,aem,List.getElem?_cons_zero,aeE,Sem.run_bind,run_underlying hu,Result.andThen,bQ hsz,Builtin.lenOf]
    simp only[pure,Sem.run,Result.andThen,Sem.run_bind,bQ hsz]
    rw[show Nat.min X.length n=min X.length n from rfl,k1]
    cases base with
    |none=>simp only[pure,Sem.run,Result.ok.injEq,true_and]at hw;subst hw;rfl
    |some ad=>simp only[Sem.run_bind,hw,Result.andThen];rfl
   by_cases hm:min X.length n=0
   ·have hc0:cells.toList=[]:=by
     have:cells.size=0:=by rw[k2,hm];simp
     simpa using this
    have hH':L.take off++X.take n++L.drop (off+min X.length n)=L:=by
     rw[hXt,hm];simp
    rw[hH']at hH
    obtain⟨p1,p2⟩:=xe hr hg hl hbr hH
    exact⟨_,w,hrun w (by cases base<;>simp[hc0,storeCells,pure,Sem.run]),ρ,F,.int _ _,p1,p2⟩
   ·have hvi:l.bC=false:=by
     cases hvi:l.bC with
     |true=>obtain⟨q,p1,p2,p3⟩:=g1 hvi;omega
     |false=>rfl
    obtain⟨p1,q',p2,p3⟩:=g2 hvi
    rw[hse]at p2
    cases p2
    have hcap:=hbr.2.2.2.2.1
    have:=p3 (by omega)
    subst this
    have hz3:=hbr.2.2.1
    obtain⟨w',e1,e2,e3⟩:=qR (X:=X.take n) (cells:=cells) (off:=off) hr hg hl hbr hvi (by rw[hlen];omega) (by rw[hlen];exact k2)
     (fun ρ1 hρ1=>po (by rw[hXt];exact k3 ρ (eP hr)) hρ1) (refs:=SV.refs.av X.flatten) (yb X n) (by rw[hlen];exact hH)
    exact⟨_,w',hrun w' (by rw[hz3];exact e1),ρ,F,.int _ _,e2,e3⟩
  ·cases h
 ·cases h
theorem sS{z:List SV}(hz:SV.refs.av z=0):∀n,SV.refs.av (List.replicate n z).flatten=0
 |0=>by simp[SV.refs.av]
 |n+1=>by
  have app:∀(a b:List SV),SV.refs.av a=0→SV.refs.av b=0→SV.refs.av (a++b)=0:=by
   intro a b h1 h2
   induction a with
   |nil=>exact h2
   |cons x r ih=>simp only[adE,SV.refs.av]at h1 ⊢;have:=ih (by omega);omega
  rw[aek,afp]
  exact app _ _ hz (sS hz n)
theorem Ei{ats:Array TypeId}{t el ty:TypeId}{z:List SV}(h0:ats[0]?=some t)(hu:C.P.underlying t=some (.slice el))(hcz:iq C.P el=some z)(hz:0<z.length)(hr:HR C ρ F H w){xv:Value}
 (hxv:VR w F ρ c xv) (h:oJ z.length z H c=some (s,H')):∃val w',(Builtin.clear_ ats ty #[xv]).run C.P w=.ok val w'∧dJ C ρ F H w s H' val w':=by
 unfold oJ at h
 split at h
 ·rename_i z0 f
  simp only[acN,acY]at h
  obtain⟨rfl,rfl⟩:=h
  cases hxv with
  |ao V hcap hfull hz' hat h1 hv=>
   rename_i q cap
   refine⟨.tuple #[],w,?_,dJ.same hr (.undef _)⟩
   unfold Builtin.clear_
   simp only[h0,aem,List.getElem?_cons_zero,Sem.run_bind,run_underlying hu,Result.andThen]
   cases q<;>rfl
 ·rename_i b v off n
  split at h
  ·rename_i v' z' L ex hg
   replace h:=aj h
   obtain⟨hc,h⟩:=h
   simp only[acw,adK,acr]at hc
   obtain⟨⟨rfl,rfl⟩,hle⟩:=hc
   simp only[acq,acY]at h
   obtain⟨H1,hH,rfl,rfl⟩:=h
   obtain⟨l,z2,L2,ex2,hl,hb2,hbr,g1,g2⟩:=ep hr (by unfold cur;simp[hg]) hxv
   rw[hg]at hb2;cases hb2
   by_cases hn:n=0
   ·subst hn
    obtain⟨base,sc,hse⟩:∃base sc,xv=.slice base 0 sc:=by
     cases hvi:l.bC with
     |true=>obtain⟨q,p1,p2,p3⟩:=g1 hvi;exact⟨q,0,p1⟩
     |false=>obtain⟨p1,q,p2,p3⟩:=g2 hvi;exact⟨q,_,p2⟩
    have hH':L.take off++List.replicate 0 z++L.drop (off+0)=L:=by simp
    rw[hH']at hH
    obtain⟨p1,p2⟩:=xe hr hg hl hbr hH
    refine⟨.tuple #[],w,?_,ρ,F,.undef _,p1,p2⟩
    subst hse
    unfold Builtin.clear_
    simp only[h0,aem,List.getElem?_cons_zero,Sem.run_bind,run_underlying hu,Result.andThen]
    cases base<;>rfl
   ·have hvi:l.bC=false:=by
     cases hvi:l.bC with
     |true=>obtain⟨q,p1,p2,p3⟩:=g1 hvi;omega
     |false=>rfl
    obtain⟨p1,q',p2,p3⟩:=g2 hvi
    subst p2
    have hcap:=hbr.2.2.2.2.1
    have:=p3 (by omega)
    subst this
    have hz3:=hbr.2.2.1
    obtain⟨i,zv,hi,hzv,k1,k2⟩:=gB (w:=w) (F:=F) (ρ:=ρ) hcz
    have hzsz:(cI zv.cells (n*z.length)).size=n*z.length:=by simp[cI]
    have hrow:∀ρ1:Map,eK w F ρ1 (cI zv.cells (n*z.length)) 0 z.length (List.replicate n z):=fun ρ1=>by
     obtain⟨i',zv',hi',hzv',k1',k2'⟩:=gB (w:=w) (F:=F) (ρ:=ρ1) hcz
     rw[hi]at hi';cases hi'
     rw[hzv]at hzv';cases hzv'
     exact jU rfl k1' k2' hz
    have hrefs:SV.refs.av z=0:=by
     have key:∀(l:List SV),(∀x∈l,x.refs=0)→SV.refs.av l=0:=by
      intro l
      induction l with
      |nil=>intro _;simp[SV.refs.av]
      |cons x r ih=>intro h;simp only[SV.refs.av,h x (by simp),ih (fun y hy=>h y (by simp[hy]))];rfl
     refine key z (fun x hx=>?_)
     obtain⟨j,hj⟩:=aeJ.1 hx
     obtain⟨i',zv',hi',hzv',k1',k2'⟩:=gB (w:=w) (F:=F) (ρ:=dH) hcz
     obtain⟨v',q1,q2,q3⟩:=k2' j x hj
     cases x with
     |ptr=>cases q2 with|ptr h _ _ _=>cases h
     |bn=>cases q2 with|bn h _ _ _=>cases h
     |fP=>cases q2 with|fP h ha=>cases h
     |mp=>cases q2 with|mp h ha=>cases h
     |fn f cs=>
      exfalso
      unfold iq at hcz
      rw[hi]at hcz
      simp only[hzv,acu]at hcz
      obtain⟨z',hz1,hz2⟩:=hcz
      replace hz2:=aj hz2
      obtain⟨_,hz2⟩:=hz2
      cases hz2
      have:∀(l:List Value) (r:List SV),bR (l.map (mZ 1))=some r→∀x∈r,∃v∈l,mZ 1 v=some x:=by
       intro l
       induction l with
       |nil=>intro r h;simp[bR]at h;subst h;simp
       |cons a l ih=>
        intro r h
        simp only[ada]at h
        cases ha:mZ 1 a with
        |none=>rw[ha]at h;simp[bR]at h
        |some y=>
         rw[ha]at h
         simp only[bR,acq]at h
         obtain⟨r',h1,rfl⟩:=h
         intro x hx
         rcases adj.1 hx with rfl|hx
         ·exact⟨a,by simp,ha⟩
         ·obtain⟨v,h2,h3⟩:=ih r' h1 x hx
          exact⟨v,by simp[h2],h3⟩
      obtain⟨v,_,hv⟩:=this _ _ hz1 _ hx
      unfold mZ at hv
      split at hv<;>first|(cases hv;done)|(simp[acu,bR,cond_eq_ite]at hv;done)|skip
      all_goals (simp only[acu]at hv;obtain⟨cs',_,hv⟩:=hv;replace hv:=aj hv;cases hv.2)
     |pO f cs=>
      exfalso
      unfold iq at hcz
      rw[hi]at hcz
      simp only[hzv,acu]at hcz
      obtain⟨z',hz1,hz2⟩:=hcz
      replace hz2:=aj hz2
      obtain⟨_,hz2⟩:=hz2
      cases hz2
      have:∀(l:List Value) (r:List SV),bR (l.map (mZ 1))=some r→∀x∈r,∃v∈l,mZ 1 v=some x:=by
       intro l
       induction l with
       |nil=>intro r h;simp[bR]at h;subst h;simp
       |cons a l ih=>
        intro r h
        simp only[ada]at h
        cases ha:mZ 1 a with
        |none=>rw[ha]at h;simp[bR]at h
        |some y=>
         rw[ha]at h
         simp only[bR,acq]at h
         obtain⟨r',h1,rfl⟩:=h
         intro x hx
         rcases adj.1 hx with rfl|hx
         ·exact⟨a,by simp,ha⟩
         ·obtain⟨v,h2,h3⟩:=ih r' h1 x hx
          exact⟨v,by simp[h2],h3⟩
      obtain⟨v,_,hv⟩:=this _ _ hz1 _ hx
      unfold mZ at hv
      split at hv<;>first|(cases hv;done)|(simp[acu,bR,cond_eq_ite]at hv;done)|skip
      all_goals (simp only[acu]at hv;obtain⟨cs',_,hv⟩:=hv;replace hv:=aj hv;cases hv.2)
     |agg=>simp[SV.je]at q3
     |bc=>simp[SV.je]at q3
     |_=>simp[SV.refs]
    have hrefs0:=sS hrefs n
    obtain⟨w',e1,e2,e3⟩:=qR (X:=List.replicate n z) (cells:=cI zv.cells (n*z.length)) (off:=off) hr hg hl hbr hvi (by simpa using hle) (by simpa using hzsz)
     (fun ρ1 _=>hrow ρ1) (refs:=0) (aes hrefs0) (by simpa using hH)
    refine⟨.tuple #[],w',?_,ρ,F,.undef _,e2,e3⟩
    unfold Builtin.clear_
    simp only[h0,aem,List.getElem?_cons_zero,Sem.run_bind,run_underlying hu,Result.andThen]
    obtain⟨m,rfl⟩:∃m,n=m+1:=⟨n-1,by omega⟩
    simp only[Sem.run_bind,dK hi hzv,Result.andThen]
    have hzc:Builtin.zeroCells zv.cells (m+1)=cI zv.cells ((m+1)*z.length):=by
     unfold Builtin.zeroCells cI;rw[k1]
    rw[hzc]
    rw[hz3]
    rw[e1]
    rfl
  ·cases h
 ·cases h
end
end
section
section
variable{C:Ctx}{ρ:Map}{F:Nat→Prop}{H H':ab}{w:World}{e:Env}{a:Act}{s c d:SV}
theorem pL:∀(X:List (List SV)) (l:List UInt8) (cells:List Value),toBytes X=some l→cells.length=X.length→(∀(i:Nat) cs,X[i]?=some cs→∃v,cells[i]?=some v∧∀c,cs=[c]→VR w F ρ c v)→
 ∃ns:List Int,cells=ns.map (fun n=>Value.int .u8 n)∧l=ns.map (fun n=>UInt8.ofNat n.toNat)
 |[],l,cells,h,hn,_=>by
  simp[toBytes]at h;subst h
  have:cells=[]:=adR (by simpa using hn)
  subst this
  exact⟨[],rfl,rfl⟩
 |x::X,l,[],h,hn,_=>by simp at hn
 |x::X,l,v::cells,h,hn,hv=>by
  unfold toBytes at h
  split at h
  ·cases ‹x::X=[]›
  ·rename_i n r heq
   cases heq
   simp only[acq]at h
   obtain⟨l',h,rfl⟩:=h
   obtain⟨v',h1,h2⟩:=hv 0 _ rfl
   simp at h1;subst h1
   have h3:=gj (h2 _ rfl)
   subst h3
   obtain⟨ns,rfl,rfl⟩:=pL X l' cells h (by simpa using hn) (fun i cs hi=>hv (i+1) cs (by simpa using hi))
   exact⟨n::ns,rfl,rfl⟩
  ·cases h
theorem pP{P:Program}(f:Value→ByteArray→Sem (ForInStep ByteArray))(hf:∀n s,f (.int .u8 n) s=pure (.yield (s.push (UInt8.ofNat n.toNat))))(w:World):∀(ns:List Int) (s:ByteArray),
 (forIn (ns.map (fun n=>Value.int .u8 n)) s f:Sem ByteArray).run P w=.ok ⟨s.data++(ns.map (fun n=>UInt8.ofNat n.toNat)).toArray⟩ w
 |[],s=>by
  simp only[aeK,List.forIn_nil]
  show Result.ok s w=_
  simp
 |b::l,s=>by
  simp only[ada,List.forIn_cons,Sem.run_bind,hf,Sem.run_pure,Result.andThen]
  rw[pP f hf w l]
  congr 1
  cases s
  simp[ByteArray.push]
theorem A6{sr ds el:TypeId}{x:Operand}{y:bX}(hx:bA x=some y)(hs:C.P.underlying sr=some (.slice el))(h8:C.P.underlying el=some (.int .u8))(hd:C.P.underlying ds=some .string)(hr:HR C ρ F H w)(he:ER w F ρ e a.tmps)
 {L:List (List SV)} {l:List UInt8} (h:nq 1 H (ev e y)=some L) (hl:toBytes L=some l):bL C (do pure (.value (←convert sr ds (a.eval x)))) ρ F H w (.str ⟨l.toArray⟩) H:=by
 have h1:=aZ hx he
 obtain⟨q,cap,cells,hv,k1,k2,k3⟩:=kH hr (by omega) h1 h
 refine bL.val hr (val:=.string ⟨l.toArray⟩) ?_ (.str _)
 rw[hv]at k1⊢
 obtain⟨ns,e1,e2⟩:=pL (w:=w) (F:=F) (ρ:=ρ) L l cells.toList hl (by simpa using k2) (fun i cs hi=>by
  have hrow:=k3 ρ (eP hr)
  have hlen:=hrow.1 i cs hi
  match cs,hlen with
  |[c],_=>
   obtain⟨v,p1,p2,_⟩:=hrow.2 i _ hi 0 c rfl
   refine⟨v,by simpa using p1,fun c' hc=>by cases hc;exact p2⟩)
 unfold convert
 simp only[Sem.run_bind,run_underlying hs,run_underlying hd,Result.andThen,run_underlying h8]
 have h2:=k1 w rfl
 cases q with
 |none=>
  simp only[Builtin.firstCells,Sem.run_pure,Result.ok.injEq]at h2
  obtain⟨rfl,_⟩:=h2
  cases ns with
  |nil=>subst e2;rfl
  |cons n ns=>simp at e1
 |some q=>
  simp only[Builtin.firstCells,Nat.mul_one]at h2
  subst e2
  have e3:cells=(ns.map (fun n=>Value.int .u8 n)).toArray:=by rw[←e1]
  subst e3
  simp only[Conv.bytesToString,Sem.run_bind,h2,Result.andThen,List.forIn_toArray]
  rw[pP _ (fun _ _=>rfl)]
  simp[Sem.run_pure]
theorem wV{A:Type}(h:Array A)(o:A)(f:A→A):(h.push o).modify h.size f=h.push (f o):=by
 apply aeX
 intro i
 rw[afw,aeh,aeh]
 by_cases hi:h.size=i
 ·subst hi;simp
 ·rw[if_neg hi,if_neg (fun e=>hi e.symm),if_neg (fun e=>hi e.symm)]
theorem AN(hr:HR C ρ F H w){L:List (List SV)}{z cap:Nat}{ex:Bool}{vs:Array Value}{ty:TypeId}{fz:Nat×Nat}{w':World}(hw:w'.heap=w.heap.push (.cells vs ty fz))(hfz:kF fz vs.size)(hcap:L.length≤cap)(hex:ex=true→cap=L.length)
 (hsz:cap*z≤vs.size) (hc:eK w F ρ vs 0 z L) (n:Nat) (hn:n≤L.length) (hout:w'.os=w.os∧w'.output=w.output:=by exact⟨rfl,rfl⟩) :
 dJ C ρ F H w (.bn H.bl.length 0 0 n) (bJ H (.arr 0 z L ex)) (.slice (some ⟨w.heap.size,0,none⟩) n cap) w':=by
 let l:Loc:={cm:=w.heap.size,base:=0,cap:=cap,bP:=z,cC:=0,bC:=false,arr:=true}
 have hh:∀B,B<w.heap.size→w'.heap[B]?=w.heap[B]?:=fun B hB=>by
  rw[hw];simp[aeh,ael hB]
 have hk:dO F w w':=fun B hB=>hh B (hr.iM B hB)
 have hle:ρ.le (ρ.put H.bl.length l):=fun b l' h=>⟨l',by rw[Map.bp _ _ (ael (hr.jT b l' h))];exact h,.inl rfl⟩
 have hp:=hr.push (w':=w') (by rw[hw];simp) hh (.arr 0 z L ex) l (fun _=>⟨acH _,by rw[hw];simp[l]⟩)
  ⟨rfl,rfl,rfl,hc.1,hcap,hex,(fun h=>by cases h),fun _=>⟨vs,ty,fz,by rw[hw];simp[l],hfz,by simpa[l]using hsz,fun i cs hi=>by
   have:=hc.2 i cs hi
   exact this.mono hk (fun _ h=>h) hle⟩⟩ hout
 exact⟨_,F,.bn (l:=l) (Map.bG _ _ _) (acH _) rfl (fun _=>⟨(fun h=>by cases h),fun _=>⟨by simp[l];omega,_,rfl,fun _=>by simp[l]⟩⟩),hp.1,hp.2⟩
theorem A5{sr ds el:TypeId}{x:Operand}{y:bX}(hx:bA x=some y)(hs:C.P.underlying sr=some .string)(h8:C.P.underlying el=some (.int .u8))(hd:C.P.underlying ds=some (.slice el))(hr:HR C ρ F H w)(he:ER w F ρ e a.tmps)
 {t:ByteArray} (h:ev e y=.str t):∃val w',(convert sr ds (a.eval x)).run C.P w=.ok val w'∧dJ C ρ F H w (.bn H.bl.length 0 0 t.size) (bJ H (.arr 0 1 (mW t) false)) val w':=by
 have h1:=aZ hx he
 rw[h]at h1
 rw[jP h1]
 have hl:(mW t).length=t.size:=by unfold mW;rw[afh,aeG];rfl
 obtain⟨cap,hcp⟩:∃cap,(Question.appendCap t.size 0 el).cut (w.tape w.drawn (Question.appendCap t.size 0 el))=cap:=⟨_,rfl⟩
 have hcap:t.size≤cap:=by rw[←hcp];exact Nat.le_add_right _ _
 obtain⟨elems,hel⟩:∃elems:Array Value,t.data.map (fun b=>Value.int .u8 b.toNat)=elems:=⟨_,rfl⟩
 have hes:elems.size=t.size:=by rw[←hel,Array.size_map];rfl
 obtain⟨cells,hce⟩:∃cells,elems++Array.replicate (cap-t.size) (Value.int .u8 0)=cells:=⟨_,rfl⟩
 have hcs:cells.size=cap:=by rw[←hce,Array.size_append,hes,Array.size_replicate];omega
 refine⟨.slice (some ⟨w.heap.size,0,none⟩) t.size cap,{w with heap:=w.heap.push (.cells cells el (cap,cap+1)),drawn:=w.drawn+1},?_,AN hr (vs:=cells) (ty:=el) (fz:=(cap,cap+1)) rfl ?_ (by rw[hl];exact hcap) (fun h=>by cases h) (by rw[hcs,Nat.mul_one];exact acH _) ⟨?_,?_⟩ t.size (by rw[hl];exact acH _)⟩
 ·unfold convert
  simp only[Sem.run_bind,run_underlying hs,run_underlying hd,Result.andThen,run_underlying h8]
  unfold Conv.stringToBytes
  have r1:(choose (.appendCap t.size 0 el)).run C.P w=.ok cap {w with drawn:=w.drawn+1}:=by rw[←hcp];rfl
  have r2:∀(w:World) (cs:Array Value),(newRow el cs).run C.P w=.ok ⟨w.heap.size,0,none⟩ {w with heap:=w.heap.push (.cells cs el)}:=fun _ _=>rfl
  have r3:(markStringish ⟨w.heap.size,0,none⟩).run C.P {w with heap:=w.heap.push (.cells cells el),drawn:=w.drawn+1}=.ok () {w with heap:=w.heap.push (.cells cells el (cap,cap+1)),drawn:=w.drawn+1}:=by
   have e1:World.shape? {w with heap:=w.heap.push (.cells cells el),drawn:=w.drawn+1} w.heap.size=some (el,cap):=by
    unfold World.shape?
    simp only[Array.getElem?_push_size,hcs]
   have e2:World.freeze {w with heap:=w.heap.push (.cells cells el),drawn:=w.drawn+1} ⟨w.heap.size,cap,none⟩ 1={w with heap:=w.heap.push (.cells cells el (cap,cap+1)),drawn:=w.drawn+1}:=by
    unfold World.freeze
    rw[if_neg (by decide)]
    simp only[wV]
    rfl
   show(match World.shape? {w with heap:=w.heap.push (.cells cells el),drawn:=w.drawn+1} w.heap.size with
    |some (_,n)=>freeze ⟨w.heap.size,n,none⟩ 1
    |_=>pure ():Sem Unit).run C.P _=_
   rw[e1]
   show Result.ok () (World.freeze _ _ _)=_
   rw[e2]
  simp only[Sem.run_bind,r1,r2,Result.andThen,hel,hce,r3]
  rfl
 ·intro o ho
  rw[hcs]at ho
  simp only[aec,acx]
  left;omega
 ·intro i cs hi
  simp only[mW,ad2,acq]at hi
  obtain⟨b,_,rfl⟩:=hi
  rfl
 ·intro i cs hi j c hj
  simp only[mW,ad2,acq]at hi
  obtain⟨b,hb,rfl⟩:=hi
  have hj0:j=0:=by
   cases j with
   |zero=>rfl
   |succ j=>simp at hj
  subst hj0
  simp only[List.getElem?_cons_zero,acN]at hj
  subst hj
  have hbi:t.data[i]?=some b:=by simpa using hb
  refine⟨.int .u8 b.toNat,?_,.int _ _,rfl⟩
  have hi:i<t.data.size:=(ac6.1 hbi).1
  rw[show 0+i*1+0=i by omega,←hce,ae7 (by rw[hes];exact hi)]
  rw[←hel,Array.getElem?_map,hbi];rfl
end
end
section
section
variable{C:Ctx}{ρ:Map}{F:Nat→Prop}{H H':ab}{w:World}{e:Env}{a:Act}{s c d:SV}
def Rf:LK→TypeDesc→Prop
 | .i,d=>∃k,d=.int k
 | .s,d=>d=.string
 | .b,d=>d=.bool
theorem EF{c:SV}{v y:Value}(h:VR w F ρ c v)(hs:pE c=some y):v=y:=by
 unfold pE at hs
 split at hs<;>first|(cases hs;cases h;rfl)|cases hs
theorem Pw{c:SV}{y:Value}(hs:pE c=some y):VR w F ρ c y:=by
 unfold pE at hs
 split at hs<;>first|(cases hs;constructor)|cases hs
theorem IN{a b:ByteArray}(h:(a==b)=true):a=b:=by
 cases a with
 |mk x=>cases b with
  |mk y=>
   have h':(x==y)=true:=h
   rw[eq_of_beq h']
theorem xB(a:ByteArray):(a==a)=true:=by
 cases a with
 |mk x=>
  show(x==x)=true
  exact adL x
theorem CA{t:LK}{d:TypeDesc}{k q:SV}{kv qv:Value}{b:Bool}(hd:Rf t d)(h:sH t k q=some b)(hk:pE k=some kv)(hq:pE q=some qv):Instr.sameNow d kv qv=some b∧(b=true→kv=qv):=by
 unfold sH at h
 split at h
 ·rename_i k1 a k2 b'
  replace h:=aj h
  obtain⟨h1,h2⟩:=h
  obtain⟨kk,rfl⟩:=hd
  cases hk;cases hq;cases h2
  have h1:k1=k2:=by simpa using h1
  subst h1
  exact⟨by simp[Instr.sameNow],fun h=>by rw[eq_of_beq h]⟩
 ·cases hd
  cases hk;cases hq;cases h
  exact⟨by simp[Instr.sameNow],fun h=>by rw[IN h]⟩
 ·cases hd
  cases hk;cases hq;cases h
  exact⟨by simp[Instr.sameNow],fun h=>by rw[eq_of_beq h]⟩
 ·cases h
theorem qP{t:LK}{d:TypeDesc}{k:SV}{kv:Value}(hd:Rf t d)(hk:pE k=some kv):∀(es:List (SV×SV)) (en:List MapEntry) (i:Nat) (r:Option (Nat×SV)),mX w F ρ en es→gT t k es i=some r→
 (r=none∧Instr.findNow d kv en i=some none)∨∃j v en1,r=some (i+j,v)∧Instr.findNow d kv en i=some (some (i+j,en1.val))∧en[j]?=some en1∧en1.key=kv∧v.je=true∧VR w F ρ v en1.val
 |[],[],i,r,_,h=>by cases h;exact .inl ⟨rfl,rfl⟩
 |[],_::_,_,_,hm,_=>hm.elim
 |(_,_)::_,[],_,_,hm,_=>hm.elim
 |(q,v)::es,e::en,i,r,⟨h1,h2,h3,h4⟩,h=>by
  unfold gT at h
  simp only[acu]at h
  obtain⟨b,hb,h⟩:=h
  obtain⟨g1,g2⟩:=CA hd hb hk h1
  cases b with
  |true=>
   cases h
   exact .inr ⟨0,v,e,rfl,by simp[Instr.findNow,g1],rfl,(g2 rfl).symm,h2,h3⟩
  |false=>
   simp only[acJ]at h
   rcases qP hd hk es en (i+1) r h4 h with⟨p1,p2⟩|⟨j,v',e',p1,p2,p3,p4,p5,p6⟩
   ·exact .inl ⟨p1,by simp[Instr.findNow,g1,p2]⟩
   ·exact .inr ⟨j+1,v',e',by rw[p1];congr 2;omega,by simp only[Instr.findNow,g1,p2];congr 3;omega,by simpa using p3,p4,p5,p6⟩
theorem vD{k v:SV}{e:MapEntry}(hk:pE k=some e.key)(h1:v.je=true)(hv:VR w F ρ v e.val):∀(en:List MapEntry) (es:List (SV×SV)),mX w F ρ en es→mX w F ρ (en++[e]) (es++[(k,v)])
 |[],[],_=>⟨hk,h1,hv,trivial⟩
 |_::en,(_,_)::es,⟨a,b,c,h⟩=>⟨a,b,c,vD hk h1 hv en es h⟩
 |[],_::_,h=>h.elim
 |_::_,[],h=>h.elim
theorem wO{k v:SV}{kv vv:Value}(hk:pE k=some kv)(h1:v.je=true)(hv:VR w F ρ v vv):∀(j:Nat) (en:List MapEntry) (es:List (SV×SV)),mX w F ρ en es→mX w F ρ (en.modify j fun e=>{e with key:=kv,val:=vv}) (es.set j (k,v))
 |_,[],[],_=>by simp[mX]
 |0,e::en,(q,x)::es,⟨a,b,c,h⟩=>by
  rw[List.modify_zero_cons,afL]
  exact⟨hk,h1,hv,h⟩
 |j+1,e::en,(q,x)::es,⟨a,b,c,h⟩=>by
  rw[List.modify_succ_cons,List.set_cons_succ]
  exact⟨a,b,c,wO hk h1 hv j en es h⟩
 |_,[],_::_,h=>h.elim
 |_,_::_,[],h=>h.elim
theorem td{t el:TypeId}{q:LK}(h:we C.P t=some (q,el)):∃kt d,C.P.underlying t=some (.map kt el)∧C.P.underlying kt=some d∧Rf q d∧gf C.P el=some 1∧jL C.P el=some false:=by
 unfold we at h
 split at h
 ·rename_i k e hu
  replace h:=aj h
  obtain⟨hc,h⟩:=h
  simp only[acw,adK]at hc
  split at h
  ·rename_i hk;cases h;exact⟨k,_,hu,hk,⟨_,rfl⟩,hc.1,hc.2⟩
  ·rename_i hk;cases h;exact⟨k,_,hu,hk,rfl,hc.1,hc.2⟩
  ·rename_i hk;cases h;exact⟨k,_,hu,hk,rfl,hc.1,hc.2⟩
  ·cases h
 ·cases h
theorem xq{k:SV}(h:isKey k=true):∃y,pE k=some y:=by
 unfold isKey at h
 split at h<;>first|exact⟨_,rfl⟩|cases h
theorem py{q:LK}{kt:TypeId}{d:TypeDesc}{k:SV}{kv:Value}(hd:Rf q d)(hu:C.P.underlying kt=some d)(hk:pE k=some kv)(b:Bool)(n:Nat)(w:World):(Instr.checkKey b (n+1) kt kv).run C.P w=.ok () w:=by
 unfold Instr.checkKey
 simp only[Sem.run_bind,run_underlying hu,Result.andThen]
 unfold pE at hk
 cases q with
 |i=>obtain⟨kk,rfl⟩:=hd;split at hk<;>first|(cases hk;rfl)|cases hk
 |s=>cases hd;split at hk<;>first|(cases hk;rfl)|cases hk
 |b=>cases hd;split at hk<;>first|(cases hk;rfl)|cases hk
theorem Es(hr:HR C ρ F H w){b:Nat}{v:Value}{es:List (SV×SV)}(hv:VR w F ρ (.mp b) v)(hg:bk H b=some (.map es)):∃l en cl,ρ b=some l∧v=.map (some l.cm)∧l.bC=false∧l.arr=false∧w.heap[l.cm]?=some (.map en cl)∧mX w F ρ en.toList es:=by
 cases hv with
 |mp h ha=>
  obtain⟨l',h1,h2,h3,en,cl,h4,h5⟩:=hr.live _ _ hg rfl
  rw[h]at h1;cases h1
  exact⟨_,en,cl,h,rfl,h2,h3,h4,h5⟩
theorem CI(hr:HR C ρ F H w)(t:TypeId):bL C (do pure (.value (←Instr.makeMap t none))) ρ F H w (.mp H.bl.length) (bJ H (.map [])):=by
 let l:Loc:={cm:=w.heap.size,base:=0,cap:=0,bP:=0,cC:=0,bC:=false,arr:=false}
 have hh:∀B,B<w.heap.size→({w with heap:=w.heap.push (.map #[] 0)}:World).heap[B]?=w.heap[B]?:=fun B hB=>by simp[aeh,ael hB]
 have hp:=hr.push (w':={w with heap:=w.heap.push (.map #[] 0)}) (by simp) hh (.map []) l (fun _=>⟨acH _,by simp[l]⟩) ⟨rfl,rfl,#[],0,by simp[l],trivial⟩
 refine bL.vb (val:=.map (some w.heap.size)) (w':={w with heap:=w.heap.push (.map #[] 0)}) ?_ ⟨_,F,.mp (l:=l) (Map.bG _ _ _) rfl,hp.1,hp.2⟩
 simp[Instr.makeMap,newObj,Sem.run]
theorem BF{t:TypeId}{z:SV}(h:uj C.P t=some z):∃i v,C.P.info? t=some i∧i.zero=some v∧VR w F ρ z v:=by
 unfold uj at h
 split at h
 ·rename_i i hi
  split at h
  ·rename_i v hv
   simp only[acu]at h
   obtain⟨z',h1,h2⟩:=h
   replace h2:=aj h2
   cases h2.2
   exact⟨i,v,hi,hv,uw 1 h1⟩
  ·cases h
 ·cases h
theorem CL{t el:TypeId}{q:LK}{ok:Bool}{z:SV}{x k:Operand}{x' k':bX}(hm:we C.P t=some (q,el))(hz:uj C.P el=some z)(hx:bA x=some x')(hk:bA k=some k')(hr:HR C ρ F H w)(he:ER w F ρ e a.tmps)
 (h:jR q ok z H (ev e k') (ev e x')=some (s,H')):bL C (do pure (.value (←Instr.lookup t (a.eval x) (a.eval k) ok))) ρ F H w s H':=by
 obtain⟨kt,d,hu,huk,hd,hsz,hag⟩:=td hm
 unfold jR at h
 split at h
 ·rename_i b hb
  split at h
  ·rename_i es hg
   replace h:=aj h
   obtain⟨hkey,h⟩:=h
   simp only[acq,acY]at h
   obtain⟨r,h1,h2,rfl⟩:=h
   have hxv:=aZ hx he
   rw[hb]at hxv
   obtain⟨l,en,cl,hl,hv,hvi,har,hw,hM⟩:=Es hr hxv hg
   have hkv:=aZ hk he
   obtain⟨kv,hks⟩:=xq hkey
   have hke:=EF hkv hks
   obtain⟨i',zv,hi',hzv,hzr⟩:=BF (w:=w) (F:=F) (ρ:=ρ) hz
   have hck:=py (C:=C) hd huk hks en.isEmpty 9999 w
   rcases qP hd hks es en.toList 0 r hM h1 with⟨rfl,p2⟩|⟨j,v,e1,rfl,p2,p3,p4,p5,p6⟩
   ·have hrun:(Instr.lookup t (a.eval x) (a.eval k) ok).run C.P w=.ok (if ok then .tuple #[zv,.bool false]else zv) w:=by
     unfold Instr.lookup
     rw[hv,hke]
     simp only[Sem.run_bind,run_underlying hu,Result.andThen,MapKept.run_getObj_map hw,Sem.run_pure,hck,MapKept.run_findKey huk p2,dK hi' hzv]
    cases ok with
    |true=>
     cases h2
     refine bL.val hr hrun (.bc rfl (fun j c v hj hv=>?_))
     match j with
     |0=>simp at hj hv;subst hj;subst hv;exact hzr
     |1=>simp at hj hv;subst hj;subst hv;exact .bool _
     |j+2=>simp at hj
    |false=>
     cases h2
     exact bL.val hr hrun hzr
   ·have hrun:(Instr.lookup t (a.eval x) (a.eval k) ok).run C.P w=.ok (if ok then .tuple #[e1.val,.bool true]else e1.val) w:=by
     unfold Instr.lookup
     rw[hv,hke]
     simp only[Sem.run_bind,run_underlying hu,Result.andThen,MapKept.run_getObj_map hw,Sem.run_pure,hck,MapKept.run_findKey huk p2]
    have hvr:VR w F ρ v e1.val:=p6
    cases ok with
    |true=>
     cases h2
     refine bL.val hr hrun (.bc rfl (fun j c v hj hv=>?_))
     match j with
     |0=>simp at hj hv;subst hj;subst hv;exact hvr
     |1=>simp at hj hv;subst hj;subst hv;exact .bool _
     |j+2=>simp at hj
    |false=>
     cases h2
     exact bL.val hr hrun hvr
  ·cases h
 ·cases h
theorem xD{k:SV}{kv:Value}(h:pE k=some kv)(n:Nat):Instr.sameBits n kv kv=true:=by
 unfold pE at h
 split at h
 ·cases h;unfold Instr.sameBits;simp
 ·cases h;unfold Instr.sameBits;simp
 ·rename_i s
  cases h
  unfold Instr.sameBits
  exact xB s
 ·cases h
theorem FF{t el:TypeId}{q:LK}{x k v:Operand}{x' k' v':bX}(hm:we C.P t=some (q,el))(hx:bA x=some x')(hk:bA k=some k')(hvo:bA v=some v')(hr:HR C ρ F H w)(he:ER w F ρ e a.tmps)
 (h:qI q H (ev e k') (ev e v') (ev e x')=some (s,H')):∃w',(Instr.mapUpdate t (a.eval x) (a.eval k) (a.eval v)).run C.P w=.ok () w'∧s=.undef∧HR C ρ F H' w'∧Ext C ρ F H w ρ F H' w':=by
 obtain⟨kt,d,hu,huk,hd,hsz,hag⟩:=td hm
 unfold qI at h
 split at h
 ·rename_i b hb
  split at h
  ·rename_i es hg
   replace h:=aj h
   obtain⟨hc,h⟩:=h
   simp only[acw,adK]at hc
   obtain⟨hkey,hv1⟩:=hc
   simp only[acu,acq,acY]at h
   obtain⟨r,h1,H1,hH,rfl,rfl⟩:=h
   have hxv:=aZ hx he
   rw[hb]at hxv
   obtain⟨l,en,cl,hl,hv,hvi,har,hw,hM⟩:=Es hr hxv hg
   obtain⟨kv,hks⟩:=xq hkey
   have hke:=EF (aZ hk he) hks
   have hvr:=aZ hvo he
   generalize a.eval v=vv at *
   have hck:=py (C:=C) hd huk hks false 9999 w
   have hlt:l.cm<w.heap.size:=(ac6.1 hw).1
   have hown:Own ρ H b l:=⟨⟨_,hg,rfl⟩,hl,hvi⟩
   have fin:∀(en':Array MapEntry) (cl':Nat),(∀(w':World) (σ:Map),dO F w w'→VR w F σ (ev e v') vv→mX w F σ en.toList es→mX w' F σ en'.toList (yd (ev e k') (ev e v') es r))→
    HR C ρ F H1 (w.putObj l.cm (.map en' cl'))∧Ext C ρ F H w ρ F H1 (w.putObj l.cm (.map en' cl')):=by
    intro en' cl' hM'
    have hkeep:∀Bk,Bk≠l.cm→(w.putObj l.cm (.map en' cl')).heap[Bk]?=w.heap[Bk]?:=fun Bk hne=>World.putObj_heap_other hne
    have hkk:dO F w (w.putObj l.cm (.map en' cl')):=fun Bk hB=>hkeep Bk (fun e=>(hr.own _ _ hown).1 (e▸hB))
    obtain⟨z1,z2⟩:=hr.set (w':=w.putObj l.cm (.map en' cl')) (l':=l) hH hg rfl hl (by simp) (fun Bk _ h=>hkeep Bk (h hvi)) (fun h=>.inl ⟨h,rfl⟩) (.inl rfl)
     (fun _=>⟨hvi,har,en',cl',World.putObj_heap_same hlt,by rw[bY hl];exact hM' _ _ hkk hvr hM⟩)
     (fun _ N hN _ hx=>by
      obtain⟨_,_,en2,cl2,g1,g2⟩:=hx
      rw[hw]at g1
      cases g1
      exact⟨hvi,har,en',cl',World.putObj_heap_same hlt,by rw[bY hl];exact hM' _ _ hkk (hvr.cut N hN) g2⟩)
    rw[bY hl]at z1 z2
    exact⟨z1,z2⟩
   rcases qP hd hks es en.toList 0 r hM h1 with⟨rfl,p2⟩|⟨j,v1,e1,rfl,p2,p3,p4,p5,p6⟩
   ·obtain⟨z1,z2⟩:=fin (en.push {key:=kv,val:=vv,born:=cl}) (cl+1) (fun w' σ hkk hv2 hM2=>by
     rw[Array.toList_push]
     exact vD (e:={key:=kv,val:=vv,born:=cl}) hks hv1 (hv2.mono hkk (fun _ h=>h) (Map.le_refl _)) _ _ (hM2.mono hkk (fun _ h=>h) (Map.le_refl _)))
    refine⟨_,?_,rfl,z1,z2⟩
    unfold Instr.mapUpdate
    rw[hv,hke]
    simp only[Sem.run_bind,run_underlying hu,Result.andThen,MapKept.run_getObj_map hw,hck,MapKept.run_findKey huk p2,MapKept.run_setObj_map _ hw]
    rfl
   ·rw[adr]at p2 h1 hH
    have hj:en[j]?=some e1:=by simpa using p3
    obtain⟨z1,z2⟩:=fin (en.modify j fun e=>{e with key:=kv,val:=vv}) cl (fun w' σ hkk hv2 hM2=>by
     rw[Array.toList_modify,adr]
     exact wO hks hv1 (hv2.mono hkk (fun _ h=>h) (Map.le_refl _)) j _ _ (hM2.mono hkk (fun _ h=>h) (Map.le_refl _)))
    refine⟨_,?_,rfl,z1,z2⟩
    have hks2:(Instr.keyThatStays kv kv).run C.P w=.ok kv w:=by unfold Instr.keyThatStays;rw[xD hks];rfl
    unfold Instr.mapUpdate
    rw[hv,hke]
    simp only[Sem.run_bind,run_underlying hu,Result.andThen,MapKept.run_getObj_map hw,hck,MapKept.run_findKey huk p2,hj,adm,ad3,p4,hks2,MapKept.run_setObj_map _ hw]
    rfl
  ·cases h
 ·cases h
theorem vQ{t el:TypeId}{q:LK}{x k v:Operand}{x' k' v':bX}(hm:we C.P t=some (q,el))(hx:bA x=some x')(hk:bA k=some k')(hvo:bA v=some v')(hr:HR C ρ F H w)(he:ER w F ρ e a.tmps)
 (h:qI q H (ev e k') (ev e v') (ev e x')=some (s,H')):bL C (do Instr.mapUpdate t (a.eval x) (a.eval k) (a.eval v);pure .skip) ρ F H w s H':=by
 obtain⟨w',h1,rfl,h2,h3⟩:=FF hm hx hk hvo hr he h
 exact⟨undef,w',.inr ⟨by simp[h1,pure,Sem.run],rfl⟩,ρ,F,.undef _,h2,h3⟩
end
end
section
section
variable{C:Ctx}{ρ:Map}{F:Nat→Prop}{H H':ab}{w:World}{e:Env}{a:Act}{s c d:SV}
theorem fa{A:Type}{c:Bool}{x:Option A}{y:A}(h:(bif c then none else x)=some y):c=false∧x=some y:=by
 cases c with
 |true=>cases h
 |false=>exact⟨rfl,h⟩
theorem map_fst{v:Option SV}(h:v.map (·,H)=some (s,H')):v=some s∧H=H':=by
 cases v with
 |none=>cases h
 |some v=>cases h;exact⟨rfl,rfl⟩
theorem sQ{xs:Array Operand}{y:bX}(h:jo xs=some [y]):∃x,xs= #[x]∧bA x=some y:=by
 have h1:=oP h
 cases xs with
 |mk l=>
  match l,h1 with
  |[x],h1=>simp at h1;exact⟨x,rfl,h1⟩
  |[],h1=>simp at h1
  |_::_::_,h1=>simp at h1
theorem tc{xs:Array Operand}{y z:bX}(h:jo xs=some [y,z]):∃x x',xs= #[x,x']∧bA x=some y∧bA x'=some z:=by
 have h1:=oP h
 cases xs with
 |mk l=>
  match l,h1 with
  |[x,x'],h1=>simp at h1;exact⟨x,x',rfl,h1.1,h1.2⟩
  |[],h1=>simp at h1
  |[_],h1=>simp at h1
  |_::_::_::_,h1=>simp at h1
theorem rX{t el:TypeId}(h:mF C.P t=some el):C.P.underlying t=some (.slice el):=by
 unfold mF at h
 split at h
 ·cases h;assumption
 ·cases h
def Bg:NK→Value→Option Bool
 | .p,.pointer p=>some p.isNone
 | .s,.slice b _ _=>some b.isNone
 | .f,.nilFunc=>some true
 | .f,.func _ _ _=>some false
 |_,_=>none
theorem nN{op:BinOp}{u:TypeDesc}{y:Operand}{x:bX}{op':mi}(h:w6 op u y x=some op'):∃k neg,op'=.isNil k neg x:=by
 unfold w6 at h
 split at h<;>first|(cases h;done)|(cases h;exact⟨_,_,rfl⟩)
theorem G4{P:Program}{d:Nat}{t el:TypeId}{p:Option Addr}(hu:P.underlying t=some (.pointer el)):(Op.equalIn (d+1) t (.pointer p) (.pointer none)).run P w=.ok p.isNone w:=by
 cases p<;>simp[Op.equalIn,run_underlying hu,Sem.run_bind,Result.andThen,pure,Sem.run]
theorem Hb{P:Program}{d n c:Nat}{t el:TypeId}{p:Option Addr}(hu:P.underlying t=some (.slice el)):(Op.equalIn (d+1) t (.slice p n c) (.slice none 0 0)).run P w=.ok p.isNone w:=by
 cases p<;>simp[Op.equalIn,run_underlying hu,Sem.run_bind,Result.andThen,pure,Sem.run]
theorem zx{P:Program}{d:Nat}{t:TypeId}{ps rs vr}(hu:P.underlying t=some (.func ps rs vr)):(Op.equalIn (d+1) t .nilFunc .nilFunc).run P w=.ok true w∧∀f x y,(Op.equalIn (d+1) t (.func f x y) .nilFunc).run P w=.ok false w:=by
 constructor
 ·simp[Op.equalIn,run_underlying hu,Sem.run_bind,Result.andThen,pure,Sem.run]
 ·intro f x y
  simp[Op.equalIn,run_underlying hu,Sem.run_bind,Result.andThen,pure,Sem.run]
theorem vN{op:BinOp}{u:TypeDesc}{t:TypeId}{x y:Operand}{x':bX}{k:NK}{neg b:Bool}{v:Value}(h:w6 op u y x'=some (.isNil k neg x'))(hu:C.P.underlying t=some u)(hb:Bg k v=some b) :
 (do eqGuard op t x y v (a.eval y);binOp op t v (a.eval y):Sem Value).run C.P w=.ok (.bool (neg ^^ b)) w:=by
 have hm:Op.maxDepth=9999+1:=rfl
 unfold w6 at h
 split at h<;>first|(cases h;done)|skip
 all_goals
  cases h
  cases v<;>simp only[Bg,acN,reduceCtorEq]at hb
 all_goals
  subst hb
  simp only[Act.eval,eqGuard,binOp,Op.equal,hm,Sem.run_bind]
  first
  |(simp[G4 hu,Sem.run_bind,Result.andThen,pure,Sem.run];done)
  |(simp[Hb hu,Sem.run_bind,Result.andThen,pure,Sem.run];done)
  |(simp[(zx hu).1,(zx hu).2,Sem.run_bind,Result.andThen,pure,Sem.run];done)
theorem Ex(hr:HR C ρ F H w){k:NK}{b:Bool}{v:Value}(hs:gg H k c=some b)(hv:VR w F ρ c v):Bg k v=some b:=by
 unfold gg at hs
 split at hs
 ·cases hs;cases hv;rfl
 ·replace hs:=aj hs
  obtain⟨hc,hs⟩:=hs
  cases hs
  obtain⟨l,hl,_,_,hv2⟩:=u4 hr hc hv
  subst hv2
  rfl
 ·cases hs;cases hv;rfl
 ·cases hs;cases hv;rfl
 ·cases hs;cases hv;rfl
 ·cases hs;cases hv;rfl
 ·rename_i z L f
  cases hL:L.isEmpty with
  |true=>rw[hL]at hs;cases hs
  |false=>
   rw[hL]at hs
   cases hs
   cases hv with
   |ao V hcap hfull hz hat h1 hv=>
    rcases hat with h0|⟨B,o,ha,_⟩
    ·subst h0;cases hL
    ·subst ha;rfl
 ·rename_i b' v' off n
  replace hs:=aj hs
  obtain⟨hc,hs⟩:=hs
  simp only[acw,acr]at hc
  cases hs
  obtain⟨l,z2,L2,ex2,hl,hb2,hbr,g1,g2⟩:=ep hr hc.1 hv
  cases hvi:l.bC with
  |true=>obtain⟨q,p1,p2,p3⟩:=g1 hvi;omega
  |false=>
   obtain⟨p1,q,p2,p3⟩:=g2 hvi
   have:=p3 (by omega)
   subst this
   subst p2
   rfl
 ·cases hs
theorem Ej{op:BinOp}{u:TypeDesc}{t:TypeId}{x y:Operand}{x':bX}{k:NK}{neg b:Bool}(h:w6 op u y x'=some (.isNil k neg x'))(hu:C.P.underlying t=some u)(hx:bA x=some x')
 (hr:HR C ρ F H w) (he:ER w F ρ e a.tmps) (hs:gg H k (ev e x')=some b):bL C (do let v←(do eqGuard op t x y (a.eval x) (a.eval y);binOp op t (a.eval x) (a.eval y));pure (.value v)) ρ F H w (.bool (neg ^^ b)) H:=
 bL.val hr (vN h hu (Ex hr hs (aZ hx he))) (.bool _)
theorem z6{o:Oper}{op':mi}(h:oW C.P o.op=some op')(hr:HR C ρ F H w)(he:ER w F ρ e a.tmps)(hs:cb e H op'=some (s,H')):bL C (execOp a.eval o) ρ F H w s H':=by
 unfold oW at h
 split at h
 case h_1 x ho=>
  simp only[acq]at h
  obtain⟨y,hy,rfl⟩:=h
  simp only[cb,acN,acY]at hs
  obtain⟨rfl,rfl⟩:=hs
  simp only[execOp,ho]
  exact CM hy hr he
 case h_2 x ho=>
  simp only[acq]at h
  obtain⟨y,hy,rfl⟩:=h
  simp only[cb,acN,acY]at hs
  obtain⟨rfl,rfl⟩:=hs
  simp only[execOp,ho]
  exact CM hy hr he
 case h_3 c x y ho=>
  split at h
  ·rename_i c' x' y' h1 h2 h3
   cases h
   obtain⟨h4,rfl⟩:=map_fst hs
   simp only[execOp,ho]
   exact FL h1 h2 h3 hr he h4
  ·cases h
 case h_4 t ho=>
  simp only[acq]at h
  obtain⟨z,hz,rfl⟩:=h
  simp only[cb,acN,acY]at hs
  obtain⟨rfl,rfl⟩:=hs
  simp only[execOp,ho]
  exact CF hz hr
 case h_5 t x ho=>
  simp only[acq]at h
  obtain⟨y,hy,rfl⟩:=h
  simp only[cb,acq,acY]at hs
  obtain⟨cs,h1,rfl,rfl⟩:=hs
  simp only[execOp,ho]
  exact J0 hy hr he h1
 case h_6 t ps ho=>
  split at h
  ·rename_i z ps' h1 h2
   cases h
   simp only[cb,acq,acY]at hs
   obtain⟨r,h3,rfl,rfl⟩:=hs
   simp only[execOp,ho]
   exact Cj h1 h2 hr he h3
  ·cases h
 case h_7 t n ps ho=>
  split at h
  ·rename_i el hel
   split at h
   ·rename_i z zs ps' h1 h2 h3
    replace h:=aj h
    obtain⟨hc,h⟩:=h
    cases h
    simp only[acw,acr,adK]at hc
    simp only[cb,acq,acY]at hs
    obtain⟨r,h4,rfl,rfl⟩:=hs
    simp only[execOp,ho]
    exact Bv hel h1 h2 h3 hc.1 hc.2 hr he h4
   ·cases h
  ·cases h
 case h_8 t x ho=>
  split at h
  ·rename_i ag n y h1 h2 h3
   cases h
   obtain⟨h4,rfl⟩:=map_fst hs
   simp only[execOp,ho]
   exact GD h1 h2 h3 hr he h4
  ·cases h
 case h_9 t x y ho=>
  split at h
  ·rename_i n x' y' h1 h2 h3
   cases h
   simp only[cb,acq,acY]at hs
   obtain⟨H1,h4,rfl,rfl⟩:=hs
   simp only[execOp,ho]
   exact Dk h1 h2 h3 hr he h4
  ·cases h
 case h_10 x ho=>
  simp only[acq]at h
  obtain⟨y,hy,rfl⟩:=h
  exact AK hy hr he o ho hs
 case h_11 bo t x y yt ho=>
  simp only[execOp,ho]
  split at h
  ·rename_i x' y' h1 h2
   have aggs:∀(op:BinOp) (neg:Bool),((op=.eql∧neg=false)∨(op=.neq∧neg=true))→jL C.P t=some true→(bif C.P.eqGuardType C.P.depth t then none else(eY C.P 6 t).map (.dU neg · x' y'))=some op'→cb e H op'=some (s,H')→
    bL C (do let v←(do eqGuard op t x y (a.eval x) (a.eval y);binOp op t (a.eval x) (a.eval y));pure (.value v)) ρ F H w s H':=by
    intro op neg ed hag h hs
    replace h:=fa h
    obtain⟨hm,h⟩:=h
    simp only[acq]at h
    obtain⟨sh,hsh,rfl⟩:=h
    simp only[cb]at hs
    split at hs
    ·rename_i cs ds k1 k2
     simp only[acq,acY]at hs
     obtain⟨r,k3,rfl,rfl⟩:=hs
     exact Dz ed h1 h2 hm hsh hag hr he k1 k2 k3
    ·cases hs
   split at h
   ·rename_i hu
    exact aggs .eql false (.inl ⟨rfl,rfl⟩) (by simp[jL,hu]) h hs
   ·rename_i hu
    exact aggs .neq true (.inr ⟨rfl,rfl⟩) (by simp[jL,hu]) h hs
   ·rename_i hu
    exact aggs .eql false (.inl ⟨rfl,rfl⟩) (by simp[jL,hu]) h hs
   ·rename_i hu
    exact aggs .neq true (.inr ⟨rfl,rfl⟩) (by simp[jL,hu]) h hs
   ·cases h
    obtain⟨h4,rfl⟩:=map_fst hs
    exact Ez h1 h2 hr he h4
   ·rename_i hu
    cases h
    obtain⟨h4,rfl⟩:=map_fst hs
    exact FW h1 h2 hr he hu h4
   ·cases h
    obtain⟨h4,rfl⟩:=map_fst hs
    exact Ez h1 h2 hr he h4
   ·rename_i u hu
    obtain⟨k,neg,rfl⟩:=nN h
    simp only[cb,acq,acY]at hs
    obtain⟨b,k1,rfl,rfl⟩:=hs
    exact Ej h hu h1 hr he k1
   ·cases h
  ·cases h
 case h_12 t x ho=>
  simp only[acq]at h
  obtain⟨y,hy,rfl⟩:=h
  simp only[cb]at hs
  split at hs
  ·rename_i b hb
   cases hs
   simp only[execOp,ho]
   exact FB (t:=t) hy hr he hb
  ·cases hs
 case h_13 t x ho=>
  split at h
  ·simp only[acq]at h
   obtain⟨y,hy,rfl⟩:=h
   simp only[cb]at hs
   split at hs
   ·rename_i k n hb
    cases hs
    simp only[execOp,ho]
    exact GU hy hr he hb
   ·cases hs
  ·cases h
 case h_14 sr ds x ho=>
  simp only[execOp,ho]
  split at h
  ·cases h
  ·rename_i y hy
   split at h
   ·rename_i j k h1 h2
    cases h
    simp only[cb]at hs
    split at hs
    ·rename_i k' n hb
     cases hs
     exact Cq hy h1 h2 hr he hb
    ·cases hs
   ·rename_i h1 h2
    cases h
    simp only[cb]at hs
    split at hs
    ·rename_i b hb
     cases hs
     exact ES hy h1 h2 hr he hb
    ·cases hs
   ·rename_i el h1 h2
    split at h
    ·rename_i h3 h4
     cases h
     simp only[cb,acu,acq,acY]at hs
     obtain⟨L,k1,l,k2,rfl,rfl⟩:=hs
     exact A6 hy h1 h3 h2 hr he k1 k2
    ·cases h
   ·rename_i el h1 h2
    split at h
    ·rename_i h3 h4
     cases h
     simp only[cb]at hs
     split at hs
     ·rename_i b hb
      cases hs
      obtain⟨val,w',k1,k2⟩:=A5 hy h1 h3 h2 hr he hb
      exact bL.vb k1 k2
     ·cases hs
    ·cases h
   ·cases h
 case h_15 f fs cs ho=>
  rw[cond_eq_ite]at h
  split at h
  ·rename_i hc
   simp only[acq]at h
   obtain⟨ys,hy,rfl⟩:=h
   simp only[cb,acN,acY]at hs
   obtain⟨rfl,rfl⟩:=hs
   simp only[execOp,ho]
   exact GG hc hy hr he
  ·replace h:=aj h
   obtain⟨hc,h⟩:=h
   simp only[acq]at h
   obtain⟨ys,hy,rfl⟩:=h
   simp only[cb,acN,acY]at hs
   obtain⟨rfl,rfl⟩:=hs
   simp only[execOp,ho]
   exact Di hc hy hr he
 case h_16 t l c ho=>
  split at h
  ·rename_i el hel
   split at h
   ·rename_i i z l' c' h1 h2 h3 h4
    replace h:=fa h
    obtain⟨hb,h⟩:=h
    replace h:=aj h
    obtain⟨hz,h⟩:=h
    cases h
    simp only[Bool.or_eq_false_iff,aea,adK]at hb hz
    have hu:C.P.underlying t=some (.slice el):=by
     unfold mF at hel
     split at hel
     ·cases hel;assumption
     ·cases hel
    simp only[cb]at hs
    obtain⟨val,w',r1,r2⟩:=y7 hu h1 h2 hz (by omega) (by omega) hr (aZ h3 he) (aZ h4 he) hs
    simp only[execOp,ho]
    exact bL.vb r1 r2
   ·cases h
  ·cases h
 case h_17 t x lo hi mx ho=>
  simp only[execOp,ho]
  split at h
  ·rename_i x' lo' hi' mx' h1 h2 h3 h4
   split at h
   ·rename_i el hu
    split at h
    ·rename_i n hn
     replace h:=fa h
     obtain⟨hb,h⟩:=h
     cases h
     simp only[cb]at hs
     replace hs:=aj hs
     obtain⟨hc,hs⟩:=hs
     obtain⟨h5,rfl⟩:=map_fst hs
     rcases orElse_some h5 with h5|h5
     rotate_left
     ·exact AF h1 h2 h3 h4 hu hn hr he hc h5
     refine Bh h1 h2 h3 h4 hu hn hr he hc (fun hm=>?_) h5
     cases hi' with
     |some v=>rfl
     |none=>rw[hm]at hb;cases hb
    ·cases h
   ·rename_i hu
    split at h
    ·rename_i hm
     cases h
     have:mx=none:=by
      cases mx with
      |none=>rfl
      |some v=>simp[gA]at h4
     subst this
     simp only[cb]at hs
     split at hs
     ·rename_i b hb
      obtain⟨h5,rfl⟩:=map_fst hs
      exact A3 h1 h2 h3 hu hr he hb h5
     ·cases hs
    ·cases h
   ·cases h
  ·cases h
 case h_18 t x f ho=>
  simp only[execOp,ho]
  split at h
  ·rename_i x' f' h1 h2
   split at h
   ·rename_i n h3
    cases h
    simp only[cb]at hs
    replace hs:=aj hs
    obtain⟨hc,hs⟩:=hs
    obtain⟨h5,rfl⟩:=map_fst hs
    simp only[acu]at h2
    obtain⟨fs,h6,h7⟩:=h2
    exact C2 h1 h6 h7 h3 hr he hc h5
   ·cases h
  ·cases h
 case h_19 t x f ho=>
  simp only[execOp,ho]
  split at h
  ·rename_i x' f' h1 h2
   split at h
   ·rename_i ag n h3 h4
    cases h
    simp only[cb]at hs
    split at hs
    ·rename_i cs hc
     obtain⟨h5,rfl⟩:=map_fst hs
     simp only[acu]at h2
     obtain⟨fs,h6,h7⟩:=h2
     exact EV h1 h6 h7 h3 h4 hr he hc h5
    ·cases hs
   ·cases h
  ·cases h
 case h_20 t x ix ho=>
  simp only[execOp,ho]
  split at h
  ·rename_i x' i' h1 h2
   split at h
   ·rename_i el hu
    split at h
    ·rename_i n hn
     cases h
     simp only[cb]at hs
     replace hs:=aj hs
     obtain⟨hc,hs⟩:=hs
     obtain⟨h5,rfl⟩:=map_fst hs
     exact Ba h1 h2 hu hn hr he hc h5
    ·cases h
   ·rename_i len el hu
    split at h
    ·rename_i n hn
     cases h
     simp only[cb]at hs
     replace hs:=aj hs
     obtain⟨hc,hs⟩:=hs
     simp only[acu]at hs
     obtain⟨i,h3,hs⟩:=hs
     obtain⟨h5,rfl⟩:=map_fst hs
     exact AI h1 h2 hu hn hr he hc h3 h5
    ·cases h
   ·cases h
  ·cases h
 case h_21 t x ix ho=>
  simp only[execOp,ho]
  split at h
  ·rename_i x' i' h1 h2
   split at h
   ·rename_i len el hu
    split at h
    ·rename_i ag n h3 h4
     cases h
     simp only[cb]at hs
     split at hs
     ·rename_i cs hc
      simp only[acu]at hs
      obtain⟨i,h6,hs⟩:=hs
      obtain⟨h5,rfl⟩:=map_fst hs
      exact BJ h1 h2 hu h3 h4 hr he hc h6 h5
     ·cases hs
    ·cases h
   ·rename_i hu
    cases h
    simp only[cb]at hs
    split at hs
    ·rename_i b hc
     simp only[acu,acq,acY]at hs
     obtain⟨i,h6,y,h7,rfl,rfl⟩:=hs
     exact Bm h1 h2 hu hr he hc h6 h7
    ·cases hs
   ·cases h
  ·cases h
 case h_22 x i ho=>
  simp only[acq]at h
  obtain⟨y,hy,rfl⟩:=h
  simp only[cb]at hs
  split at hs
  ·rename_i vs hb
   obtain⟨h4,rfl⟩:=map_fst hs
   simp only[execOp,ho]
   exact yT hy hr he hb h4
  ·cases hs
 case h_23 c ho=>
  unfold pM at h
  split at h
  ·split at h
   ·cases h;cases hs
   ·cases h
  ·cases h
  ·rename_i b hb
   have hx:∃cs,execOp a.eval o=builtin b c.argTypes o.type cs (c.args.map a.eval):=⟨_,by simp only[execOp,ho,resolve,hb];rfl⟩
   obtain⟨cs,hx⟩:=hx
   rw[hx]
   split at h
   ·cases h
   ·rename_i xs hxs
    split at h
    ·rename_i y
     obtain⟨x,hx1,hy⟩:=sQ hxs
     rw[hx1]
     simp only[afd,ada,aeK]
     split at h
     ·rename_i hu
      cases h
      simp only[acu]at hu
      obtain⟨t0,h0,hu⟩:=hu
      simp only[cb]at hs
      split at hs
      ·rename_i b hbb
       cases hs
       exact Hu (ty:=o.type) hy h0 hu hr he hbb
      ·cases hs
     ·rename_i el hu
      cases h
      simp only[acu]at hu
      obtain⟨t0,h0,hu⟩:=hu
      simp only[cb]at hs
      replace hs:=aj hs
      obtain⟨hc,hs⟩:=hs
      rw[acq]at hs
      obtain⟨n,h1,hs⟩:=hs
      cases hs
      exact Hm (ty:=o.type) hy h0 hu hr he hc h1
     ·rename_i n el hu
      cases h
      simp only[acu]at hu
      obtain⟨t0,h0,hu⟩:=hu
      simp only[cb,acN,acY]at hs
      obtain⟨rfl,rfl⟩:=hs
      exact FY (ty:=o.type) h0 hu hr
     ·cases h
    ·split at h
     ·cases h
      obtain⟨h1,rfl⟩:=map_fst hs
      exact Ji hxs hr he h1
     ·cases h
    ·split at h
     ·cases h
      obtain⟨h1,rfl⟩:=map_fst hs
      exact Kb hxs hr he h1
     ·cases h
    ·rename_i y z
     obtain⟨x,x',hx1,hy,hy'⟩:=tc hxs
     rw[hx1]
     simp only[afd,ada,aeK]
     split at h
     ·rename_i el el' h1 h2
      split at h
      ·rename_i i hi
       replace h:=fa h
       obtain⟨hb,h⟩:=h
       simp only[Bool.or_eq_false_iff,aea]at hb
       split at h
       ·rename_i zl hzl
        replace h:=aj h
        obtain⟨hz,h⟩:=h
        cases h
        simp only[adK]at hz
        simp only[acu]at h1 h2
        obtain⟨t0,h0,h1⟩:=h1
        obtain⟨t1,h3,h2⟩:=h2
        obtain⟨i',v,hi',hv,k1,k2⟩:=gB (w:=w) (F:=F) (ρ:=ρ) hzl
        rw[hi]at hi';cases hi'
        simp only[cb,acu]at hs
        obtain⟨X,hX,hs⟩:=hs
        have hT:FE C.P c.argTypes el i.size i v:=⟨⟨t0,h0,rX h1⟩,⟨t1,el',h3,h2⟩,hi,rfl,hv,by omega,by omega,by omega⟩
        obtain⟨val,w',r1,r2⟩:=Bo hT (ty:=o.type) hr (aZ hy he) (aZ hy' he) hX hs
        exact bL.vb r1 r2
       ·cases h
      ·cases h
     ·cases h
    ·rename_i y z
     obtain⟨x,x',hx1,hy,hy'⟩:=tc hxs
     rw[hx1]
     simp only[afd,ada,aeK]
     split at h
     ·rename_i el el' h1 h2
      split at h
      ·rename_i n hn
       cases h
       simp only[acu]at h1 h2
       obtain⟨t0,h0,h1⟩:=h1
       simp only[cb,acu]at hs
       obtain⟨X,hX,hs⟩:=hs
       obtain⟨val,w',r1,r2⟩:=Hf (ty:=o.type) h0 (rX h1) hn (by omega) hr (aZ hy he) (aZ hy' he) hX hs
       exact bL.vb r1 r2
      ·cases h
     ·cases h
    ·rename_i y
     obtain⟨x,hx1,hy⟩:=sQ hxs
     rw[hx1]
     simp only[afd,ada,aeK]
     split at h
     ·rename_i el h1
      split at h
      ·rename_i zh zt hz
       cases h
       simp only[acu]at h1
       obtain⟨t0,h0,h1⟩:=h1
       simp only[cb]at hs
       obtain⟨val,w',r1,r2⟩:=Ei (ty:=o.type) h0 (rX h1) hz (by simp) hr (aZ hy he) hs
       exact bL.vb r1 r2
      ·cases h
     ·cases h
    ·cases h
 case h_24 t ho=>
  cases h
  simp only[cb,acN,acY]at hs
  obtain⟨rfl,rfl⟩:=hs
  simp only[execOp,ho]
  exact CI hr t
 case h_25 t m k v ho=>
  simp only[execOp,ho]
  split at h
  ·rename_i q el m' k' v' h1 h2 h3 h4
   cases h
   simp only[cb]at hs
   exact vQ h1 h2 h3 h4 hr he hs
  ·cases h
 case h_26 t m k v ho=>
  simp only[execOp,ho]
  split at h
  ·rename_i q el m' k' v' h1 h2 h3 h4
   cases h
   simp only[cb]at hs
   exact vQ h1 h2 h3 h4 hr he hs
  ·cases h
 case h_27 t m k ok ho=>
  simp only[execOp,ho]
  split at h
  ·rename_i q el m' k' h1 h2 h3
   simp only[acq]at h
   obtain⟨z,hz,rfl⟩:=h
   simp only[cb]at hs
   exact CL h1 hz h2 h3 hr he hs
  ·cases h
 case h_28=>cases h
end
end
section
abbrev WF(ro:Option Nat):Fence:={fn:=fun _=>True,depth:=none,alive:=false,round:=ro}
def iA(w:World)(F:Nat→Prop)(ρ:Map)(xs:List SV)(args:Array Value):Prop:=xs.length=args.size∧∀(j:Nat) c v,xs[j]?=some c→args[j]?=some v→VR w F ρ c v
def EK(C:Ctx)(rec:Rec):Prop:=∀f xs H v H',rec (.fn f) xs H=some (v,H')→∀(ρ:Map) (F:Nat→Prop) (w:World) (args:Array Value),HR C ρ F H w→iA w F ρ xs args→
 (callFunc f args).run C.P w=.ok (.enter f args) w∧∀n,CallsIn Fence.wide n C.P f args w (fun e w'=>∃val,e=.returned val∧dJ C ρ F H w v H' val w')
def Ir(C:Ctx)(rec:Rec):Prop:=∀b xs H v H',rec (.fP b) xs H=some (v,H')→∀(ρ:Map) (F:Nat→Prop) (w:World) (args:Array Value) (l:Loc),HR C ρ F H w→iA w F ρ xs args→ρ b=some l→
 ∃f tmps as1 bd,(Instr.yield l.cm args).run C.P w=.ok (.round l.cm f tmps as1 bd) w∧∀n,RoundIn Fence.wide n C.P l.cm f tmps as1 bd w (fun e w'=>∃val,e=.returned val∧dJ C ρ F H w v H' val w')
def EU(C:Ctx)(rec:Rec):Prop:=∀f xs H v H',rec (.se f) xs H=some (v,H')→∀(ρ:Map) (F:Nat→Prop) (w:World) (args:Array Value),HR C ρ F H w→iA w F ρ xs args→
 (callFunc f args).run C.P w=.ok (.enter f args) w∧∀n,CallsIn Fence.wide n C.P f args w (fun e w'=>∃val,e=.returned val∧dJ C ρ F H w v H' val w')
structure fW(C:Ctx)(rec:Rec):Prop where
 call:EK C rec
 Xd:EU C rec
 fP:Ir C rec
section
variable{C:Ctx}{ρ:Map}{F:Nat→Prop}{H H':ab}{w:World}{e:Env}{a:Act}{s c d:SV}
theorem kI{xs ys:List SV}{vs ws:Array Value}(h:iA w F ρ xs vs)(h':iA w F ρ ys ws):iA w F ρ (xs++ys) (vs++ws):=by
 refine⟨by simp[h.1,h'.1],fun j c v hc hv=>?_⟩
 rw[adV]at hc
 rw[Array.getElem?_append]at hv
 rw[h.1]at hc
 split at hc
 ·rename_i hlt
  rw[if_pos hlt]at hv
  exact h.2 j c v hc hv
 ·rename_i hlt
  rw[if_neg hlt]at hv
  exact h'.2 _ c v hc hv
theorem gm{o:Oper}{op:mi}(h:oW C.P o.op=some op):∀c,o.op≠.defer c:=by
 intro c hc
 rw[hc]at h
 simp[oW]at h
theorem qu{P:Program}{o:Op}{f:bX}{xs:List bX}(h:oW P o=some (.call f xs)):∃c,o=.call c∧pM P c=some (.call f xs):=by
 unfold oW at h
 split at h
 case h_23 c=>exact⟨c,rfl,h⟩
 all_goals (repeat' split at h)
 all_goals (first|(cases h;done)|(obtain⟨_,_,h2⟩:=nN h;cases h2;done)|(simp[acq,cond_eq_ite]at h;done)|(simp only[cond_eq_ite]at h;repeat' split at h;all_goals (first|(cases h;done)|(simp[acq]at h;done))))
theorem FM{P:Program}{o:Op}{f:FuncId}{m:Nat}{xs:List bX}(h:oW P o=some (.eL f m xs)):False:=by
 unfold oW at h
 split at h
 case h_23 c=>
  unfold pM at h
  repeat' split at h
  all_goals (first|(cases h;done)|(simp[acq,cond_eq_ite]at h;done)|(repeat' split at h) )
  all_goals (first|(cases h;done)|(simp[acq,cond_eq_ite]at h;done))
 all_goals (repeat' split at h)
 all_goals (first|(cases h;done)|(obtain⟨_,_,h2⟩:=nN h;cases h2;done)|(simp[acq,cond_eq_ite]at h;done)|(simp only[cond_eq_ite]at h;repeat' split at h;all_goals (first|(cases h;done)|(simp[acq]at h;done))))
theorem GW{P:Program}{o:Op}{f:FuncId}{xs:List bX}(h:oW P o=some (.lu f xs)):False:=by
 unfold oW at h
 split at h
 case h_23 c=>
  unfold pM at h
  repeat' split at h
  all_goals (first|(cases h;done)|(simp[acq,cond_eq_ite]at h;done)|(repeat' split at h) )
  all_goals (first|(cases h;done)|(simp[acq,cond_eq_ite]at h;done))
 all_goals (repeat' split at h)
 all_goals (first|(cases h;done)|(obtain⟨_,_,h2⟩:=nN h;cases h2;done)|(simp[acq,cond_eq_ite]at h;done)|(simp only[cond_eq_ite]at h;repeat' split at h;all_goals (first|(cases h;done)|(simp[acq]at h;done))))
theorem mV{P:Program}{c:Call}{f:bX}{xs:List bX}(h:pM P c=some (.call f xs)):∃g,c.callee=.value g∧bA g=some f∧jo c.args=some xs:=by
 unfold pM at h
 split at h
 ·rename_i g hg
  split at h
  ·rename_i f' xs' h1 h2
   cases h
   exact⟨g,hg,h1,h2⟩
  ·cases h
 ·cases h
 ·exfalso
  repeat' split at h
  all_goals (first|(cases h;done)|(simp[acq,cond_eq_ite]at h;done)|(repeat' split at h) )
  all_goals (first|(cases h;done)|(simp[acq,cond_eq_ite]at h;done))
theorem Dt{rec:Rec}(hrec:fW C rec){o:Oper}{f:FuncId}{m:Nat}{xs:List bX}(ed:oW C.P o.op=some (.call (.c (.fn f [])) xs))(hs:rec (.se f) (xs.map (ev e)) H=some (s,H'))(hr:HR C ρ F H w)(he:ER w F ρ e a.tmps)
 {ro:Option Nat} {n:Nat} {K:Act→World→Prop} {Q:Exit→Act→World→Prop} (hK:∀val w',dJ C ρ F H w s H' val w'→K (a.put o.dst val) w'):o.wpIn (WF ro) n C.P a w K Q:=by
 refine⟨fun _ _=>trivial,?_⟩
 rw[Oper.semAt_eq _ _ _ (gm ed)]
 obtain⟨c,ho,hcc⟩:=qu ed
 obtain⟨g,hg,hf,hxs⟩:=mV hcc
 obtain⟨hn,hv⟩:=jm hxs he
 have hargs:iA w F ρ (xs.map (ev e)) (c.args.map a.eval):=⟨by simpa using hn,hv⟩
 have hgv:=aZ hf he
 simp only[ev]at hgv
 have hx0:execOp a.eval o=(do let d←Deferred.ofValue (a.eval g) (c.args.map a.eval);invoke d.target d.args):=by
  simp only[execOp,ho,resolve,hg]
 generalize hgval:a.eval g=gv at *
 cases hgv with
 |fn hn2 hv2=>
  rename_i vs
  have hvs:vs= #[]:=aew (by simpa using hn2.symm)
  subst hvs
  obtain⟨h1,h2⟩:=hrec.Xd _ _ _ _ _ hs ρ F w _ hr hargs
  rw[hx0]
  have hx:(do let d←Deferred.ofValue (Value.func (.func f) #[] #[]) (c.args.map a.eval);invoke d.target d.args:Sem Next)=callFunc f (c.args.map a.eval):=by
   simp[Deferred.ofValue,invoke]
  rw[hx,h1]
  refine⟨fun h=>by simp at h,CallsIn.mono (h2 _) (fun e' w' he'=>?_)⟩
  obtain⟨val,rfl,hd⟩:=he'
  exact hK val w' hd
theorem ED{rec:Rec}(hrec:fW C rec){o:Oper}{op:mi}(ed:oW C.P o.op=some op)(hs:au rec e H op=some (s,H'))(hr:HR C ρ F H w)(he:ER w F ρ e a.tmps)
 {ro:Option Nat} {n:Nat} {K:Act→World→Prop} {Q:Exit→Act→World→Prop} (hK:∀val w',dJ C ρ F H w s H' val w'→K (a.put o.dst val) w'):o.wpIn (WF ro) n C.P a w K Q:=by
 refine⟨fun _ _=>trivial,?_⟩
 rw[Oper.semAt_eq _ _ _ (gm ed)]
 by_cases hc:∃f xs,op=.call f xs
 ·obtain⟨f,xs,rfl⟩:=hc
  obtain⟨c,ho,hcc⟩:=qu ed
  obtain⟨g,hg,hf,hxs⟩:=mV hcc
  obtain⟨hn,hv⟩:=jm hxs he
  have hargs:iA w F ρ (xs.map (ev e)) (c.args.map a.eval):=⟨by simpa using hn,hv⟩
  have hgv:=aZ hf he
  simp only[au]at hs
  unfold kY at hs
  have key:∀(S:Sem Next),(execOp a.eval o)=(do let d←Deferred.ofValue (a.eval g) (c.args.map a.eval);invoke d.target d.args):=fun _=>by
   simp only[execOp,ho,resolve,hg]
  split at hs
  ·rename_i f' cs hfn
   rw[hfn]at hgv
   generalize hgval:a.eval g=gv at *
   cases hgv with
   |fn hn2 hv2=>
    rename_i vs
    have ha:=kI hargs ⟨hn2,hv2⟩
    obtain⟨h1,h2⟩:=hrec.call _ _ _ _ _ hs ρ F w _ hr ha
    rw[key (execOp a.eval o)]
    have hx:(do let d←Deferred.ofValue (Value.func (.func f') #[] vs) (c.args.map a.eval);invoke d.target d.args:Sem Next)=callFunc f' (c.args.map a.eval++vs):=by
     simp[Deferred.ofValue,invoke]
    rw[hx,h1]
    refine⟨fun h=>by simp at h,CallsIn.mono (h2 _) (fun e' w' he'=>?_)⟩
    obtain⟨val,rfl,hd⟩:=he'
    exact hK val w' hd
  ·rename_i f' cs hfn
   rw[hfn]at hgv
   generalize hgval:a.eval g=gv at *
   cases hgv with
   |pO hn2 hv2=>
    rename_i vs
    have ha:=kI ⟨hn2,hv2⟩ hargs
    obtain⟨h1,h2⟩:=hrec.call _ _ _ _ _ hs ρ F w _ hr ha
    rw[key (execOp a.eval o)]
    have hx:(do let d←Deferred.ofValue (Value.func (.func f') vs #[]) (c.args.map a.eval);invoke d.target d.args:Sem Next)=callFunc f' (vs++c.args.map a.eval):=by
     simp[Deferred.ofValue,invoke]
    rw[hx,h1]
    refine⟨fun h=>by simp at h,CallsIn.mono (h2 _) (fun e' w' he'=>?_)⟩
    obtain⟨val,rfl,hd⟩:=he'
    exact hK val w' hd
  ·rename_i b hfn
   rw[hfn]at hgv
   generalize hgval:a.eval g=gv at *
   cases hgv with
   |fP h ha=>
    rename_i l
    obtain⟨f',tmps,as1,bd,h1,h2⟩:=hrec.fP _ _ _ _ _ hs ρ F w _ l hr hargs h
    rw[key (execOp a.eval o)]
    have hx:(do let d←Deferred.ofValue (Value.func (.yield l.cm) #[] #[]) (c.args.map a.eval);invoke d.target d.args:Sem Next)=Instr.yield l.cm (c.args.map a.eval):=by
     simp[Deferred.ofValue,invoke]
    rw[hx,h1]
    refine⟨fun h=>by simp at h,RoundIn.mono (h2 _) (fun e' w' he'=>?_)⟩
    obtain⟨val,rfl,hd⟩:=he'
    exact hK val w' hd
  ·cases hs
 ·have hs':cb e H op=some (s,H'):=by
   unfold au at hs
   split at hs
   ·exact absurd ⟨_,_,rfl⟩ hc
   ·rename_i f m xs
    exfalso
    exact FM ed
   ·rename_i f xs
    exfalso
    exact GW ed
   ·exact hs
  obtain⟨val,w',h1,h2⟩:=z6 ed hr he hs'
  rcases h1 with h1|⟨h1,rfl⟩
  ·rw[h1];exact hK _ _ h2
  ·rw[h1];exact hK _ _ h2
end
end
end Go.Sh
