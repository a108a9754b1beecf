/- A part of the proof: texts ShEw, ShIn, ShLaw, ShFu, ShLp, ShStd, ShAb. -/
import Derived.OpenShut
import Derived.WalkKit
import Derived.ProofKit
import Derived.ReadAgain
import Derived.Handed
import Derived.JoinedOf
import Derived.Test.YtcfgikdpokjhpaaGreatB2
namespace Go.Sh
set_option linter.unusedSectionVars false
set_option linter.unnecessarySimpa false
set_option linter.unusedSimpArgs false
set_option linter.unusedVariables false
set_option maxRecDepth 100000
set_option maxHeartbeats 4000000
section
section
variable(rec:Rec)(e:Env)(H:ab)
@[go_sem] theorem P0 (x):aq rec e H (.eb x)=some (ev e x,H):=Eq.trans rfl rfl
@[go_sem] theorem O4 (c a b):aq rec e H (.pick c a b)=(ke (ev e c) (ev e a) (ev e b)).map (·,H):=Eq.trans rfl rfl
@[go_sem] theorem QI (x):aq rec e H (.box x)=(cm (ev e x)).map fun cs=>(.ptr H.bl.length 0 0 0,bH H (.box cs)):=Eq.trans rfl rfl
@[go_sem] theorem Nf (z):aq rec e H (.alloc z)=some (.ptr H.bl.length 0 0 0,bH H (.box z)):=Eq.trans rfl rfl
@[go_sem] theorem Mr (z ps):aq rec e H (.build z ps)=(gE (ev e) z ps).map (.agg ·,H):=Eq.trans rfl rfl
@[go_sem] theorem Jd (bP z n ps):aq rec e H (.fB bP z n ps)=(eJ (ev e) bP (List.replicate n z) ps).map fun L=>(.bp H.bl.length 0 0 n,bH H (.arr 0 bP L true)):=Eq.trans rfl rfl
@[go_sem] theorem JV (bP z n ps):aq rec e H (.dW bP z n ps)=aN (eJ (ev e) bP (List.replicate n z) ps) (fun L=>bif SV.refs.au L.flatten==0 then some (.aA bP L true,H)else none) ():=by
  simp only[aq,b9]
  cases eJ (ev e) bP (List.replicate n z) ps with
  |none=>rfl
  |some L=>simp only[ZV,aN];cases(SV.refs.au L.flatten==0)<;>rfl
@[go_sem] theorem NW (ag n a):aq rec e H (.load ag n a)=(cW ag n H (ev e a)).map (·,H):=Eq.trans rfl rfl
@[go_sem] theorem M6 (n a x):aq rec e H (.store n a x)=(dP n H (ev e x) (ev e a)).map (.undef,·):=Eq.trans rfl rfl
@[go_sem] theorem Iy (x):aq rec e H (.dS x)=bif cur H (ev e x)then(kr (ev e x)).map (·,H)else none:=Eq.trans rfl rfl
@[go_sem] theorem RX (op x y):aq rec e H (.bin op x y)=(cL op (ev e x) (ev e y)).map (·,H):=Eq.trans rfl rfl
@[go_sem] theorem Po (op x y):aq rec e H (.qf op x y)=(n8 op (ev e x) (ev e y)).map (·,H):=Eq.trans rfl rfl
def wg(neg:Bool)(sh:List LK)(H:ab):SV→SV→Option (SV×ab)
 | .agg a,.agg b=>(bw sh a b).map fun r=>(.bool (neg ^^ r),H)
 |_,_=>none
@[go_sem] theorem Mq (neg sh x y):aq rec e H (.dH neg sh x y)=wg neg sh H (ev e x) (ev e y):=by
  simp only[aq,b9,wg]
  split<;>simp_all
@[go_sem] theorem GD (neg sh a b):wg neg sh H (.agg a) (.agg b)=(bw sh a b).map fun r=>(.bool (neg ^^ r),H):=Eq.trans rfl rfl
def BA(H:ab):SV→Option (SV×ab)
 | .bool b=>some (.bool (!b),H)
 |_=>none
@[go_sem] theorem Ps (x):aq rec e H (.dQ x)=BA H (ev e x):=by simp only[aq,b9,BA];split<;>simp_all
@[go_sem] theorem HA (b):BA H (.bool b)=some (.bool (!b),H):=Eq.trans rfl rfl
def zY(H:ab):SV→Option (SV×ab)
 | .int k n=>some (.int k (k.wrap (0-n)),H)
 |_=>none
@[go_sem] theorem N2 (x):aq rec e H (.vi x)=zY H (ev e x):=by simp only[aq,b9,zY];split<;>simp_all
@[go_sem] theorem IZ (k n):zY H (.int k n)=some (.int k (k.wrap (0-n)),H):=Eq.trans rfl rfl
def wO(k:IntKind)(H:ab):SV→Option (SV×ab)
 | .int _ n=>some (.int k (k.wrap n),H)
 |_=>none
@[go_sem] theorem MI (k x):aq rec e H (.cq k x)=wO k H (ev e x):=by simp only[aq,b9,wO];split<;>simp_all
@[go_sem] theorem HN (k k2 n):wO k H (.int k2 n)=some (.int k (k.wrap n),H):=Eq.trans rfl rfl
@[go_sem] theorem Pn (f cs):aq rec e H (.gV f cs)=some (.fn f (cs.map (ev e)),H):=Eq.trans rfl rfl
@[go_sem] theorem LP (f cs):aq rec e H (.kX f cs)=some (.oC f (cs.map (ev e)),H):=Eq.trans rfl rfl
@[go_sem] theorem HH (bP z bytes l c):aq rec e H (.dJ bP z bytes l c)=mF bP z bytes H (ev e l) (ev e c):=Eq.trans rfl rfl
@[go_sem] theorem IJ (bP x lo hi mx):aq rec e H (.gU bP x lo hi mx)=bif dY H bP (ev e x)then((lV (ev e x) (lo.map (ev e)) (hi.map (ev e)) (mx.map (ev e))).orElse fun _=>im H (ev e x) (lo.map (ev e)) (hi.map (ev e)) (mx.map (ev e))).map (·,H)else none:=Eq.trans rfl rfl
@[go_sem] theorem MG (off x):aq rec e H (.ai off x)=bif cur H (ev e x)then(eY off (ev e x)).map (·,H)else none:=Eq.trans rfl rfl
def vO(ag:Bool)(n off:Nat)(H:ab):SV→Option (SV×ab)
 | .agg cs=>(cS ag n cs off).map (·,H)
 |_=>none
@[go_sem] theorem MA (ag n off x):aq rec e H (.field ag n off x)=vO ag n off H (ev e x):=by simp only[aq,b9,vO];split<;>simp_all
@[go_sem] theorem Gs (ag n off cs):vO ag n off H (.agg cs)=(cS ag n cs off).map (·,H):=Eq.trans rfl rfl
@[go_sem] theorem Iv (bP x ix):aq rec e H (.bu bP x ix)=bif dY H bP (ev e x)then(iq (ev e x) (ev e ix)).map (·,H)else none:=Eq.trans rfl rfl
@[go_sem] theorem Ji (len bP x ix):aq rec e H (.gj len bP x ix)=bif cur H (ev e x)then(iD len (ev e ix)).bind fun i=>(eY (i*bP) (ev e x)).map (·,H)else none:=Eq.trans rfl rfl
def AI(i:Nat)(H:ab):SV→Option (SV×ab)
 | .ba vs=>(vs[i]?).map (·,H)
 |_=>none
@[go_sem] theorem HW (x i):aq rec e H (.extract x i)=AI i H (ev e x):=by simp only[aq,b9,AI];split<;>simp_all
@[go_sem] theorem ID (i vs):AI i H (.ba vs)=(vs[i]?).map (·,H):=Eq.trans rfl rfl
@[go_sem] theorem QM (x):aq rec e H (.len x)=bif cur H (ev e x)then(oM (ev e x)).map fun(n:Nat)=>(.int .i64 n,H)else none:=Eq.trans rfl rfl
def tn(H:ab)(ix:SV):SV→Option (SV×ab)
 | .str s=>(iD s.size ix).bind fun i=>(s.data[i]?).map fun b=>(.int .u8 b.toNat,H)
 |_=>none
@[go_sem] theorem Iw (x ix):aq rec e H (.fJ x ix)=tn H (ev e ix) (ev e x):=by simp only[aq,b9,tn];split<;>simp_all
@[go_sem] theorem Fv (ix s):tn H ix (.str s)=(iD s.size ix).bind fun i=>(s.data[i]?).map fun b=>(.int .u8 b.toNat,H):=Eq.trans rfl rfl
@[go_sem] theorem IP (x):aq rec e H (.jq x)=(nr 1 H (ev e x)).bind fun L=>(toBytes L).map fun l=>(.str ⟨l.toArray⟩,H):=Eq.trans rfl rfl
def A5(H:ab):SV→Option (SV×ab)
 | .str s=>some (.int .i64 s.size,H)
 |_=>none
@[go_sem] theorem NO (x):aq rec e H (.fw x)=A5 H (ev e x):=by simp only[aq,b9,A5];split<;>simp_all
@[go_sem] theorem Jl (s):A5 H (.str s)=some (.int .i64 s.size,H):=Eq.trans rfl rfl
theorem Gt:(fun a b:Int=>if b>a then b else a)=max:=by funext a b;simp only[Int.max_def];split<;>split<;>omega
theorem Gf:(fun a b:Int=>if b<a then b else a)=min:=by funext a b;simp only[Int.min_def];split<;>split<;>omega
@[go_sem] theorem N6 (xs):aq rec e H (.jM xs)=(jU max (xs.map (ev e))).map (·,H):=by rw[←Gt];rfl
@[go_sem] theorem O5 (xs):aq rec e H (.mW xs)=(jU min (xs.map (ev e))).map (·,H):=by rw[←Gf];rfl
@[go_sem] theorem MV (f xs):aq rec e H (.iW f xs)=aN (bN ((xs.map (ev e)).map (ec 0 H cA))) (fun vs=>aN (rec (.fn f) vs ⟨[],[],0⟩) (fun r=>bif wG r.1 then some (r.1,H)else none) ()) ():=by
  simp only[aq,rP]
  cases bN ((xs.map (ev e)).map (ec 0 H cA))with
  |none=>rfl
  |some vs=>simp only[ZV,aN];cases rec (.fn f) vs ⟨[],[],0⟩<;>rfl
@[go_sem] theorem S2 (vs):wG (.ba vs)=vs.all jG:=Eq.trans rfl rfl
@[go_sem] theorem OR (k n):jG (.int k n)=true:=Eq.trans rfl rfl
@[go_sem] theorem JJ (b):jG (.bool b)=true:=Eq.trans rfl rfl
@[go_sem] theorem K8 (f n xs):aq rec e H (.eE f n xs)=rec (.rW f) (xs.map (ev e)) H:=Eq.trans rfl rfl
@[go_sem] theorem or_some {A:Type}(x:A)(f:Unit→Option A):(some x).orElse f=some x:=Eq.trans rfl rfl
@[go_sem] theorem OW (z L f lo hi):lV (.aA z L f) lo hi none=(gd L.length L.length hi).bind fun h=>(gd h 0 lo).map fun l=>.aA z ((L.take h).drop l) (f&&h==L.length):=Eq.trans rfl rfl
@[go_sem] theorem Ol (y d):gd y d none=some d:=Eq.trans rfl rfl
@[go_sem] theorem Qa (y d k i):gd y d (some (.int k i))=bif decide (0≤i)&&decide (i≤(y:Int))then some i.toNat else none:=Eq.trans rfl rfl
@[go_sem] theorem K7 (k neg x):aq rec e H (.isNil k neg x)=(fG H k (ev e x)).map fun b=>(.bool (neg ^^ b),H):=Eq.trans rfl rfl
@[go_sem] theorem Uf (b v i o):fG H .p (.ptr b v i o)=bif cur H (.ptr b v i o)then some false else none:=Eq.trans rfl rfl
@[go_sem] theorem Jj (bP bytes s x):aq rec e H (.append bP bytes s x)=(nr bP H (ev e x)).bind (gn bP bytes H (ev e s)):=Eq.trans rfl rfl
@[go_sem] theorem Px (f xs):aq rec e H (.call f xs)=j6 rec (ev e f) (xs.map (ev e)) H:=Eq.trans rfl rfl
@[go_sem] theorem Vw (f cs xs):j6 rec (.fn f cs) xs H=rec (.fn f) (xs++cs) H:=Eq.trans rfl rfl
@[go_sem] theorem Qx (f cs xs):j6 rec (.oC f cs) xs H=rec (.fn f) (cs++xs) H:=Eq.trans rfl rfl
@[go_sem] theorem UF (b xs):j6 rec (.fp b) xs H=rec (.fp b) xs H:=Eq.trans rfl rfl
@[go_sem] theorem Vn (f cs xs):ov rec (.fn f cs) xs H=rec (.fn f) (xs++cs) H:=Eq.trans rfl rfl
end
section
variable(k:IntKind)(a b:Int)
@[go_sem] theorem Sy:cL .add (.int k a) (.int k b)=some (.int k (k.wrap (a+b))):=by simp[cL]
@[go_sem] theorem Sq:cL .sub (.int k a) (.int k b)=some (.int k (k.wrap (a-b))):=by simp[cL]
@[go_sem] theorem TC:cL .mul (.int k a) (.int k b)=some (.int k (k.wrap (a*b))):=by simp[cL]
@[go_sem] theorem Ux:cL .quo (.int k a) (.int k b)=bif !decide (b=0)then some (.int k (k.wrap (a.tdiv b)))else none:=by simp[cL]
@[go_sem] theorem QB:cL .rem (.int k a) (.int k b)=bif !decide (b=0)then some (.int k (a.tmod b))else none:=by simp[cL]
@[go_sem] theorem U3:cL .lss (.int k a) (.int k b)=some (.bool (decide (a<b))):=by simp[cL]
@[go_sem] theorem TY:cL .leq (.int k a) (.int k b)=some (.bool (decide (a≤b))):=by simp[cL]
@[go_sem] theorem Rl:cL .gtr (.int k a) (.int k b)=some (.bool (decide (b<a))):=by simp[cL]
@[go_sem] theorem Vf:cL .geq (.int k a) (.int k b)=some (.bool (decide (b≤a))):=by simp[cL]
@[go_sem] theorem Uo:cL .eql (.int k a) (.int k b)=some (.bool (decide (a=b))):=by simp[cL]
@[go_sem] theorem QV:cL .neq (.int k a) (.int k b)=some (.bool (!decide (a=b))):=by simp[cL]
@[go_sem] theorem SB:cL .and (.int k a) (.int k b)=some (.int k (k.wrap ((BitVec.ofInt k.bits a&&&BitVec.ofInt k.bits b).toNat))):=by simp[cL]
@[go_sem] theorem VP:cL .or (.int k a) (.int k b)=some (.int k (k.wrap ((BitVec.ofInt k.bits a|||BitVec.ofInt k.bits b).toNat))):=by simp[cL]
@[go_sem] theorem Tn (k2):cL .shl (.int k a) (.int k2 b)=bif decide (0≤b)then some (.int k (k.wrap (a*2 ^ (min b.toNat k.bits))))else none:=by simp[cL]
@[go_sem] theorem Ry (k2):cL .shr (.int k a) (.int k2 b)=bif decide (0≤b)then some (.int k (a.fdiv (2 ^ (min b.toNat k.bits))))else none:=by simp[cL]
@[go_sem] theorem Ok (a b:Bool):n8 .neq (.bool a) (.bool b)=some (.bool (!(a==b))):=by simp[n8]
@[go_sem] theorem I9 (c a b:Bool):ke (.bool c) (.bool a) (.bool b)=some (.bool (bif c then a else b)):=by simp[ke]
@[go_sem] theorem La (x):ke (.bool false) .iz x=some x:=by cases x<;>simp[ke]
@[go_sem] theorem IF (x):ke (.bool true) x .iz=some x:=by cases x<;>simp[ke]
@[go_sem] theorem Ti:bw [] [] []=some true:=by simp[bw]
@[go_sem] theorem Yl (sh x y):bw (.i::sh) (.int k a::x) (.int k b::y)=(bw sh x y).map (fun r=>decide (a=b)&&r):=by simp[bw]
@[go_sem] theorem XK (sh x y)(a b:Bool):bw (.b::sh) (.bool a::x) (.bool b::y)=(bw sh x y).map (fun r=>(a==b)&&r):=by simp[bw]
@[go_sem] theorem WT (sh x y)(a b:ByteArray):bw (.s::sh) (.str a::x) (.str b::y)=(bw sh x y).map (fun r=>decide (a=b)&&r):=by simp[bw]
@[go_sem] theorem QA (cs):cm (.agg cs)=some cs:=by simp[cm]
@[go_sem] theorem T7:cm (.int k a)=some [.int k a]:=by simp[cm,SV.iu]
@[go_sem] theorem NV (b):cm (.bool b)=some [.bool b]:=by simp[cm,SV.iu]
@[go_sem] theorem U8 (b):cm (.str b)=some [.str b]:=by simp[cm,SV.iu]
@[go_sem] theorem Sr (z L f):cm (.aA z L f)=some [.aA z L f]:=by simp[cm,SV.iu]
@[go_sem] theorem PS (b v o n):cm (.bp b v o n)=some [.bp b v o n]:=by simp[cm,SV.iu]
@[go_sem] theorem SU (b v o n):cm (.ptr b v o n)=some [.ptr b v o n]:=by simp[cm,SV.iu]
@[go_sem] theorem VX (f cs):cm (.fn f cs)=some [.fn f cs]:=by simp[cm,SV.iu]
@[go_sem] theorem Q9 (n cs o):cS false n cs o=cs[o]?:=by simp[cS]
@[go_sem] theorem Si (n cs o):cS true n cs o=bif decide (o+n≤cs.length)then some (.agg ((cs.drop o).take n))else none:=by simp[cS]
@[go_sem] theorem U9 (ev z):gE ev z []=some z:=by simp[gE]
@[go_sem] theorem NP (ev z off n x ps):gE ev z ((off,n,x)::ps)=(cm (ev x)).bind fun cs=>bif cs.length==n&&decide (off+n≤z.length)then gE ev (fc z off n cs) ps else none:=by simp[gE]
@[go_sem] theorem UE (ev bP z):eJ ev bP z []=some z:=by simp[eJ]
@[go_sem] theorem Oa (ev bP z i x ps):eJ ev bP z ((i,x)::ps)=(cm (ev x)).bind fun cs=>bif cs.length==bP&&decide (i<z.length)then eJ ev bP (z.set i cs) ps else none:=by simp[eJ]
attribute [go_sem] fc
@[go_sem] theorem Ob (f:Int→Int→Int)(r):jU f (.int k a::r)=foldI f a k r:=by simp[jU]
@[go_sem] theorem RW (f:Int→Int→Int):foldI f a k []=some (.int k a):=by simp[foldI]
@[go_sem] theorem O8 (f:Int→Int→Int)(r):foldI f a k (.int k b::r)=foldI f (f a b) k r:=by simp[foldI]
@[go_sem] theorem Te (z L f):oM (.aA z L f)=some L.length:=by simp[oM]
@[go_sem] theorem S5 (b v o n):oM (.bp b v o n)=some n:=by simp[oM]
@[go_sem] theorem Td (H z L f):cur H (.aA z L f)=true:=by simp[cur]
@[go_sem] theorem NX (H L):cur H (.fE L)=true:=by simp[cur]
@[go_sem] theorem QL (H z L f):dY H z (.aA z L f)=true:=by simp[dY]
@[go_sem] theorem Re (off b v i o):eY off (.ptr b v i o)=some (.ptr b v i (o+off)):=by simp[eY]
@[go_sem] theorem O3 (off cs):eY off (.fE cs)=some (.fE (cs.drop off)):=by simp[eY]
@[go_sem] theorem NQ (ag n H cs):cW ag n H (.fE cs)=cS ag n cs 0:=by simp[cW]
@[go_sem] theorem TJ (b v i o):kr (.ptr b v i o)=some (.ptr b v i o):=by simp[kr]
end
def Iq(v:Nat):Option aD→Bool
 |some (.box _)=>true
 |some (.arr v' _ _ _)=>v==v'
 |_=>false
@[go_sem] theorem PO (H b v i o):cur H (.ptr b v i o)=Iq v (bk H b):=by
  simp only[cur,Iq]
  cases bk H b with
  |none=>rfl
  |some x=>cases x<;>rfl
@[go_sem] theorem LG (v cs):Iq v (some (.box cs))=true:=Eq.trans rfl rfl
def Hm(v:Nat):Option aD→Bool
 |some (.arr v' _ _ _)=>v==v'
 |_=>false
@[go_sem] theorem Sw (H b v i o):cur H (.bp b v i o)=Hm v (bk H b):=by
  simp only[cur,Hm]
  cases bk H b with
  |none=>rfl
  |some x=>cases x<;>rfl
@[go_sem] theorem LZ (v v' z L x):Hm v (some (.arr v' z L x))=(v==v'):=Eq.trans rfl rfl
def BN(v z:Nat):Option aD→Bool
 |some (.arr v' z' _ _)=>v==v'&&z'==z
 |_=>false
@[go_sem] theorem Sl (H z b v i o):dY H z (.bp b v i o)=BN v z (bk H b):=by
  simp only[dY,BN]
  cases bk H b with
  |none=>rfl
  |some x=>cases x<;>rfl
@[go_sem] theorem I6 (v z v' z' L x):BN v z (some (.arr v' z' L x))=(v==v'&&z'==z):=Eq.trans rfl rfl
def IX(ag:Bool)(n v i o:Nat):Option aD→Option SV
 |some (.box cs)=>bif i==0 then cS ag n cs o else none
 |some (.arr v' _ L _)=>bif v==v' then(L[i]?).bind fun cs=>cS ag n cs o else none
 |_=>none
@[go_sem] theorem Sb (ag n H b v i o):cW ag n H (.ptr b v i o)=IX ag n v i o (bk H b):=by
  simp only[cW,IX]
  cases bk H b with
  |none=>rfl
  |some x=>
   cases x with
   |arr v' z L ex=>
    cases hv:(v==v')with
    |true=>simp only[hv,Zr];cases L[i]?<;>rfl
    |false=>simp only[hv,Zu]
   |_=>rfl
@[go_sem] theorem NZ (ag n v o cs):IX ag n v 0 o (some (.box cs))=cS ag n cs o:=by simp[IX]
@[go_sem] theorem NR (ag n v i o z L x):IX ag n v i o (some (.arr v z L x))=(L[i]?).bind fun cs=>cS ag n cs o:=by simp[IX]
def Oy(z v off n:Nat):Option aD→Option (List (List SV))
 |some (.arr v' z' L _)=>bif v==v'&&z'==z&&decide (off+n≤L.length)then some ((L.drop off).take n)else none
 |_=>none
@[go_sem] theorem P2 (z H b v off n):nr z H (.bp b v off n)=Oy z v off n (bk H b):=by
  simp only[nr,Oy]
  cases bk H b with
  |none=>rfl
  |some x=>cases x<;>rfl
@[go_sem] theorem Pb (z v off n L x):Oy z v off n (some (.arr v z L x))=bif decide (off+n≤L.length)then some ((L.drop off).take n)else none:=by simp[Oy]
@[go_sem] theorem T2 (z H L f):nr z H (.aA z L f)=some L:=by simp[nr]
attribute [go_sem] bk bH
def Jn(n v i o:Nat)(b:Nat)(H:ab)(xs:List SV)(refs:Nat):Option aD→Option ab
 |some (.box cs)=>bif i==0&&decide (o+n≤cs.length)then cp H b (.box (fc cs o n xs)) refs else none
 |some (.arr v' z L e)=>bif v==v' then(L[i]?).bind fun cs=>bif decide (o+n≤cs.length)then cp H b (.arr v z (L.set i (fc cs o n xs)) e) refs else none else none
 |_=>none
@[go_sem] theorem Ql (n H x b v i o):dP n H x (.ptr b v i o)=(cm x).bind fun xs=>bif xs.length==n then Jn n v i o b H xs x.refs (bk H b)else none:=by
  simp only[dP,Jn]
  congr 1
  funext xs
  cases(xs.length==n)with
  |false=>rfl
  |true=>
   simp only[Zr]
   cases bk H b with
   |none=>rfl
   |some y=>
    cases y with
    |arr v' z L ex=>
     cases hv:(v==v')with
     |true=>simp only[hv,Zr];cases L[i]?<;>rfl
     |false=>simp only[hv,Zu]
    |_=>rfl
@[go_sem] theorem Ov (n v o b H xs r cs):Jn n v 0 o b H xs r (some (.box cs))=bif decide (o+n≤cs.length)then cp H b (.box (fc cs o n xs)) r else none:=by simp[Jn]
@[go_sem] theorem Pd (n v i o b H xs r z L e):Jn n v i o b H xs r (some (.arr v z L e))=(L[i]?).bind fun cs=>bif decide (o+n≤cs.length)then cp H b (.arr v z (L.set i (fc cs o n xs)) e) r else none:=by simp[Jn]
@[go_sem] theorem NY (bl bQ ro b x r):cp ⟨bl,bQ,ro⟩ b x r=bif decide (ro≤b)&&decide (b<bl.length)then some ⟨bl.set b x,bif decide (r≤b+1)then bQ else(b,r)::bQ,ro⟩else none:=by simp[cp]
@[go_sem] theorem MN (k n):(SV.int k n).refs=0:=by simp[SV.refs]
@[go_sem] theorem IQ (n):(SV.bool n).refs=0:=by simp[SV.refs]
@[go_sem] theorem NA (n):(SV.str n).refs=0:=by simp[SV.refs]
@[go_sem] theorem Ku (z L f):(SV.aA z L f).refs=0:=by simp[SV.refs]
@[go_sem] theorem MZ (b v i o):(SV.ptr b v i o).refs=b+1:=by simp[SV.refs]
@[go_sem] theorem NI (b v i o):(SV.bp b v i o).refs=b+1:=by simp[SV.refs]
@[go_sem] theorem Lx (b):(SV.fp b).refs=b+1:=by simp[SV.refs]
@[go_sem] theorem Kp (cs):(SV.agg cs).refs=SV.refs.au cs:=by simp[SV.refs]
@[go_sem] theorem NU (f cs):(SV.fn f cs).refs=SV.refs.au cs:=by simp[SV.refs]
@[go_sem] theorem Nd (f cs):(SV.oC f cs).refs=SV.refs.au cs:=by simp[SV.refs]
@[go_sem] theorem Jm:SV.refs.au []=0:=by simp[SV.refs.au]
@[go_sem] theorem HO (v vs):SV.refs.au (v::vs)=max v.refs (SV.refs.au vs):=by simp[SV.refs.au]
section
variable{T:FuncId→Option aC}{f:FuncId}{F:aC}{xs:List SV}{n:Nat}{H:ab}
def oJ{R:Type}(rs:List u9)(k:SV→ab→Option R):kT→Env→ab→Option R
 | .exit _,_,_=>none
 |_,e,H=>(results1 e H rs).bind fun v=>k v H
@[go_sem] theorem KK {R:Type}(rs)(k:SV→ab→Option R)(e H):oJ rs k .ret e H=aN (results1 e H rs) (fun v=>k v H) ():=by
  show(results1 e H rs).bind _=_
  cases results1 e H rs<;>rfl
@[go_sem] theorem Ff {R:Type}(rs)(k:SV→ab→Option R)(e H):oJ rs k .normal e H=aN (results1 e H rs) (fun v=>k v H) ():=by
  show(results1 e H rs).bind _=_
  cases results1 e H rs<;>rfl
theorem ae{v:SV}(hT:T f=some F)(hp:eA F xs=true)(h:runK (aa T n) (oJ F.res (fun v H'=>ec 0 H' cA v)) F.body [] (dR xs) ah ()=some v):aa T (n+1) (.fn f) xs H=some (v,H):=by
 have hk:∀k:kT→Env→ab→Option SV,k=oJ F.res (fun v H'=>ec 0 H' cA v)→run (aa T n) F.body (dR xs) ah k ()=some v:=by
  intro k hk
  rw[hk,kc]
  exact h
 simp only[aa,hT,hp,Zr]
 rw[hk _ (by funext x e H';cases x<;>rfl)]
 rfl
end
@[go_sem] theorem N0 (e H r):results1 e H [r]=dI e H r:=by
  unfold results1
  cases h:dI e H r<;>simp[bN,h]
@[go_sem] theorem N1 (e H r s):results1 e H [r,s]=(dI e H r).bind fun a=>(dI e H s).map fun b=>.ba [a,b]:=by
  unfold results1
  cases h:dI e H r<;>cases h':dI e H s<;>simp[bN,h,h']
@[go_sem] theorem yR (e H r s q):results1 e H [r,s,q]=(dI e H r).bind fun a=>(dI e H s).bind fun b=>(dI e H q).map fun c=>.ba [a,b,c]:=by
  unfold results1
  cases h1:dI e H r<;>cases h2:dI e H s<;>cases h3:dI e H q<;>simp[bN,h1,h2,h3]
@[go_sem] theorem N4 (e H):results1 e H []=some (.ba []):=by simp[results1,bN]
@[go_sem] theorem Um (e H t):dI e H (.tmp t)=some (get e t):=Eq.trans rfl rfl
@[go_sem] theorem Pk (e H t ag n):dI e H (.cell t ag n)=cW ag n H (get e t):=Eq.trans rfl rfl
@[go_sem] theorem QQ (N H d k n):ec N H (d+1) (.int k n)=some (.int k n):=by simp[ec]
@[go_sem] theorem N9 (N H d b):ec N H (d+1) (.bool b)=some (.bool b):=by simp[ec]
@[go_sem] theorem P7 (N H d z L f):ec N H (d+1) (.aA z L f)=some (.aA z L f):=by simp[ec]
@[go_sem] theorem RS (N H d s):ec N H (d+1) (.str s)=some (.str s):=by simp[ec,SV.refs]
@[go_sem] theorem RI (N H d cs):ec N H (d+1) (.agg cs)=(bN (cs.map (ec N H d))).map .agg:=by simp[ec]
@[go_sem] theorem QP (N H d cs):ec N H (d+1) (.ba cs)=(bN (cs.map (ec N H d))).map .ba:=by simp[ec]
@[go_sem] theorem S8 {A:Type}:bN ([]:List (Option A))=some []:=Eq.trans rfl rfl
@[go_sem] theorem Od {A:Type}(a:A)(r):bN (some a::r)=(bN r).map (a:: ·):=Eq.trans rfl rfl
attribute [go_sem] cA
theorem lU{f:Env×ab→Option Out}:∀(n m:Nat) (s:Env×ab) (o:Out),cI f n s=some o→n≤m→cI f m s=some o
 |0,_,s,o,h,_=>by cases h
 |n+1,0,s,o,h,hm=>by omega
 |n+1,m+1,s,o,h,hm=>by
  have e:∀n,cI f (n+1) s=match f s with|some (.normal,s')=>cI f n s'|r=>r:=fun n=>rfl
  rw[e]at h⊢
  cases hf:f s with
  |none=>rw[hf]at h;exact h
  |some r=>
   obtain⟨x,s'⟩:=r
   rw[hf]at h
   cases x with
   |normal=>exact lU n m s' o h (by omega)
   |exit id=>exact h
   |ret=>exact h
theorem nh{f:Env×ab→Option Out}{s:Env×ab}{o:Out}{n:Nat}(h:cI f n s=some o):ki f s=some o:=by
 unfold ki
 have hex:∃n,(cI f n s).isSome:=⟨n,by simp[h]⟩
 rw[dif_pos hex]
 have h1:=aby hex
 generalize Classical.choose hex=m at h1
 obtain⟨o',ho'⟩:=Option.isSome_iff_exists.1 h1
 have h2:=lU _ (max n m) _ _ h (Nat.le_max_left _ _)
 have h3:=lU _ (max n m) _ _ ho' (Nat.le_max_right _ _)
 rw[h2]at h3
 rw[ho',h3]
theorem EP{R:Type}{f:Env×ab→Option Out}{s:Env×ab}{k:Out→Option R}{t:oR k}{r:Option R}(o:Out)(h:ki f s=some o)(hk:k o=r):aN (ki f s) k t=r:=by
 rw[h];exact hk
theorem gB(p N H0 rec a e H):eP p N H0 rec a (e,H)=aN (dU p N H0 (e,H)) (fun s=>runK rec (fun x e H=>some (x,e,H)) a [] s.1 s.2 ()) ():=by
 unfold eP
 cases dU p N H0 (e,H)<;>rfl
attribute [go_sem] Zx Zw ZZ Z5 ZW ZO abf aax abN List.set_cons_zero List.set_cons_succ
 List.take_succ_cons abr List.take_nil List.drop_succ_cons abi List.drop_nil aaR aa1 abU List.flatten_nil List.isEmpty_nil List.isEmpty_cons
 ZQ abx ZV Option.bind_none aaq abm aa9 ZP Z2 ZJ abn abh aa3 aay aai aaF Bool.not_not
 aaz beq_true beq_false aaN aae Nat.max_self Zp abc Nat.sub_zero ZX List.drop_length abV List.reverse_nil List.zip_cons_cons List.zip_nil_right
@[go_sem] theorem J3 {R:Type}(b:Bool)(x y:R)(t:oR (x,y)):fork (!b) x y t=fork b y x ():=by cases b<;>rfl
@[go_sem] theorem min_zero (n:Nat):min 0 n=0:=Nat.zero_min n
@[go_sem] theorem Fy {A R:Type}(f:A→Option R)(t:oR f):aN none f t=none:=Eq.trans rfl rfl
@[go_sem] theorem IA (N l):cz N [] l=l:=Eq.trans rfl rfl
def bb(n:Int):Int:=IntKind.wrap .i64 n
@[go_sem] theorem Mt (n:Int):IntKind.wrap .i64 n=bb n:=rfl
theorem ao{n:Int}(h1: -9223372036854775808≤n)(h2:n≤9223372036854775807):bb n=n:=by
 unfold bb
 simp only[IntKind.wrap,IntKind.bits,IntKind.signed,ZP,ge_iff_le,Ze]
 split<;>omega
@[go_sem] theorem P8 (a b):cL .neq (.str a) (.str b)=some (.bool (!decide (a=b))):=Eq.trans rfl rfl
@[go_sem] theorem Oi (a b):cL .add (.str a) (.str b)=bif decide (a.size+b.size≤4611686018427387904)then some (.str (a++b))else none:=Eq.trans rfl rfl
attribute [go_sem] ZO abf
section
variable(rec:Rec)(e:Env)(H:ab)
@[go_sem] theorem Mf:aq rec e H .mY=some (.mp H.bl.length,bH H (.map [])):=Eq.trans rfl rfl
@[go_sem] theorem Pg (t x k v):aq rec e H (.mu t x k v)=p8 t H (ev e k) (ev e v) (ev e x):=Eq.trans rfl rfl
@[go_sem] theorem NM (t ok z x k):aq rec e H (.kf t ok z x k)=jz t ok z H (ev e k) (ev e x):=Eq.trans rfl rfl
def Fw(t:LK)(H:ab)(b:Nat)(k v:SV):Option aD→Option (SV×ab)
 |some (.map es)=>bif isKey k&&v.iu then(gk t k es 0).bind fun r=>(cp H b (.map (wu k v es r)) v.refs).map (.undef,·)else none
 |_=>none
def nW(t:LK)(ok:Bool)(z:SV)(H:ab)(k:SV):Option aD→Option (SV×ab)
 |some (.map es)=>bif isKey k then(gk t k es 0).map fun r=>(sU ok z r,H)else none
 |_=>none
where sU (ok:Bool) (z:SV):Option (Nat×SV)→SV
 |some (_,v)=>bif ok then .ba [v,.bool true]else v
 |none=>bif ok then .ba [z,.bool false]else z
@[go_sem] theorem Nb (t k v b):p8 t H k v (.mp b)=Fw t H b k v (bk H b):=by
  simp only[p8]
  generalize bk H b=o
  cases o with
  |none=>rfl
  |some x=>cases x<;>rfl
@[go_sem] theorem IL (t ok z k b):jz t ok z H k (.mp b)=nW t ok z H k (bk H b):=by
  simp only[jz]
  generalize bk H b=o
  cases o with
  |none=>rfl
  |some x=>
   cases x with
   |map es=>
    simp only[nW]
    cases isKey k
    ·rfl
    ·simp only[Zr]
     congr 1
   |_=>rfl
@[go_sem] theorem Jg (t b k v es):Fw t H b k v (some (.map es))=bif isKey k&&v.iu then(gk t k es 0).bind fun r=>(cp H b (.map (wu k v es r)) v.refs).map (.undef,·)else none:=Eq.trans rfl rfl
@[go_sem] theorem GX (t ok z k es):nW t ok z H k (some (.map es))=bif isKey k then(gk t k es 0).map fun r=>(nW.sU ok z r,H)else none:=Eq.trans rfl rfl
@[go_sem] theorem tZ (ok z i v):nW.sU ok z (some (i,v))=bif ok then .ba [v,.bool true]else v:=Eq.trans rfl rfl
@[go_sem] theorem tO (ok z):nW.sU ok z none=bif ok then .ba [z,.bool false]else z:=Eq.trans rfl rfl
@[go_sem] theorem Jb (t k i):gk t k [] i=some none:=Eq.trans rfl rfl
@[go_sem] theorem qk (t k q v es i):gk t k ((q,v)::es) i=(qQ t k q).bind fun b=>bif b then some (some (i,v))else gk t k es (i+1):=Eq.trans rfl rfl
@[go_sem] theorem rn (k a b):qQ .i (.int k a) (.int k b)=some (decide (a=b)):=by
  simp only[qQ,aaz,Zr];rfl
@[go_sem] theorem I3 (k n):isKey (.int k n)=true:=Eq.trans rfl rfl
@[go_sem] theorem I8 (k v es):wu k v es none=es++[(k,v)]:=Eq.trans rfl rfl
@[go_sem] theorem JA (b):SV.iu (.bool b)=true:=Eq.trans rfl rfl
@[go_sem] theorem QR (f cs):SV.iu (.fn f cs)=true:=Eq.trans rfl rfl
@[go_sem] theorem O1 (f cs):SV.iu (.oC f cs)=true:=Eq.trans rfl rfl
end
end
section
inductive DT where
 |bool|int (k:IntKind)|str|aA (es:List DT)
inductive Fits:DT→SV→Prop
 |bool (b:Bool):Fits .bool (.bool b)
 |int (k:IntKind) (n:Int) (h:(Lit.int k n).wf=true):Fits (.int k) (.int k n)
 |str (s:ByteArray) (h:s.size≤maxLen):Fits .str (.str s)
 |aA (es:List DT) (L:List (List SV)) (f:Bool) (hm:L.length≤maxLen) (hl:∀r∈L,r.length=es.length) (h:∀r∈L,∀(j:Nat) d c,es[j]?=some d→r[j]?=some c→Fits d c):Fits (.aA es) (.aA es.length L f)
def cG(es:List DT)(cs:List SV):Prop:=cs.length=es.length∧∀(j:Nat) d c,es[j]?=some d→cs[j]?=some c→Fits d c
theorem rT:cG [] []:=⟨rfl,by simp⟩
theorem mv{es es':List DT}{cs cs':List SV}(h:cG es cs)(h':cG es' cs'):cG (es++es') (cs++cs'):=by
 refine⟨by simp[h.1,h'.1],fun j d c hd hc=>?_⟩
 rw[aar]at hd hc
 rw[h.1]at hc
 split at hd
 ·rename_i hlt
  rw[if_pos hlt]at hc
  exact h.2 j d c hd hc
 ·rename_i hlt
  rw[if_neg hlt]at hc
  exact h'.2 _ d c hd hc
theorem lD{d:DT}{es:List DT}{cs:List SV}(h:cG (d::es) cs):∃c r,cs=c::r∧Fits d c∧cG es r:=by
 cases cs with
 |nil=>have:=h.1;simp at this
 |cons c r=>exact⟨c,r,rfl,h.2 0 d c rfl rfl,by have:=h.1;simpa using this,fun j d c hd hc=>h.2 (j+1) d c hd hc⟩
theorem cu{cs:List SV}(h:cG [] cs):cs=[]:=aan h.1
theorem fits_int{k:IntKind}{c:SV}(h:Fits (.int k) c):∃n,c=.int k n∧(Lit.int k n).wf=true:=by cases h;exact⟨_,rfl,by assumption⟩
theorem Ce{c:SV}(h:Fits .str c):∃n,c=.str n∧n.size≤maxLen:=by cases h;exact⟨_,rfl,by assumption⟩
theorem BL{es:List DT}{c:SV}(h:Fits (.aA es) c):∃L f,c=.aA es.length L f∧L.length≤maxLen∧∀r∈L,cG es r:=by
 cases h with
 |aA _ L f hm hl h=>exact⟨L,f,rfl,hm,fun r hr=>⟨hl r hr,h r hr⟩⟩
section
variable(P:Program)
def jQ:Nat→TypeId→Option (List DT)
 |0,_=>none
 |d+1,t=>match P.underlying t with
  |some .bool=>some [.bool]
  |some (.int k)=>some [.int k]
  |some .string=>some [.str]
  |some (.slice e)=>(jQ d e).bind fun es=>bif P.cellsOf e==es.length&&!es.isEmpty then some [.aA es]else none
  |some (.struct fs)=>(fs.toList.foldlM (init:=[]) fun acc f=>bif f.offset==acc.length then(jQ d f.type).bind fun es=>bif P.cellsOf f.type==es.length then some (acc++es)else none else none).bind fun es=>
    bif P.cellsOf t==es.length then some es else none
  |some (.array n e)=>(jQ d e).bind fun es=>bif P.cellsOf e==es.length&&P.cellsOf t==(List.replicate n es).flatten.length then some (List.replicate n es).flatten else none
  |_=>none
end
def nf(w:World)(scs:List SV)(cs:List Value):Prop:=scs.length=cs.length∧∀(j:Nat) c v,scs[j]?=some c→cs[j]?=some v→VR w (· <w.heap.size) dj c v∧c.iu=true
theorem mr{w:World}{a b:List SV}{x y:List Value}(h:nf w a x)(h':nf w b y):nf w (a++b) (x++y):=by
 refine⟨by simp[h.1,h'.1],fun j c v hc hv=>?_⟩
 rw[aar]at hc hv
 rw[←h.1]at hv
 split at hc
 ·rename_i hlt
  rw[if_pos hlt]at hv
  exact h.2 j c v hc hv
 ·rename_i hlt
  rw[if_neg hlt]at hv
  exact h'.2 _ c v hc hv
theorem iQ{w:World}{c:SV}{v:Value}(h:VR w (· <w.heap.size) dj c v)(h1:c.iu=true):nf w [c] [v]:=by
 refine⟨rfl,fun j c' v' hc hv=>?_⟩
 cases j with
 |zero=>simp at hc hv;subst hc;subst hv;exact⟨h,h1⟩
 |succ j=>simp at hc
section
variable{H:Type}{enc:TypeId×Value→H}{P:Program}{w:World}{spare:Nat→Bool}{held:Bool}
def FA(P:Program)(d:Nat)(acc:List DT)(f:Field):Option (List DT):=
 bif f.offset==acc.length then(jQ P d f.type).bind fun es=>bif P.cellsOf f.type==es.length then some (acc++es)else none else none
def ta(P:Program)(w:World)(t:TypeId)(es:List DT)(cs:List Value):Prop:=∃scs,nf w scs cs∧cG es scs
theorem qL{n dd:Nat}(ih:∀(t:TypeId) (cs:List Value) x es,DataW.trod enc P w 0 spare held n t cs=some x→jQ P dd t=some es→ta P w t es cs)(cs:List Value):∀(fs:List Field) (acc tot:List DT),
 fs.foldlM (FA P dd) acc=some tot→(∀f∈fs,∃x,DataW.trod enc P w 0 spare held n f.type ((cs.drop f.offset).take (P.cellsOf f.type))=some x)→tot.length≤cs.length→
 ∃rest,tot=acc++rest∧∃scs,nf w scs ((cs.drop acc.length).take rest.length)∧cG rest scs
 |[],acc,tot,h,_,_=>by
  simp at h;subst h
  exact⟨[],by simp,[],⟨rfl,by simp⟩,rT⟩
 |f::fs,acc,tot,h,hf,hlen=>by
  rw[acq]at h
  simp only[bind,Zd]at h
  obtain⟨acc',h1,h2⟩:=h
  unfold FA at h1
  replace h1:=aj h1
  obtain⟨ho,h1⟩:=h1
  simp only[Zd]at h1
  obtain⟨es,h3,h1⟩:=h1
  replace h1:=aj h1
  obtain⟨h4,h1⟩:=h1
  cases h1
  have ho:f.offset=acc.length:=by simpa using ho
  have h4:P.cellsOf f.type=es.length:=by simpa using h4
  obtain⟨x,hx⟩:=hf f (by simp)
  obtain⟨s1,k1,k2⟩:=ih f.type _ x es hx h3
  obtain⟨rest,k3,s2,k4,k5⟩:=qL ih cs fs (acc++es) tot h2 (fun g hg=>hf g (by simp[hg])) hlen
  refine⟨es++rest,by rw[k3];simp,s1++s2,?_,mv k2 k5⟩
  rw[ho,h4]at k1
  have:=mr k1 k4
  have e:((cs.drop acc.length).take es.length)++((cs.drop (acc++es).length).take rest.length)=(cs.drop acc.length).take (es++rest).length:=by
   rw[Y9,Y9,←List.drop_drop,←List.take_add]
  rw[←e];exact this
theorem uT{n dd:Nat}{e:TypeId}{es:List DT}(ih:∀(cs:List Value) x,DataW.trod enc P w 0 spare held n e cs=some x→ta P w e es cs)(hc:P.cellsOf e=es.length)(cs:List Value):∀(m i:Nat),
 (∀k,i≤k→k<i+m→∃x,DataW.trod enc P w 0 spare held n e ((cs.drop (k*P.cellsOf e)).take (P.cellsOf e))=some x)→
 ∃scs,nf w scs ((cs.drop (i*es.length)).take (m*es.length))∧cG (List.replicate m es).flatten scs
 |0,i,_=>⟨[],⟨by simp,by simp⟩,by simpa using rT⟩
 |m+1,i,h=>by
  obtain⟨x,hx⟩:=h i (by omega) (by omega)
  obtain⟨s1,k1,k2⟩:=ih _ x hx
  obtain⟨s2,k3,k4⟩:=uT (dd:=dd) ih hc cs m (i+1) (fun k h1 h2=>h k (by omega) (by omega))
  refine⟨s1++s2,?_,by rw[aaR,abU];exact mv k2 k4⟩
  rw[hc]at k1
  have:=mr k1 k3
  have e:((cs.drop (i*es.length)).take es.length)++((cs.drop ((i+1)*es.length)).take (m*es.length))=(cs.drop (i*es.length)).take ((m+1)*es.length):=by
   rw[aac i 1,aaW,←List.drop_drop,aac m 1,aaW,acu (m*es.length),←List.take_add]
  rw[←e];exact this
theorem zo{a:Addr}{n:Nat}{vs:List Value}(h:w.cells? 0 a n=some vs):vs.length=n∧∀j,j<n→w.cell? (a.add j)=vs[j]?:=by
 unfold World.cells? at h
 simp only[abc,if_true]at h
 exact⟨by simpa using mapM_some_length h,fun j hj=>mapM_some_get h j j (by simp[hj])⟩
theorem HJ{a:Addr}{v:Value}(h:w.cell? (a.add 0)=some v):a.spot=none∧a.block<w.heap.size:=by
 have:a.add 0=a:=by simp[Addr.add]
 rw[this]at h
 unfold World.cell? at h
 split at h
 ·rename_i c _ _ hb
  cases hs:a.spot with
  |none=>exact⟨rfl,(ZG.1 hb).1⟩
  |some x=>rw[hs]at h;simp at h
 ·cases h
theorem Fc:∀(n:Nat) (t:TypeId) (cs:List Value) (x:DataW H×List MemPlace) (dd:Nat) (es:List DT),DataW.trod enc P w 0 spare held n t cs=some x→jQ P dd t=some es→ta P w t es cs:=by
 intro n
 induction n with
 |zero=>intro t cs x dd es h;simp[DataW.trod]at h
 |succ n ih=>
  intro t cs x dd es h hd
  cases dd with
  |zero=>simp[jQ]at hd
  |succ dd=>
   unfold jQ at hd
   split at hd
   ·rename_i hu
    cases hd
    obtain⟨b,rfl,_⟩:=DataW.trod_bool hu h
    exact⟨[.bool b],iQ (.bool b) rfl,rfl,fun j d c hd hc=>by cases j<;>simp at hd hc;subst hd;subst hc;exact .bool b⟩
   ·rename_i k hu
    cases hd
    obtain⟨b,rfl,_,hw⟩:=DataW.trod_int hu h
    exact⟨[.int k b],iQ (.int k b) rfl,rfl,fun j d c hd hc=>by cases j<;>simp at hd hc;subst hd;subst hc;exact .int k b hw⟩
   ·rename_i hu
    cases hd
    obtain⟨b,rfl,_,hw⟩:=DataW.trod_string hu h
    exact⟨[.str b],iQ (.str b) rfl,rfl,fun j d c hd hc=>by cases j<;>simp at hd hc;subst hd;subst hc;exact .str b hw⟩
   ·rename_i e hu
    simp only[Zd]at hd
    obtain⟨ee,hd1,hd⟩:=hd
    replace hd:=aj hd
    obtain⟨hd2,hd⟩:=hd
    cases hd
    simp only[Zh,aah,ZK,List.isEmpty_eq_false_iff]at hd2
    obtain⟨hz,hne⟩:=hd2
    have hz0:0<ee.length:=ab8.2 hne
    rcases DataW.trod_slice hu h with⟨rfl,_⟩|⟨a,len,cap,elems,rest,m,hm,rfl,_,_,hlc,hcap,hel,bk,_⟩
    ·refine⟨[.aA ee.length [] true],iQ ?_ rfl,rfl,fun j d c hd hc=>?_⟩
     ·exact VR.aA (L:=[]) (fun _ _=>undef) (Zp _) (fun _=>rfl) (by simp) (.inl rfl) (by simp) (by simp)
     ·cases j<;>simp at hd hc
      subst hd;subst hc
      exact .aA ee [] true (by simp) (by simp) (by simp)
    ·cases hm
     have key:∀i,i<len→∃(vs:List Value) (r:List SV),w.cells? 0 (a.add (i*ee.length)) ee.length=some vs∧nf w r vs∧cG ee r:=by
      intro i hi
      have h1:=bk i hi
      have h2:elems[i]?=some elems[i]:=Zq (by omega)
      rw[h2,hz,Zd]at h1
      obtain⟨vs,h3,h4⟩:=h1
      obtain⟨r,h5,h6⟩:=ih e vs _ dd ee h4 hd1
      exact⟨vs,r,h3,h5,h6⟩
     have hch:∃g:Nat→List SV,∀i,i<len→∃vs:List Value,w.cells? 0 (a.add (i*ee.length)) ee.length=some vs∧nf w (g i) vs∧cG ee (g i):=
      ⟨fun i=>if hi:i<len then Classical.choose (aby (key i hi))else[],fun i hi=>by
       simp only[hi,dif_pos]
       exact⟨_,aby (aby (key i hi))⟩⟩
     obtain⟨g,hg⟩:=hch
     have hrow:∀(i:Nat) r,((List.range len).map g)[i]?=some r→i<len∧r=g i:=by
      intro i r hr
      simp only[aat,Zb]at hr
      obtain⟨k,hk,rfl⟩:=hr
      have hlt:=(Y8.1 hk).1
      simp at hlt
      rw[aa0 hlt]at hk
      cases hk
      exact⟨hlt,rfl⟩
     have hcell:∀(i j:Nat),i<len→j<ee.length→∃v c,w.cell? ((a.add (i*ee.length)).add j)=some v∧(g i)[j]?=some c∧VR w (· <w.heap.size) dj c v∧c.iu=true:=by
      intro i j hi hj
      obtain⟨vs,h1,h2,h3⟩:=hg i hi
      obtain⟨h4,h5⟩:=zo h1
      have hv:vs[j]?=some vs[j]:=Zq (by omega)
      have hjl:j<(g i).length:=by have:=h2.1;omega
      have hc:(g i)[j]?=some (g i)[j]:=Zq hjl
      obtain⟨h6,h7⟩:=h2.2 j _ _ hc hv
      exact⟨_,_,(h5 j hj).trans hv,hc,h6,h7⟩
     refine⟨[.aA ee.length ((List.range len).map g) false],iQ ?_ rfl,rfl,fun j d c hd hc=>?_⟩
     ·have hlen:((List.range len).map g).length=len:=by simp
      have hq:VR w (· <w.heap.size) dj (.aA ee.length ((List.range len).map g) false) (.slice (some a) ((List.range len).map g).length cap):=by
       refine .aA (fun i j=>(w.cell? ((a.add (i*ee.length)).add j)).getD undef) (by omega) (fun h=>by cases h) (fun i r hr=>?_) ?_ (fun i j r c hr hc=>?_) (fun i j r c hr hc=>?_)
       ·obtain⟨hi,rfl⟩:=hrow i r hr
        obtain⟨vs,h1,h2,h3⟩:=hg i hi
        exact h3.1
       ·by_cases h0:len=0
        ·left;subst h0;rfl
        ·right
         obtain⟨v,c,h1,_⟩:=hcell 0 0 (by omega) hz0
         rw[abJ]at h1
         have h2:=HJ (a:=a) (v:=v) (by have:(a.add 0).add 0=a.add 0:=by simp[Addr.add]
                                       rw[this]at h1;exact h1)
         refine⟨a.block,a.off,?_,h2.2,fun i j r c hr hc=>?_⟩
         ·obtain⟨b,o,sp⟩:=a;simp only at h2;rw[h2.1]
         ·obtain⟨hi,rfl⟩:=hrow i r hr
          obtain⟨vs,_,h3,h4⟩:=hg i hi
          have hj:j<ee.length:=by have:=(Y8.1 hc).1;have:=h4.1;omega
          obtain⟨v,c',h5,_⟩:=hcell i j hi hj
          have ha:(a.add (i*ee.length)).add j=⟨a.block,a.off+i*ee.length+j,none⟩:=by
           obtain⟨b,o,sp⟩:=a;simp only at h2;rw[h2.1,dc,dc]
          rw[←ha,h5];rfl
       ·obtain⟨hi,rfl⟩:=hrow i r hr
        obtain⟨vs,_,h3,h4⟩:=hg i hi
        have hj:j<ee.length:=by have:=(Y8.1 hc).1;have:=h4.1;omega
        obtain⟨v,c',_,h6,_,h7⟩:=hcell i j hi hj
        rw[hc]at h6;cases h6;exact h7
       ·obtain⟨hi,rfl⟩:=hrow i r hr
        obtain⟨vs,_,h3,h4⟩:=hg i hi
        have hj:j<ee.length:=by have:=(Y8.1 hc).1;have:=h4.1;omega
        obtain⟨v,c',h5,h6,h7,_⟩:=hcell i j hi hj
        rw[hc]at h6;cases h6
        simp only[h5,aaC];exact h7
      rw[hlen]at hq
      exact hq
     ·cases j<;>simp at hd hc
      subst hd;subst hc
      refine .aA ee _ false (by simp;omega) (fun r hr=>?_) (fun r hr j d c hd hc=>?_)
      ·obtain⟨i,hi⟩:=ZH hr
       obtain⟨h1,rfl⟩:=hrow i r hi
       obtain⟨vs,_,_,h4⟩:=hg i h1
       exact h4.1
      ·obtain⟨i,hi⟩:=ZH hr
       obtain⟨h1,rfl⟩:=hrow i r hi
       obtain⟨vs,_,_,h4⟩:=hg i h1
       exact h4.2 j d c hd hc
   ·rename_i fs hu
    simp only[Zd]at hd
    obtain⟨tot,hd1,hd⟩:=hd
    replace hd:=aj hd
    obtain⟨hd2,hd⟩:=hd
    cases hd
    have hd2:P.cellsOf t=es.length:=by simpa using hd2
    obtain⟨xs,m,hm,_,hl,hxl,bk⟩:=DataW.trod_struct hu h
    cases hm
    obtain⟨rest,h1,scs,h2,h3⟩:=qL (dd:=dd) (fun t cs x es h1 h2=>ih t cs x dd es h1 h2) cs fs.toList [] es hd1 (fun f hf=>by
     obtain⟨i,hi⟩:=ZH hf
     have hlt:=(Y8.1 hi).1
     have h5:=bk i f (by simpa using hi)
     exact⟨xs[i]'(by simp at hlt;omega),by rw[h5];simp⟩) (by omega)
    simp only[ZZ]at h1
    subst h1
    simp only[Zx,abi]at h2
    rw[ZM (by omega)]at h2
    exact⟨scs,h2,h3⟩
   ·rename_i k e hu
    simp only[Zd]at hd
    obtain⟨ee,hd1,hd⟩:=hd
    replace hd:=aj hd
    obtain⟨hd2,hd⟩:=hd
    cases hd
    simp only[Zh,aah]at hd2
    obtain⟨hz,ht⟩:=hd2
    obtain⟨xs,m,hm,_,hl,hxl,bk⟩:=DataW.trod_array hu h
    cases hm
    obtain⟨scs,h2,h3⟩:=uT (dd:=dd) (fun cs x h1=>ih e cs x dd ee h1 hd1) hz cs k 0 (fun i _ hi=>⟨xs[i]'(by omega),by rw[bk i (by omega)];simp⟩)
    have hfl:(List.replicate k ee).flatten.length=k*ee.length:=by simp
    rw[abJ,abi,ZM (by omega)]at h2
    exact⟨scs,h2,h3⟩
   ·cases hd
def uB(d:Bool×List DT)(x:SV):Prop:=match d.1 with
 |true=>∃cs,x=.agg cs∧cG d.2 cs
 |false=>∃e,d.2=[e]∧Fits e x
def zV(P:Program)(t:TypeId):Option (Bool×List DT):=match iZ P t,jQ P 8 t with
 |some ag,some es=>some (ag,es)
 |_,_=>none
theorem we{r:Reach}{base:Nat}{t:TypeId}{v:Value}(h:Value.okWide P w r base t v)(hag:iZ P t=some true):∃cs,v=.agg cs:=by
 unfold Value.okWide at h
 unfold iZ at hag
 split at h
 ·obtain⟨cs,h,_⟩:=h;exact⟨cs,h⟩
 ·obtain⟨cs,h,_⟩:=h;exact⟨cs,h⟩
 ·rename_i h1 h2
  split at hag
  ·rename_i fs hu;exact absurd hu (h1 fs)
  ·rename_i n e hu;exact absurd hu (h2 n e)
  ·cases hag
  ·cases hag
theorem wL{r:Reach}{base:Nat}{t:TypeId}{v:Value}{es:List DT}(h:Value.okWide P w r base t v)(hag:iZ P t=some false)(hd:jQ P 8 t=some es):jx v=true∧es.length=1:=by
 unfold jQ at hd
 unfold Value.okWide at h
 split at hd
 ·rename_i hu
  simp only[hu,Cell.okWide,Cell.ok]at h
  cases hd
  cases v<;>simp_all [jx]
 ·rename_i k hu
  simp only[hu,Cell.okWide,Cell.ok]at h
  cases hd
  cases v<;>simp_all [jx]
 ·rename_i hu
  simp only[hu,Cell.okWide,Cell.ok]at h
  cases hd
  cases v<;>simp_all [jx]
 ·rename_i e hu
  simp only[hu,Cell.okWide,Cell.ok]at h
  simp only[Zd]at hd
  obtain⟨ee,_,hd⟩:=hd
  replace hd:=aj hd
  cases hd.2
  cases v<;>simp_all [jx]
 ·rename_i fs hu;simp[iZ,hu]at hag
 ·rename_i k e hu;simp[iZ,hu]at hag
 ·cases hd
theorem GV{r:Reach}{base:Nat}{t:TypeId}{v:Value}{d:DataW H}{ps:List MemPlace}{a:Bool×List DT}(h:DataW.Trod enc P w 0 spare held t v d ps)(hok:Value.okWide P w r base t v)(ha:zV P t=some a) :
 ∃x,VR w (· <w.heap.size) dj x v∧uB a x:=by
 unfold zV at ha
 split at ha
 rotate_left
 ·cases ha
 rename_i ag es hag hd
 cases ha
 obtain⟨n,hn⟩:=h
 obtain⟨scs,h1,h2⟩:=Fc n t _ _ 8 es hn hd
 cases ag with
 |true=>
  obtain⟨cs,rfl⟩:=we hok hag
  refine⟨.agg scs,.agg (by simpa[Value.cells]using h1.1) (fun j c hc=>?_) (fun j c v hc hv=>(h1.2 j c v hc (by simpa[Value.cells]using hv)).1),scs,rfl,h2⟩
  have hlt:=(Y8.1 hc).1
  have hl:=h1.1
  simp only[Value.cells,abb]at hl
  exact(h1.2 j c cs[j] hc (by simp[Value.cells])).2
 |false=>
  obtain⟨h3,h4⟩:=wL hok hag hd
  have hc:v.cells= #[v]:=by cases v<;>simp_all [Value.cells,jx]
  rw[hc]at h1
  obtain⟨c,rfl⟩:∃c,scs=[c]:=aaZ.1 (by simpa using h1.1)
  obtain⟨e,rfl⟩:∃e,es=[e]:=aaZ.1 h4
  exact⟨c,(h1.2 0 c v rfl rfl).1,e,rfl,h2.2 0 e c rfl rfl⟩
def gw(as1:List (Bool×List DT))(xs:List SV):Prop:=xs.length=as1.length∧∀(j:Nat) a x,as1[j]?=some a→xs[j]?=some x→uB a x
theorem xw{r:Reach}{base:Nat}:∀(ts:List TypeId) (vs:List Value) (ds:List (DataW H)) (ps:List MemPlace) (as1:List (Bool×List DT)),DataW.TrodAll enc P w 0 spare held ts vs ds ps→ts.map (zV P)=as1.map some→
 (∀(j:Nat) t v,ts[j]?=some t→vs[j]?=some v→Value.okWide P w r base t v)→∃xs:List SV,xs.length=vs.length∧(∀(j:Nat) c v,xs[j]?=some c→vs[j]?=some v→VR w (· <w.heap.size) dj c v)∧gw as1 xs∧ds.length=ts.length
 |[],[],[],ps,as1,h,ha,_=>by
  have:as1=[]:=by simpa using ha.symm
  subst this
  exact⟨[],rfl,by simp,⟨rfl,by simp⟩,rfl⟩
 |t::ts,v::vs,d::ds,ps,as1,h,ha,hok=>by
  obtain⟨p,q,h1,h2,_⟩:=h
  cases as1 with
  |nil=>simp at ha
  |cons a as1=>
   simp only[ZO,aca]at ha
   obtain⟨x,k1,k2⟩:=GV h1 (hok 0 t v rfl rfl) ha.1
   obtain⟨xs,k3,k4,k5,k6⟩:=xw ts vs ds q as1 h2 ha.2 (fun j t v ht hv=>hok (j+1) t v ht hv)
   refine⟨x::xs,by simp[k3],fun j c v hc hv=>?_,⟨by simp[k5.1],fun j a x ha hx=>?_⟩,by simp[k6]⟩
   ·cases j with
    |zero=>simp at hc hv;subst hc;subst hv;exact k1
    |succ j=>exact k4 j c v (by simpa using hc) (by simpa using hv)
   ·cases j with
    |zero=>simp at ha hx;subst ha;subst hx;exact k2
    |succ j=>exact k5.2 j a x (by simpa using ha) (by simpa using hx)
 |[],_::_,_,_,_,h,_,_=>by simp[DataW.TrodAll]at h
 |[],[],_::_,_,_,h,_,_=>by simp[DataW.TrodAll]at h
 |_::_,[],_,_,_,h,_,_=>by simp[DataW.TrodAll]at h
 |_::_,_::_,[],_,_,h,_,_=>by simp[DataW.TrodAll]at h
end
end
section
section
variable{H:Type}{enc:TypeId×Value→H}{P:Program}{w w':World}
theorem kV{base:Nat}{spare:Nat→Bool}{held:Bool}:∀{ts:List TypeId} {vs:List Value} {ds:List (DataW H)} {ps:List MemPlace},DataW.TrodAll enc P w base spare held ts vs ds ps→(∀p∈ps,w.sameAt w' p)→DataW.TrodAll enc P w' base spare held ts vs ds ps
 |[],[],[],_,h,_=>h
 |_::_,_::_,_::_,_,⟨p,q,⟨n,h1⟩,h2,e⟩,hs=>⟨p,q,⟨n,DataW.trod_carry n _ _ _ h1 (fun x hx=>hs x (by rw[e];exact aas _ hx))⟩,kV h2 (fun x hx=>hs x (by rw[e];exact aa5 _ hx)),e⟩
 |[],_::_,_,_,h,_=>by simp[DataW.TrodAll]at h
 |[],[],_::_,_,h,_=>by simp[DataW.TrodAll]at h
 |_::_,[],_,_,h,_=>by simp[DataW.TrodAll]at h
 |_::_,_::_,[],_,h,_=>by simp[DataW.TrodAll]at h
theorem yF(hh:∀B,B<w.heap.size→w'.heap[B]?=w.heap[B]?){p:MemPlace}(hp:p.block<w.heap.size):w.sameAt w' p:=by
 cases p with
 |cell b off=>simp only[World.sameAt,World.cell?,hh b hp]
 |map b=>exact hh b hp
theorem DQ(hh:∀B,B<w.heap.size→w'.heap[B]?=w.heap[B]?)(ho:w'.os=w.os∧w'.output=w.output)(may:MemPlace→Prop):w.keptBut w' may:=by
 refine⟨ho.1,ho.2,fun i hi=>?_⟩
 rw[hh i hi]
 cases hq:w.heap[i]? with
 |none=>simp
 |some o=>cases o<;>simp
end
theorem vc{Ck:Checked}(dz:yN)(hext:sa ⟨Ck.prog,dz⟩){os:Os}{f:FuncId}{fn:Func}{s:ChangeSpec}{conds:List PathCond}{apart fresh handsOn:Bool}{ads:List (Bool×List DT)}{tb:TypeId}{H:Type}{enc:TypeId×Value→H}
 (own:ownKnob Ck.prog.godebug=none) (started:os.Started) (noInit:Ck.prog.inits.idxOf? f=none) (hfn:Ck.prog.funcs[f]?=some fn)
 (witness:∃(w:World) (tape:Tape) (i:Input),w.os=os∧(w.forCall tape i).Shaped Ck.prog∧i.vars=[]∧Input.okWide Ck.prog (w.forCall tape i) .any w.heap.size f i∧
  s.pre6 enc Ck.prog fn conds apart (w.forCall tape i).memory i.args∧({}:Assume).holds Ck.prog (lone (Frame.enter Ck.prog f i.args .normal) [] (w.forCall tape i)))
 (hmix:Ck.prog.follows .mixedOrders=true) (hlaid:laidOutB Ck.prog=true) (hmaps:mapsRowed Ck.prog=true)
 (hfull:((List.range Ck.prog.types.size).all fun t=>match Ck.prog.underlying t with|some (.slice e)=>decide (0<Ck.prog.cellsOf e)|_=>true)=true)
 (hpar:∀t∈fn.params.toList,t<Ck.prog.types.size)
 (hargs:fn.params.toList.map (zV Ck.prog)=ads.map some) (hres:fn.resultTypes= #[tb]) (hb:Ck.prog.underlying tb=some .bool) (hvars:s.vars=[])
 (hspec:∀(H:Type) (ds:List (DataW H)),ds.length=fn.params.toList.length→s.fn H ds={results:=[.lit (.bool true)],args:=ds})
 (hlaw:∀xs,gw ads xs→∃m,aa (uw Ck.prog dz) m (.fn f) xs ah=some (.bool true,ah)) :
 ReturnsInHanded {} Ck os f .any (s.pre6 enc Ck.prog fn conds apart) (s.post enc Ck.prog fn apart fresh handsOn false):=by
 refine returnsInHanded_of_change own started noInit hfn witness ?_
 intro W base args ds gs before hval hW hcnd _
 have hW':=hW
 obtain⟨p,q,hA,hV,rfl,hfz,hnd⟩:=hW
 rw[hvars]at hV
 have hgs:gs=[]∧q=[]:=by
  cases gs with
  |nil=>exact⟨rfl,hV⟩
  |cons g gs=>simp[DataW.TrodVars]at hV
 obtain⟨rfl,rfl⟩:=hgs
 obtain⟨xs,h1,h2,h3,h4⟩:=xw (spare:=fun _=>true) (held:=true) fn.params.toList args.toList ds p ads hA hargs (fun j t v ht hv=>hval j t v (by simpa using ht) (by simpa using hv))
 obtain⟨m,hm⟩:=hlaw xs h3
 have hHR:HR ⟨Ck.prog,dz⟩ dj (· <W.heap.size) ah W:=⟨(fun b l h=>by cases h),(fun b x h=>by simp[ah]at h),(fun b b' l l' h=>by cases h.2.1),(fun b l h=>by cases h.2.1),fun B hB=>hB⟩
 have hcall:=((sD (C:=⟨Ck.prog,dz⟩) hmix hext (fun _ _ h=>h) m).call f xs ah (.bool true) ah hm dj (· <W.heap.size) W args hHR ⟨by simpa using h1,fun j c v hc hv=>h2 j c v hc (by simpa using hv)⟩).2 0
 refine(callsIn_wide.1 hcall).mono (fun e W' he=>?_)
 obtain⟨val,rfl,ρ',F',d1,d2,d3⟩:=he
 have hv:=eu d1
 subst hv
 have hno:∀b l,¬Own dj ah b l:=fun b l h=>by cases h.2.1
 have hh:∀B,B<W.heap.size→W'.heap[B]?=W.heap[B]?:=fun B hB=>d3.frame B hB (fun b l ho=>absurd ho (hno b l))
 have hlt:∀x∈p,x.block<W.heap.size:=fun x hx=>hW'.lt x (by simpa using hx)
 refine⟨_,rfl,ds,[],p++[],[],p,[],hW',?_,?_,?_,DQ hh d3.out _,fun h=>by cases h⟩
 ·rw[hres,hspec H (ds++[]) (by simpa using h4)]
  simp only[List.size_toArray,Zw,Zx,Value.resultList]
  exact⟨[],[],RowKit.shut_bool hb true,rfl,rfl⟩
 ·rw[hspec H (ds++[]) (by simpa using h4)]
  simp only[ZW]
  refine kV ?_ (fun x hx=>yF hh (hlt x hx))
  exact DataW.TrodAll.respare (kids_rows hlaid hmaps) (fun t e ht hu=>slices_full_of Ck.prog hfull t e ht hu) hpar hA (fun x hx=>by simpa using hlt x hx)
 ·rw[hspec H (ds++[]) (by simpa using h4),hvars]
  rfl
theorem sW{Ck:Checked}(dz:yN){os:Os}{f:FuncId}{fn:Func}{s:ChangeSpec}{conds:List PathCond}{apart fresh handsOn:Bool}{ads:List (Bool×List DT)}{tb:TypeId}{H:Type}{enc:TypeId×Value→H}
 (own:ownKnob Ck.prog.godebug=none) (started:os.Started) (noInit:Ck.prog.inits.idxOf? f=none) (hfn:Ck.prog.funcs[f]?=some fn)
 (witness:∃(w:World) (tape:Tape) (i:Input),w.os=os∧(w.forCall tape i).Shaped Ck.prog∧i.vars=[]∧Input.okWide Ck.prog (w.forCall tape i) .any w.heap.size f i∧
  s.pre6 enc Ck.prog fn conds apart (w.forCall tape i).memory i.args∧({}:Assume).holds Ck.prog (lone (Frame.enter Ck.prog f i.args .normal) [] (w.forCall tape i)))
 (hmix:Ck.prog.follows .mixedOrders=true) (hlaid:laidOutB Ck.prog=true) (hmaps:mapsRowed Ck.prog=true)
 (hfull:((List.range Ck.prog.types.size).all fun t=>match Ck.prog.underlying t with|some (.slice e)=>decide (0<Ck.prog.cellsOf e)|_=>true)=true)
 (hpar:∀t∈fn.params.toList,t<Ck.prog.types.size)
 (hargs:fn.params.toList.map (zV Ck.prog)=ads.map some) (hres:fn.resultTypes= #[tb]) (hb:Ck.prog.underlying tb=some .bool) (hvars:s.vars=[])
 (hspec:∀(H:Type) (ds:List (DataW H)),ds.length=fn.params.toList.length→s.fn H ds={results:=[.lit (.bool true)],args:=ds})
 (hlaw:∀xs,gw ads xs→∃m,aa (uw Ck.prog dz) m (.fn f) xs ah=some (.bool true,ah)) (hnone:∀f,dz.ext f=none:=by intro f;rfl) :
 ReturnsInHanded {} Ck os f .any (s.pre6 enc Ck.prog fn conds apart) (s.post enc Ck.prog fn apart fresh handsOn false):=
 vc dz (fun f k h=>by rw[show dz.ext f=none from hnone f]at h;cases h) own started noInit hfn witness hmix hlaid hmaps hfull hpar hargs hres hb hvars hspec hlaw
end
section
mutual
def gu:SV→SV→Bool
 | .undef,.undef=>true
 | .iz,.iz=>true
 | .bool a,.bool b=>a==b
 | .int k a,.int k' b=>decide (k=k')&&decide (a=b)
 | .str a,.str b=>decide (a=b)
 | .cY,.cY=>true
 | .ptr a b c d,.ptr a' b' c' d'=>decide (a=a')&&decide (b=b')&&decide (c=c')&&decide (d=d')
 | .fE a,.fE b=>zI a b
 | .aA z L f,.aA z' L' f'=>decide (z=z')&&wh L L'&&f==f'
 | .bp a b c d,.bp a' b' c' d'=>decide (a=a')&&decide (b=b')&&decide (c=c')&&decide (d=d')
 | .agg a,.agg b=>zI a b
 | .ba a,.ba b=>zI a b
 | .fn f a,.fn g b=>decide (f=g)&&zI a b
 | .oC f a,.oC g b=>decide (f=g)&&zI a b
 | .c0,.c0=>true
 | .fp a,.fp b=>decide (a=b)
 | .mp a,.mp b=>decide (a=b)
 |_,_=>false
def zI:List SV→List SV→Bool
 |[],[]=>true
 |a::r,b::r'=>gu a b&&zI r r'
 |_,_=>false
def wh:List (List SV)→List (List SV)→Bool
 |[],[]=>true
 |a::r,b::r'=>zI a b&&wh r r'
 |_,_=>false
end
mutual
theorem mJ:∀a b:SV,gu a b=true→a=b
 | .undef,b,h=>by cases b<;>first|rfl|(simp[gu]at h;done)
 | .iz,b,h=>by cases b<;>first|rfl|(simp[gu]at h;done)
 | .bool a,b,h=>by cases b<;>simp[gu]at h⊢ <;>exact h
 | .int k a,b,h=>by cases b<;>simp[gu]at h⊢ <;>exact h
 | .str a,b,h=>by cases b<;>simp[gu]at h⊢ <;>exact h
 | .cY,b,h=>by cases b<;>first|rfl|(simp[gu]at h;done)
 | .ptr ..,b,h=>by cases b<;>simp[gu]at h⊢ <;>exact⟨h.1.1.1,h.1.1.2,h.1.2,h.2⟩
 | .fE a,b,h=>by cases b<;>simp[gu]at h⊢ <;>exact jX _ _ h
 | .aA z L f,b,h=>by cases b<;>simp[gu]at h⊢ <;>exact⟨h.1.1,r0 _ _ h.1.2,h.2⟩
 | .bp ..,b,h=>by cases b<;>simp[gu]at h⊢ <;>exact⟨h.1.1.1,h.1.1.2,h.1.2,h.2⟩
 | .agg a,b,h=>by cases b<;>simp[gu]at h⊢ <;>exact jX _ _ h
 | .ba a,b,h=>by cases b<;>simp[gu]at h⊢ <;>exact jX _ _ h
 | .fn f a,b,h=>by cases b<;>simp[gu]at h⊢ <;>exact⟨h.1,jX _ _ h.2⟩
 | .oC f a,b,h=>by cases b<;>simp[gu]at h⊢ <;>exact⟨h.1,jX _ _ h.2⟩
 | .c0,b,h=>by cases b<;>first|rfl|(simp[gu]at h;done)
 | .fp a,b,h=>by cases b<;>simp[gu]at h⊢ <;>exact h
 | .mp a,b,h=>by cases b<;>simp[gu]at h⊢ <;>exact h
theorem jX:∀a b:List SV,zI a b=true→a=b
 |[],[],_=>rfl
 |[],_::_,h=>by simp[zI]at h
 |_::_,[],h=>by simp[zI]at h
 |a::r,b::r',h=>by
  simp only[zI,Zh]at h
  rw[mJ a b h.1,jX r r' h.2]
theorem r0:∀a b:List (List SV),wh a b=true→a=b
 |[],[],_=>rfl
 |[],_::_,h=>by simp[wh]at h
 |_::_,[],h=>by simp[wh]at h
 |a::r,b::r',h=>by
  simp only[wh,Zh]at h
  rw[jX a b h.1,r0 r r' h.2]
end
def zf:List (SV×SV)→List (SV×SV)→Bool
 |[],[]=>true
 |a::r,b::r'=>gu a.1 b.1&&gu a.2 b.2&&zf r r'
 |_,_=>false
theorem xz:∀a b:List (SV×SV),zf a b=true→a=b
 |[],[],_=>rfl
 |[],_::_,h=>by simp[zf]at h
 |_::_,[],h=>by simp[zf]at h
 |(a1,a2)::r,(b1,b2)::r',h=>by
  simp only[zf,Zh]at h
  rw[mJ a1 b1 h.1.1,mJ a2 b2 h.1.2,xz r r' h.2]
def rJ:Env→Env→Bool
 |[],[]=>true
 |a::r,b::r'=>decide (a.1=b.1)&&gu a.2 b.2&&rJ r r'
 |_,_=>false
theorem um:∀a b:Env,rJ a b=true→a=b
 |[],[],_=>rfl
 |[],_::_,h=>by simp[rJ]at h
 |_::_,[],h=>by simp[rJ]at h
 |(a1,a2)::r,(b1,b2)::r',h=>by
  simp only[rJ,Zh,Ze]at h
  rw[h.1.1,mJ a2 b2 h.1.2,um r r' h.2]
def o9:aD→aD→Bool
 | .dead,.dead=>true
 | .box a,.box b=>zI a b
 | .arr v z L x,.arr v' z' L' x'=>decide (v=v')&&decide (z=z')&&wh L L'&&x==x'
 | .map a,.map b=>zf a b
 |_,_=>false
theorem CL:∀a b:aD,o9 a b=true→a=b
 | .dead,b,h=>by cases b<;>first|rfl|(simp[o9]at h;done)
 | .box a,b,h=>by cases b<;>simp[o9]at h⊢ <;>exact jX _ _ h
 | .arr ..,b,h=>by cases b<;>simp[o9]at h⊢ <;>exact⟨h.1.1.1,h.1.1.2,r0 _ _ h.1.2,h.2⟩
 | .map a,b,h=>by cases b<;>simp[o9]at h⊢ <;>exact xz _ _ h
 | .loop ..,b,h=>by cases b<;>simp[o9]at h
def yv:List aD→List aD→Bool
 |[],[]=>true
 |a::r,b::r'=>o9 a b&&yv r r'
 |_,_=>false
theorem xJ:∀a b:List aD,yv a b=true→a=b
 |[],[],_=>rfl
 |[],_::_,h=>by simp[yv]at h
 |_::_,[],h=>by simp[yv]at h
 |a::r,b::r',h=>by
  simp only[yv,Zh]at h
  rw[CL a b h.1,xJ r r' h.2]
def Hq(a b:Env×ab):Bool:=rJ a.1 b.1&&yv a.2.bl b.2.bl&&decide (a.2.bQ=b.2.bQ)&&decide (a.2.ro=b.2.ro)
theorem DR{a b:Env×ab}(h:Hq a b=true):a=b:=by
 obtain⟨e,bl,es,ro⟩:=a
 obtain⟨e',bl',es',ro'⟩:=b
 simp only[Hq,Zh,Ze]at h
 obtain⟨⟨⟨h1,h2⟩,rfl⟩,rfl⟩:=h
 rw[um _ _ h1,xJ _ _ h2]
def pP:List (Option (Env×ab))→Option (Env×ab)
 |[]=>none
 |[a]=>a
 |some a::some b::r=>bif Hq a b then pP (some b::r)else none
 |_=>none
theorem tS:∀(l:List (Option (Env×ab))) {s},pP l=some s→iU l=some s∧∀x∈l,x=some s
 |[],s,h=>by simp[pP]at h
 |[a],s,h=>⟨h,fun x hx=>by simp only[aab]at hx;subst hx;exact h⟩
 |some a::some b::r,s,h=>by
  simp only[pP]at h
  replace h:=aj h
  obtain⟨h1,h2⟩:=h
  have:=DR h1
  subst this
  obtain⟨h3,h4⟩:=tS (some a::r) h2
  exact⟨by rw[iU,if_pos rfl];exact h3,fun x hx=>by
   rcases ZU.1 hx with rfl|hx
   ·exact h4 _ (ZI ..)
   ·exact h4 x hx⟩
 |none::b::r,s,h=>by simp[pP]at h
 |some a::none::r,s,h=>by simp[pP]at h
def eH(rec:Rec)(fu:Nat):cn→Env→ab→Option Out
 | .skip,e,H=>some (.normal,e,H)
 | .ops l,e,H=>(cc rec l e H (fun e H=>some (e,H)) ()).map fun s=>(.normal,s)
 | .drawn l,e,H=>(bX rec l H.bl.length e H (fun e H=>some (e,H)) ()).map fun s=>(.normal,s)
 | .perm l os,e,H=>(pP (os.map (jl rec l e H))).map fun s=>(.normal,s.1,s.2)
 | .seq a b,e,H=>match eH rec fu a e H with
   |some (.normal,e,H)=>eH rec fu b e H
   |r=>r
 | .cond c a b,e,H=>match ev e c with
   | .bool t=>bif t then eH rec fu a e H else eH rec fu b e H
   |_=>none
 | .block id a,e,H=>match eH rec fu a e H with
   |some (.exit j,e,H)=>some (bif j==id then .normal else .exit j,e,H)
   |r=>r
 | .freeze t,e,H=>(Db H (get e t)).map fun r=>(.normal,(t,r.1)::e,r.2)
 | .bB vs,e,H=>(eZ vs e H).map fun s=>(.normal,s.1,s.2)
 | .Nc d neg x c,e,H=>match Ei H (ev e x)with
   |some false=>eH rec fu c ((d,.bool neg)::e) H
   |_=>none
 | .loop p a,e,H=>(eZ p.bB e H).bind fun s=>(cI (fun s'=>(dU p s.2.bl.length {s.2 with bQ:=[]} s').bind fun s'=>eH rec fu a s'.1 s'.2) fu (s.1,{s.2 with bQ:=[]})).map
    fun o=>(o.1,o.2.1,{o.2.2 with bQ:=s.2.bQ++o.2.2.bQ})
 | .gT f ps x y,e,H=>(ov rec (ev e f) [.fp H.bl.length] (bH H (.loop ⟨e,ps,x,y⟩ .ready .normal))).bind fun r=>
    match bk r.2 H.bl.length with
    |some (.loop q st pend)=>match st with
     | .busy=>none
     |_=>(cp r.2 H.bl.length (.loop q .exhausted pend) 0).map fun H=>(pend,e,H)
    |_=>none
 | .ext n,e,H=>(qF n (e.map (·.2))).map fun v=>(.ret,(0,v)::e,H)
 | .exit id,e,H=>some (.exit id,e,H)
 | .ret,e,H=>some (.ret,e,H)
def kZ(T:FuncId→Option aC)(fu:Nat):Nat→Rec
 |0,_,_,_=>none
 |n+1,.fn f,xs,H=>match T f with
  |none=>none
  |some F=>bif eA F xs then
    ((eH (kZ T fu n) fu F.body (dR xs) ah).bind fun o=>match o.1 with
      | .exit _=>none
      |_=>(results1 o.2.1 o.2.2 F.res).bind fun v=>ec 0 o.2.2 cA v).map fun v=>(v,H)
   else(eH (kZ T fu n) fu F.body (dR xs) {bl:=H.bl,bQ:=[],ro:=min H.ro H.bl.length}).bind fun o=>match o.1 with
    | .exit _=>none
    |_=>(results1 o.2.1 o.2.2 F.res).bind fun v=>cR F.keep H v o.2.2
 |n+1,.rW f,xs,H=>match T f with
  |none=>none
  |some F=>(eH (kZ T fu n) fu F.body (dR xs) {bl:=H.bl,bQ:=[],ro:=min H.ro H.bl.length}).bind fun o=>match o.1 with
    | .exit _=>none
    |_=>(results1 o.2.1 o.2.2 F.res).bind fun v=>cR true H v o.2.2
 |n+1,.fp b,xs,H=>match bk H b with
  |some (.loop q .ready _)=>
   bif q.ps.length==xs.length then
    (eH (kZ T fu n) fu q.assign ((q.ps.zip xs).reverse++q.env) {bl:=H.bl,bQ:=[],ro:=min H.ro H.bl.length}).bind fun o=>match o.1 with
     | .normal=>(ez b o.2.2).bind fun H'=>(eH (kZ T fu n) fu q.body o.2.1 H').bind fun o=>
        (eX b (match o.1 with| .normal=>.ready|_=>.done) o.1 o.2.2).bind fun H'=>
         (cV H.bl.length H H').map fun H'=>(.bool (match o.1 with| .normal=>true|_=>false),H')
     |_=>none
   else none
  |_=>none
section
variable{rec rec':Rec}(hrec:∀f xs H r,rec f xs H=some r→rec' f xs H=some r)
include hrec
theorem BK{f xs H r}(h:j6 rec f xs H=some r):j6 rec' f xs H=some r:=by
 unfold j6 at h⊢
 split at h
 ·exact hrec _ _ _ _ h
 ·exact hrec _ _ _ _ h
 ·exact hrec _ _ _ _ h
 ·cases h
theorem zO{f xs H r}(h:ov rec f xs H=some r):ov rec' f xs H=some r:=by
 unfold ov at h⊢
 split at h
 ·exact hrec _ _ _ _ h
 ·cases h
theorem mf{e H o r}(h:aq rec e H o=some r):aq rec' e H o=some r:=by
 unfold aq at h⊢
 split at h
 ·exact BK hrec h
 ·exact hrec _ _ _ _ h
 ·unfold rP at h⊢
  obtain⟨vs,h1,h2⟩:=Zd.1 h
  obtain⟨r1,h3,h4⟩:=Zd.1 h2
  exact Zd.2 ⟨vs,h1,Zd.2 ⟨r1,hrec _ _ _ _ h3,h4⟩⟩
 ·exact h
theorem yQ{N d e H o r}(h:bY rec N d e H o=some r):bY rec' N d e H o=some r:=by
 unfold bY at h⊢
 split at h
 ·exact mf hrec h
 ·obtain⟨a,h1,h2⟩:=Zd.1 h
  exact Zd.2 ⟨a,mf hrec h1,h2⟩
 ·obtain⟨a,h1,h2⟩:=Zd.1 h
  exact Zd.2 ⟨a,mf hrec h1,h2⟩
 ·unfold vR at h ⊢;exact h
theorem qK{R:Type}(k:Env→ab→Option R):∀l e H o,cc rec l e H (fun e H=>some (e,H)) ()=some o→cc rec' l e H k ()=k o.1 o.2:=by
 intro l
 induction l with
 |nil=>intro e H o h;simp only[cc,Zs]at h ⊢;rw[←h]
 |cons a l ih=>
  intro e H o h
  have key:∀o,aN (aq rec e H a.op) (fun r=>cc rec l (cb e a.dst r.1) r.2 (fun e H=>some (e,H)) ()) ()=some o→aN (aq rec' e H a.op) (fun r=>cc rec' l (cb e a.dst r.1) r.2 k ()) ()=k o.1 o.2:=by
   intro o h
   unfold aN at h
   split at h
   ·rename_i v hv
    rw[mf hrec hv]
    exact ih _ _ _ h
   ·cases h
  simp only[cc]at h⊢
  split at h
  ·exact key _ h
  ·rename_i t w _
   unfold fj at h⊢
   split at h
   ·unfold fork at h⊢
    dsimp only at h⊢
    rename_i b _
    cases hb:(b==w)with
    |true=>rw[hb]at h;exact key _ h
    |false=>rw[hb]at h;exact ih _ _ _ h
   ·unfold fork at h⊢
    exact ih _ _ _ h
   ·cases h
theorem tN{R:Type}(k:Env→ab→Option R):∀l N e H o,bX rec l N e H (fun e H=>some (e,H)) ()=some o→bX rec' l N e H k ()=k o.1 o.2:=by
 intro l
 induction l with
 |nil=>intro N e H o h;simp only[bX,Zs]at h ⊢;rw[←h]
 |cons a l ih=>
  intro N e H o h
  obtain⟨a,d⟩:=a
  have key:∀o,aN (bY rec N d e H a.op) (fun r=>bX rec l (fA d N r.2) (cb e a.dst r.1) r.2 (fun e H=>some (e,H)) ()) ()=some o→
   aN (bY rec' N d e H a.op) (fun r=>bX rec' l (fA d N r.2) (cb e a.dst r.1) r.2 k ()) ()=k o.1 o.2:=by
   intro o h
   unfold aN at h
   split at h
   ·rename_i v hv
    rw[yQ hrec hv]
    exact ih _ _ _ _ h
   ·cases h
  have key2:∀o,(bif hU d then bX rec l (fA d N H) (cb e a.dst .iz) H (fun e H=>some (e,H)) ()else none)=some o→
   (bif hU d then bX rec' l (fA d N H) (cb e a.dst .iz) H k ()else none)=k o.1 o.2:=by
   intro o h
   cases hs:hU d with
   |true=>rw[hs]at h;exact ih _ _ _ _ h
   |false=>rw[hs]at h;cases h
  simp only[bX]at h⊢
  split at h
  ·exact key _ h
  ·rename_i t w _
   unfold fj at h⊢
   split at h
   ·unfold fork at h⊢
    dsimp only at h⊢
    rename_i b _
    cases hb:(b==w)with
    |true=>rw[hb]at h;exact key _ h
    |false=>rw[hb]at h;exact key2 _ h
   ·unfold fork at h⊢
    exact key2 _ h
   ·cases h
theorem Cm{f g:Env×ab→Option Out}(hfg:∀s o,f s=some o→g s=some o):∀n s o,cI f n s=some o→cI g n s=some o:=by
 intro n
 induction n with
 |zero=>intro s o h;cases h
 |succ n ih=>
  intro s o h
  simp only[cI]at h⊢
  cases hf:f s with
  |none=>rw[hf]at h;cases h
  |some r=>
   rw[hfg _ _ hf]
   rw[hf]at h
   obtain⟨x,s'⟩:=r
   cases x with
   |normal=>exact ih _ _ h
   |exit j=>exact h
   |ret=>exact h
theorem fN(fu:Nat):∀(c:cn) (e:Env) (H:ab) (o:Out),eH rec fu c e H=some o→∀{R:Type} (k:kT→Env→ab→Option R),run rec' c e H k ()=k o.1 o.2.1 o.2.2:=by
 intro c
 induction c with
 |skip=>intro e H o h R k;simp only[eH,Zs]at h;subst h;rfl
 |ops l=>
  intro e H o h R k
  simp only[eH,Zb]at h
  obtain⟨s,hs,rfl⟩:=h
  exact qK hrec _ _ _ _ _ hs
 |drawn l=>
  intro e H o h R k
  simp only[eH,Zb]at h
  obtain⟨s,hs,rfl⟩:=h
  exact tN hrec _ _ _ _ _ _ hs
 |perm l os=>
  intro e H o h R k
  simp only[eH,Zb]at h
  obtain⟨s,hs,rfl⟩:=h
  obtain⟨h1,h2⟩:=tS _ hs
  have hmap:os.map (jl rec' l e H)=os.map (jl rec l e H):=by
   apply List.map_congr_left
   intro x hx
   have h3:=h2 _ (Z3.2 ⟨x,hx,rfl⟩)
   rw[h3]
   unfold jl at h3⊢
   rw[mU]at h3
   obtain⟨s2,h4,h5⟩:=Zd.1 h3
   have h6:cc rec (cC l x) e H (fun e H=>some (e,H)) ()=some s2:=by rw[mU,h4];rfl
   rw[qK hrec _ _ _ _ _ h6]
   exact h5
  simp only[run,hmap,h1,aN]
 |seq a b iha ihb=>
  intro e H o h R k
  simp only[eH]at h
  simp only[run]
  split at h
  ·rename_i e' H' ha
   rw[iha _ _ _ ha]
   exact ihb _ _ _ h k
  ·rename_i hn
   rw[iha _ _ _ h]
   obtain⟨x,e',H'⟩:=o
   cases x with
   |normal=>exact absurd h (hn _ _)
   |exit j=>rfl
   |ret=>rfl
 |cond c a b iha ihb=>
  intro e H o h R k
  simp only[eH]at h
  simp only[run]
  split at h
  ·rename_i t ht
   rw[ht]
   simp only[qm,fork]
   cases t with
   |true=>exact iha _ _ _ h k
   |false=>exact ihb _ _ _ h k
  ·cases h
 |block id a ih=>
  intro e H o h R k
  simp only[eH]at h
  simp only[run]
  split at h
  ·rename_i j e' H' ha
   rw[ih _ _ _ ha]
   cases h
   dsimp only
   cases j==id<;>rfl
  ·rename_i hn
   rw[ih _ _ _ h]
   obtain⟨x,e',H'⟩:=o
   cases x with
   |normal=>rfl
   |exit j=>exact absurd h (hn _ _ _)
   |ret=>rfl
 |freeze t=>
  intro e H o h R k
  simp only[eH,Zb]at h
  obtain⟨s,hs,rfl⟩:=h
  simp only[run,hs,aN]
 |bB vs=>
  intro e H o h R k
  simp only[eH,Zb]at h
  obtain⟨s,hs,rfl⟩:=h
  simp only[run,hs,aN]
 |Nc d neg x c ih=>
  intro e H o h R k
  simp only[eH]at h
  split at h
  ·rename_i hem
   simp only[run,hem,zW]
   exact ih _ _ _ h k
  ·cases h
 |loop p a ih=>
  intro e H o h R k
  simp only[eH]at h
  obtain⟨s,h1,h2⟩:=Zd.1 h
  obtain⟨o',h3,rfl⟩:=Zb.1 h2
  simp only[run,h1,aN]
  have h4:=Cm hrec (g:=fun s'=>(dU p s.2.bl.length {s.2 with bQ:=[]} s').bind fun s'=>run rec' a s'.1 s'.2 (fun x e H=>some (x,e,H)) ()) (fun s' o hs=>by
   obtain⟨q,g1,g2⟩:=Zd.1 hs
   exact Zd.2 ⟨q,g1,ih _ _ _ g2 _⟩) _ _ _ h3
  rw[nh h4]
 |gT f ps x y ihx ihy=>
  intro e H o h R k
  simp only[eH]at h
  obtain⟨s,h1,h2⟩:=Zd.1 h
  simp only[run,zO hrec h1,aN]
  split at h2
  ·rename_i q st pend hg
   rw[hg]
   cases st with
   |busy=>cases h2
   |ready=>obtain⟨o',h3,rfl⟩:=Zb.1 h2;simp only[h3]
   |done=>obtain⟨o',h3,rfl⟩:=Zb.1 h2;simp only[h3]
   |exhausted=>obtain⟨o',h3,rfl⟩:=Zb.1 h2;simp only[h3]
  ·cases h2
 |ext n=>
  intro e H o h R k
  simp only[eH,Zb]at h
  obtain⟨s,hs,rfl⟩:=h
  simp only[run,hs,aN]
 |exit id=>intro e H o h R k;simp only[eH,Zs]at h;subst h;rfl
 |ret=>intro e H o h R k;simp only[eH,Zs]at h;subst h;rfl
end
theorem iE{T:FuncId→Option aC}(fu:Nat):∀n f xs H r,kZ T fu n f xs H=some r→aa T n f xs H=some r:=by
 intro n
 induction n with
 |zero=>intro f xs H r h;simp[kZ]at h
 |succ n ih=>
  intro f xs H r h
  cases f with
  |fn f=>
   simp only[kZ]at h
   simp only[aa]
   split at h
   ·cases h
   ·rename_i F hF
    rw[hF]
    dsimp only
    cases hp:eA F xs with
    |true=>
     rw[hp]at h
     simp only[Zr]at h⊢
     obtain⟨v,hv,rfl⟩:=Zb.1 h
     obtain⟨o,h1,h2⟩:=Zd.1 hv
     rw[fN ih fu _ _ _ _ h1]
     obtain⟨x,e',H'⟩:=o
     cases x with
     |exit j=>cases h2
     |normal=>simp only at h2;simp only[h2,ZQ]
     |ret=>simp only at h2;simp only[h2,ZQ]
    |false=>
     rw[hp]at h
     simp only[Zu]at h⊢
     obtain⟨o,h1,h2⟩:=Zd.1 h
     rw[fN ih fu _ _ _ _ h1]
     obtain⟨x,e',H'⟩:=o
     cases x with
     |exit j=>cases h2
     |normal=>exact h2
     |ret=>exact h2
  |rW f=>
   simp only[kZ]at h
   simp only[aa]
   split at h
   ·cases h
   ·rename_i F hF
    rw[hF]
    dsimp only
    obtain⟨o,h1,h2⟩:=Zd.1 h
    rw[fN ih fu _ _ _ _ h1]
    obtain⟨x,e',H'⟩:=o
    cases x with
    |exit j=>cases h2
    |normal=>exact h2
    |ret=>exact h2
  |fp b=>
   simp only[kZ]at h
   simp only[aa]
   split at h
   ·rename_i q pend hg
    rw[hg]
    dsimp only
    cases hp:q.ps.length==xs.length with
    |false=>rw[hp]at h;cases h
    |true=>
     rw[hp]at h
     simp only[Zr]at h⊢
     obtain⟨o,h1,h2⟩:=Zd.1 h
     rw[fN ih fu _ _ _ _ h1]
     obtain⟨x,e',H'⟩:=o
     cases x with
     |exit j=>cases h2
     |ret=>cases h2
     |normal=>
      simp only at h2⊢
      obtain⟨H1,h3,h4⟩:=Zd.1 h2
      rw[h3]
      simp only[ZV]
      obtain⟨o,h5,h6⟩:=Zd.1 h4
      rw[fN ih fu _ _ _ _ h5]
      exact h6
   ·cases h
end
def post{A:Type}(v:Option A)(Q:A→Prop):Prop:=∃o,v=some o∧Q o
theorem yY{A:Type}{b:Bool}{x y:Option A}{t:oR (x,y)}{Q:A→Prop}(h1:b=true→post x Q)(h2:b=false→post y Q):post (fork b x y t) Q:=by
 cases b
 ·exact h2 rfl
 ·exact h1 rfl
@[go_sem] theorem IN {A:Type}(o:A)(Q:A→Prop):post (some o) Q=Q o:=by
  apply propext
  exact⟨fun⟨o',h1,h2⟩=>by cases h1;exact h2,fun h=>⟨o,rfl,h⟩⟩
@[go_sem] theorem Nn (e H):eZ [] e H=some (e,H):=Eq.trans rfl rfl
def uv(r:List (Nat×Nat))(t z:Nat)(e:Env)(H:ab):SV→Option (Env×ab)
 | .aA _ [] true=>eZ r ((t,.bp H.bl.length 0 0 0)::e) (bH H (.arr 0 z [] false))
 | .ptr b _ _ _=>(pK H b z (bk H b)).bind fun H=>eZ r e H
 | .aA _ (_::_) true=>eZ r e (bH H (.arr 0 z [] false))
 |_=>none
@[go_sem] theorem Jk (t z r e H):eZ ((t,z)::r) e H=uv r t z e H (get e t):=by
  simp only[eZ,uv]
  generalize get e t=v
  cases v<;>rfl
@[go_sem] theorem IY (t z z' r e H):uv r t z e H (.aA z' [] true)=eZ r ((t,.bp H.bl.length 0 0 0)::e) (bH H (.arr 0 z [] false)):=Eq.trans rfl rfl
@[go_sem] theorem Jf (t z r e H b v i o):uv r t z e H (.ptr b v i o)=aN (pK H b z (bk H b)) (fun H=>eZ r e H) ():=by
  simp only[uv]
  cases pK H b z (bk H b)<;>rfl
@[go_sem] theorem Ix (H b z c d cs):pK H b z (some (.box (c::d::cs)))=xy H b (z%1000) (z/1000) (c::d::cs) ((c::d::cs)[z/1000]?):=by
  simp only[pK]
@[go_sem] theorem Jh (H b z j cs z'):xy H b z j cs (some (.aA z' [] true))=cp (bH H (.arr 0 z [] false)) b (.box (cs.set j (.bp H.bl.length 0 0 0))) (H.bl.length+1):=Eq.trans rfl rfl
@[go_sem] theorem pj (p N H0 e H):dU p N H0 (e,H)=aN (dL p.bB (N-p.bB.length) N e H) (fun s=>ve p N H0 s) ():=by
  show(dL p.bB (N-p.bB.length) N e H).bind (ve p N H0)=_
  cases dL p.bB (N-p.bB.length) N e H<;>rfl
@[go_sem] theorem GW (i l):jD (i::l)=(i==999999):=Eq.trans rfl rfl
@[go_sem] theorem pM (p N H0 e H):ve p N H0 (e,H)=bif jD p.live then some (dx p.live.tail e,H)else bif decide (SV.refs.au ((dx p.live e).map (·.2))≤N)then(cV N H0 H).map (fun H=>(dx p.live e,H))else none:=Eq.trans rfl rfl
def sC(r:List (Nat×Nat))(t z h N:Nat)(e:Env)(H:ab):SV→Option (Env×ab)
 | .bp b v 0 n=>bif decide (N≤b)then(bif decide (h<N)then aN (ql H t h z b v n e (bk H h) (bk H b)) (fun s=>dL r (h+1) N s.1 s.2) ()else dL r (h+1) N e H)else dL r (h+1) N e H
 |_=>dL r (h+1) N e H
@[go_sem] theorem lr (h N e H):dL [] h N e H=some (e,H):=Eq.trans rfl rfl
@[go_sem] theorem F8 (t z r h N e H):dL ((t,z)::r) h N e H=sC r t z h N e H (get e t):=by
  simp only[dL,sC]
  generalize get e t=v
  cases v<;>try rfl
  rename_i b v off n
  cases off with
  |succ k=>rfl
  |zero=>
   simp only
   cases decide (N≤b)<;>cases decide (h<N)<;>try rfl
   show Option.bind _ _=aN _ _ ()
   cases ql H t h z b v n e (bk H h) (bk H b)<;>rfl
@[go_sem] theorem FE (r t z h N e H b v n):sC r t z h N e H (.bp b v 0 n)=bif decide (N≤b)then(bif decide (h<N)then aN (ql H t h z b v n e (bk H h) (bk H b)) (fun s=>dL r (h+1) N s.1 s.2) ()else dL r (h+1) N e H)else dL r (h+1) N e H:=Eq.trans rfl rfl
@[go_sem] theorem IS (H t h z b v n e z0 ex0 v' z' L ex):ql H t h z b v n e (some (.arr 0 z0 [] ex0)) (some (.arr v' z' L ex))=bif z'==z&&v==v'&&n==L.length&&decide (H.ro≤h)&&!(h==b)&&SV.refs.au L.flatten==0 then
 some ((t,.bp h (v+1) 0 n)::e,{bl:=(H.bl.set h (.arr (v+1) z L ex)).set b .dead,bQ:=H.bQ,ro:=H.ro})else none:=Eq.trans rfl rfl
@[go_sem] theorem Kv (e):dx [] e=[]:=Eq.trans rfl rfl
@[go_sem] theorem I4 (i l e):dx (i::l) e=(i,get e i)::dx l e:=Eq.trans rfl rfl
@[go_sem] theorem yT (N r bl r' es):cV N ⟨r,es,r'⟩ ⟨bl,[],0⟩=bif decide (N≤bl.length)then some ⟨bl.take N,es,r'⟩else none:=by
  unfold cV
  simp
@[go_sem] theorem uJ (N H0 H):cV N H0 H=bif decide (N≤H.bl.length)&&H.bQ.all (fun p=>!(decide (p.1<N)&&decide (N<p.2)))then some {bl:=H.bl.take N,bQ:=H0.bQ++H.bQ.filter (fun p=>decide (p.1<N)),ro:=H0.ro} else none:=Eq.trans rfl rfl
attribute [go_sem] List.all_nil List.all_cons List.filter_nil aa8 aaj
@[go_sem] theorem Sv (z L f ix):iq (.aA z L f) ix=(iD L.length ix).bind fun i=>(L[i]?).map .fE:=Eq.trans rfl rfl
@[go_sem] theorem Uw (b v off n ix):iq (.bp b v off n) ix=(iD n ix).map fun i=>.ptr b v (off+i) 0:=Eq.trans rfl rfl
@[go_sem] theorem TS (n k i):iD n (.int k i)=bif decide (0≤i)&&decide (i<(n:Int))then some i.toNat else none:=Eq.trans rfl rfl
@[go_sem] theorem UT (i:Nat):decide ((0:Int)≤(i:Int))=true:=by simp
@[go_sem] theorem Qj (i n:Nat):decide ((i:Int)<(n:Int))=decide (i<n):=by simp
theorem fS{T:FuncId→Option aC}{f:FuncId}{F:aC}{xs:List SV}{n:Nat}{H H0 H1:ab}{v:SV}(hT:T f=some F)(hp:eA F xs=true)
 (h:aa T (n+1) (.fn f) xs H0=some (v,H1)):aa T (n+1) (.fn f) xs H=some (v,H):=by
 simp only[aa,hT,hp,Zr,Zb]at h⊢
 obtain⟨a,h1,h2⟩:=h
 cases h2
 exact⟨_,h1,rfl⟩
theorem bj{T:FuncId→Option aC}{f:FuncId}{F:aC}{xs:List SV}{n:Nat}{H:ab}{r:SV×ab}(hT:T f=some F)(hp:eA F xs=false)
 (h:runK (aa T n) (oJ F.res (fun v H'=>cR F.keep H v H')) F.body [] (dR xs) ⟨H.bl,[],min H.ro H.bl.length⟩ ()=some r):aa T (n+1) (.fn f) xs H=some r:=by
 have hk:∀k:kT→Env→ab→Option (SV×ab),k=oJ F.res (fun v H'=>cR F.keep H v H')→run (aa T n) F.body (dR xs) ⟨H.bl,[],min H.ro H.bl.length⟩ k ()=some r:=by
  intro k hk
  rw[hk,kc]
  exact h
 simp only[aa,hT,hp,Zu]
 exact hk _ (by funext x e H';cases x<;>rfl)
theorem fg{T:FuncId→Option aC}{f:FuncId}{F:aC}{xs:List SV}{n:Nat}{H:ab}{r:SV×ab}(hT:T f=some F)
 (h:runK (aa T n) (oJ F.res (fun v H'=>cR true H v H')) F.body [] (dR xs) ⟨H.bl,[],min H.ro H.bl.length⟩ ()=some r):aa T (n+1) (.rW f) xs H=some r:=by
 have hk:∀k:kT→Env→ab→Option (SV×ab),k=oJ F.res (fun v H'=>cR true H v H')→run (aa T n) F.body (dR xs) ⟨H.bl,[],min H.ro H.bl.length⟩ k ()=some r:=by
  intro k hk
  rw[hk,kc]
  exact h
 simp only[aa,hT]
 exact hk _ (by funext x e H';cases x<;>rfl)
@[go_sem] theorem Gr (H0 v H):cR true H0 v H=some (v,⟨H.bl,H0.bQ++H.bQ,H0.ro⟩):=Eq.trans rfl rfl
@[go_sem] theorem nQ (H0 v H):cR false H0 v H=(ec H0.bl.length H cA v).bind fun v=>(cV H0.bl.length H0 H).map fun H=>(v,H):=Eq.trans rfl rfl
def pq(b:Nat)(H:ab)(x:kT)(_:Env)(H':ab):Option (SV×ab):=aN (eX b (match x with| .normal=>.ready|_=>.done) x H') (fun H'=>(cV H.bl.length H H').map fun H'=>(.bool (match x with| .normal=>true|_=>false),H')) ()
noncomputable def tT (rec:Rec) (body:cn) (b:Nat) (H:ab) (x:kT) (e:Env) (H':ab):Option (SV×ab):=match x with
 | .normal=>aN (ez b H') (fun H'=>runK rec (pq b H) body [] e H' ()) ()
 |_=>none
@[go_sem] theorem OP (rec body b H e H'):tT rec body b H .normal e H'=aN (ez b H') (fun H'=>runK rec (pq b H) body [] e H' ()) ():=Eq.trans rfl rfl
@[go_sem] theorem OY (b H e H'):pq b H .normal e H'=aN (eX b .ready .normal H') (fun H'=>(cV H.bl.length H H').map fun H'=>(.bool true,H')) ():=Eq.trans rfl rfl
@[go_sem] theorem Pt (b H j e H'):pq b H (.exit j) e H'=aN (eX b .done (.exit j) H') (fun H'=>(cV H.bl.length H H').map fun H'=>(.bool false,H')) ():=Eq.trans rfl rfl
def vX(b:Nat)(H:ab):Option aD→Option ab
 |some (.loop q .ready pend)=>cp H b (.loop q .busy pend) 0
 |_=>none
@[go_sem] theorem MR (b H):ez b H=vX b H (bk H b):=by
  unfold ez vX
  cases bk H b with
  |none=>rfl
  |some x=>cases x<;>rfl
@[go_sem] theorem D3 (b H q pend):vX b H (some (.loop q .ready pend))=cp H b (.loop q .busy pend) 0:=Eq.trans rfl rfl
def qw(b:Nat)(st:LoopState)(pend:kT)(H:ab):Option aD→Option ab
 |some (.loop q _ _)=>cp H b (.loop q st pend) 0
 |_=>none
@[go_sem] theorem Hw (b st pend H):eX b st pend H=qw b st pend H (bk H b):=by
  unfold eX qw
  cases bk H b with
  |none=>rfl
  |some x=>cases x<;>rfl
@[go_sem] theorem CT (b st pend H q s p):qw b st pend H (some (.loop q s p))=cp H b (.loop q st pend) 0:=Eq.trans rfl rfl
theorem nK{T:FuncId→Option aC}{b n:Nat}{xs:List SV}{H:ab}{q:eN}{pend:kT}{r:SV×ab}(hg:bk H b=some (.loop q .ready pend))(hl:(q.ps.length==xs.length)=true)
 (h:runK (aa T n) (tT (aa T n) q.body b H) q.assign [] ((q.ps.zip xs).reverse++q.env) ⟨H.bl,[],min H.ro H.bl.length⟩ ()=some r):aa T (n+1) (.fp b) xs H=some r:=by
 have hk2:∀(k:kT→Env→ab→Option (SV×ab)),k=pq b H→∀e H',run (aa T n) q.body e H' k ()=runK (aa T n) (pq b H) q.body [] e H' ():=by
  intro k hk e H'
  rw[hk,kc]
 have hk:∀k:kT→Env→ab→Option (SV×ab),k=tT (aa T n) q.body b H→run (aa T n) q.assign ((q.ps.zip xs).reverse++q.env) ⟨H.bl,[],min H.ro H.bl.length⟩ k ()=some r:=by
  intro k hk
  rw[hk,kc]
  exact h
 simp only[aa,hg,hl,Zr]
 refine hk _ ?_
 funext x e H'
 cases x with
 |ret=>rfl
 |exit j=>rfl
 |normal=>
  simp only[tT]
  cases hb:ez b H' with
  |none=>rfl
  |some H1=>
   simp only[ZV,aN]
   exact hk2 _ (by funext x e H';unfold pq;cases x<;>(simp only[aN];cases eX b _ _ H'<;>rfl)) _ _
def Round{R:Type}(p:ct)(N:Nat)(H0:ab)(σ:Nat→Env×ab)(P:Nat→Prop)(m i:Nat)(k:Out→Option R)(r:Option R)(o:Out):Prop:=match o with
 |(.normal,s')=>i<m∧dU p N H0 s'=some (σ (i+1))∧P (i+1)
 |o=>k o=r
@[go_sem] theorem N3 {R:Type}(p N H0 σ P m i)(k:Out→Option R)(r s):Round p N H0 σ P m i k r (.normal,s)=(i<m∧dU p N H0 s=some (σ (i+1))∧P (i+1)):=Eq.trans rfl rfl
@[go_sem] theorem O0 {R:Type}(p N H0 σ P m i)(k:Out→Option R)(r j s):Round p N H0 σ P m i k r (.exit j,s)=(k (.exit j,s)=r):=Eq.trans rfl rfl
@[go_sem] theorem Pf {R:Type}(p N H0 σ P m i)(k:Out→Option R)(r s):Round p N H0 σ P m i k r (.ret,s)=(k (.ret,s)=r):=Eq.trans rfl rfl
theorem bn{R:Type}{p:ct}{N:Nat}{H0:ab}{rec:Rec}{a:cn}{s0:Env×ab}{k:Out→Option R}{r:Option R}
 (σ:Nat→Env×ab) (P:Nat→Prop) (m:Nat) (h0:dU p N H0 s0=some (σ 0)) (hP:P 0)
 (h:∀i,i≤m→P i→post (runK rec (fun x e H=>some (x,e,H)) a [] (σ i).1 (σ i).2 ()) (Round p N H0 σ P m i k r)) :
 aN (ki (eP p N H0 rec a) s0) k ()=r:=by
 have key:∀(j i:Nat) (s:Env×ab),i+j=m→P i→dU p N H0 s=some (σ i)→∃n o,cI (eP p N H0 rec a) n s=some o∧k o=r:=by
  intro j
  induction j with
  |zero=>
   intro i s hi hPi hs
   obtain⟨o,h1,h2⟩:=h i (by omega) hPi
   have hf:eP p N H0 rec a s=some o:=by rw[gB,hs];exact h1
   obtain⟨x,s'⟩:=o
   cases x with
   |normal=>exact absurd h2.1 (by omega)
   |exit id=>exact⟨1,_,by simp only[cI,hf],h2⟩
   |ret=>exact⟨1,_,by simp only[cI,hf],h2⟩
  |succ j ih=>
   intro i s hi hPi hs
   obtain⟨o,h1,h2⟩:=h i (by omega) hPi
   have hf:eP p N H0 rec a s=some o:=by rw[gB,hs];exact h1
   obtain⟨x,s'⟩:=o
   cases x with
   |normal=>
    obtain⟨n,o,h3,h4⟩:=ih (i+1) s' (by omega) h2.2.2 h2.2.1
    exact⟨n+1,o,by simp only[cI,hf];exact h3,h4⟩
   |exit id=>exact⟨1,_,by simp only[cI,hf],h2⟩
   |ret=>exact⟨1,_,by simp only[cI,hf],h2⟩
 obtain⟨n,o,h1,h2⟩:=key m 0 s0 (by omega) hP h0
 exact EP o (nh h1) h2
def sV{R:Type}(p:ct)(N:Nat)(H0:ab)(σ:Nat→Env×ab)(P:Nat→Prop)(m i:Nat)(k:Out→Option R)(Q:R→Prop)(o:Out):Prop:=match o with
 |(.normal,s')=>i<m∧dU p N H0 s'=some (σ (i+1))∧P (i+1)
 |o=>post (k o) Q
@[go_sem] theorem JR {R:Type}(p N H0 σ P m i)(k:Out→Option R)(Q s):sV p N H0 σ P m i k Q (.normal,s)=(i<m∧dU p N H0 s=some (σ (i+1))∧P (i+1)):=Eq.trans rfl rfl
@[go_sem] theorem Kk {R:Type}(p N H0 σ P m i)(k:Out→Option R)(Q j s):sV p N H0 σ P m i k Q (.exit j,s)=post (k (.exit j,s)) Q:=Eq.trans rfl rfl
@[go_sem] theorem NG {R:Type}(p N H0 σ P m i)(k:Out→Option R)(Q s):sV p N H0 σ P m i k Q (.ret,s)=post (k (.ret,s)) Q:=Eq.trans rfl rfl
theorem rX{R:Type}{p:ct}{N:Nat}{H0:ab}{rec:Rec}{a:cn}{s0:Env×ab}{k:Out→Option R}{Q:R→Prop}
 (σ:Nat→Env×ab) (P:Nat→Prop) (m:Nat) (h0:dU p N H0 s0=some (σ 0)) (hP:P 0)
 (h:∀i,i≤m→P i→post (runK rec (fun x e H=>some (x,e,H)) a [] (σ i).1 (σ i).2 ()) (sV p N H0 σ P m i k Q)) :
 post (aN (ki (eP p N H0 rec a) s0) k ()) Q:=by
 have key:∀(j i:Nat) (s:Env×ab),i+j=m→P i→dU p N H0 s=some (σ i)→∃n o,cI (eP p N H0 rec a) n s=some o∧post (k o) Q:=by
  intro j
  induction j with
  |zero=>
   intro i s hi hPi hs
   obtain⟨o,h1,h2⟩:=h i (by omega) hPi
   have hf:eP p N H0 rec a s=some o:=by rw[gB,hs];exact h1
   obtain⟨x,s'⟩:=o
   cases x with
   |normal=>exact absurd h2.1 (by omega)
   |exit id=>exact⟨1,_,by simp only[cI,hf],h2⟩
   |ret=>exact⟨1,_,by simp only[cI,hf],h2⟩
  |succ j ih=>
   intro i s hi hPi hs
   obtain⟨o,h1,h2⟩:=h i (by omega) hPi
   have hf:eP p N H0 rec a s=some o:=by rw[gB,hs];exact h1
   obtain⟨x,s'⟩:=o
   cases x with
   |normal=>
    obtain⟨n,o,h3,h4⟩:=ih (i+1) s' (by omega) h2.2.2 h2.2.1
    exact⟨n+1,o,by simp only[cI,hf];exact h3,h4⟩
   |exit id=>exact⟨1,_,by simp only[cI,hf],h2⟩
   |ret=>exact⟨1,_,by simp only[cI,hf],h2⟩
 obtain⟨n,o,h1,h2⟩:=key m 0 s0 (by omega) hP h0
 rw[nh h1]
 exact h2
def gZ{A:Type}(p:A→Bool):List A→Int
 |[]=> -1
 |a::l=>if p a then 0 else if gZ p l<0 then -1 else gZ p l+1
theorem iF{A:Type}(p:A→Bool):∀l:List A,decide (0≤gZ p l)=l.any p
 |[]=>rfl
 |a::l=>by
  have ih:=iF p l
  rw[aam,Ze]at ih⊢
  simp only[gZ,acp,Z6,←ih]
  by_cases hp:p a=true
  ·simp[hp]
  ·rw[if_neg hp]
   simp only[hp,ZY,false_or]
   split<;>omega
theorem gA{A:Type}{p:A→Bool}:∀{l:List A},(∀(j:Nat) a,l[j]?=some a→p a=false)→gZ p l= -1
 |[],_=>rfl
 |a::l,h=>by
  have h0:=h 0 a rfl
  have ih:=gA (l:=l) (fun j b hb=>h (j+1) b (by simpa using hb))
  simp[gZ,h0,ih]
theorem jt{A:Type}{p:A→Bool}:∀{l:List A} {i:Nat} {a:A},l[i]?=some a→p a=true→(∀(j:Nat) b,j<i→l[j]?=some b→p b=false)→gZ p l=i
 |[],i,a,h,_,_=>by simp at h
 |b::l,0,a,h,hp,_=>by simp at h;subst h;simp[gZ,hp]
 |b::l,i+1,a,h,hp,hn=>by
  have h0:=hn 0 b (by omega) rfl
  have ih:=jt (l:=l) (i:=i) (by simpa using h) hp (fun j c hj hc=>hn (j+1) c (by omega) (by simpa using hc))
  simp only[gZ,h0,ih,ZY,if_false]
  rw[if_neg (by omega)]
  omega
def R2(bP:Nat)(H:ab)(b v off n:Nat)(X:List (List SV)):Option aD→Option (SV×ab)
 |some (.arr v' z L e)=>bif v==v'&&z==bP&&decide (off+n≤L.length)then
   bif !e&&off==0&&n==L.length then(cp H b (.arr (v+1) z (L++X) false) (SV.refs.au X.flatten)).map fun H=>(.bp b (v+1) off (n+X.length),H)
   else bif decide (off+n+X.length≤L.length)then(cp H b (.arr v z (L.take (off+n)++X++L.drop (off+n+X.length)) e) (SV.refs.au X.flatten)).map fun H=>(.bp b v off (n+X.length),H)
   else bif e then some (.bp H.bl.length 0 0 (n+X.length),bH H (.arr 0 z ((L.drop off).take n++X) false))else none
  else none
 |_=>none
@[go_sem] theorem RJ (bP bytes H b v off n X):gn bP bytes H (.bp b v off n) X=bif decide ((n+X.length)*bytes≤ch)then R2 bP H b v off n X (bk H b)else none:=by
  simp only[gn]
  generalize bk H b=q
  cases q with
  |none=>rfl
  |some q=>cases q<;>rfl
theorem fQ(bP:Nat)(H:ab)(b v n:Nat)(X L:List (List SV))(h:L.length=n):R2 bP H b v 0 n X (some (.arr v bP L false))=(cp H b (.arr (v+1) bP (L++X) false) (SV.refs.au X.flatten)).map fun H=>(.bp b (v+1) 0 (n+X.length),H):=by
 subst h
 simp[R2]
@[go_sem] theorem PH (bP bytes H z X):gn bP bytes H (.aA z [] true) X=bif decide (X.length*bytes≤ch)then some (.bp H.bl.length 0 0 X.length,bH H (.arr 0 bP X false))else none:=by
  simp[gn]
def Jc(N:Nat)(H:ab)(d v off n:Nat):Option aD→Option SV
 |some (.arr ver' z L ex)=>bif v==ver'&&decide (off+n≤L.length)then
   (bN (((L.drop off).take n).map fun cs=>bN (cs.map (ec N H d)))).bind fun L'=>bif SV.refs.au L'.flatten==0 then some (.aA z L' (ex&&off+n==L.length))else none
  else none
 |_=>none
@[go_sem] theorem UN (N H d b v off n):ec N H (d+1) (.bp b v off n)=bif decide (b<N)then some (.bp b v off n)else Jc N H d v off n (bk H b):=by
  simp only[ec]
  generalize bk H b=q
  cases q with
  |none=>rfl
  |some q=>cases q<;>rfl
theorem mN{A:Type}{f:A→Option A}:∀{l:List A},(∀a∈l,f a=some a)→bN (l.map f)=some l
 |[],_=>rfl
 |a::l,h=>by
  have ih:=mN (f:=f) (l:=l) (fun b hb=>h b (by simp[hb]))
  simp only[ZO,h a (by simp),bN,ih,ZQ]
theorem nF:∀{L:List (List SV)},(∀cs∈L,∀c∈cs,c.refs=0)→SV.refs.au L.flatten=0
 |[],_=>by simp[SV.refs.au]
 |cs::L,h=>by
  have ih:=nF (L:=L) (fun b hb=>h b (by simp[hb]))
  have key:∀(cs:List SV),(∀c∈cs,c.refs=0)→SV.refs.au (cs++L.flatten)=0:=by
   intro cs
   induction cs with
   |nil=>intro _;exact ih
   |cons c cs ih2=>intro hc;simp only[Z5,SV.refs.au,hc c (by simp),ih2 (fun x hx=>hc x (by simp[hx]))];rfl
  exact key cs (h cs (by simp))
theorem yL(N:Nat)(H:ab)(d v n z:Nat)(L:List (List SV))(e:Bool)(h:L.length=n)(h1:∀cs∈L,∀c∈cs,ec N H d c=some c)(h2:∀cs∈L,∀c∈cs,c.refs=0) :
 Jc N H d v 0 n (some (.arr v z L e))=some (.aA z L e):=by
 subst h
 simp only[Jc,abi,aaj,aae,aaz,Zp,aaq,ZD,Zr,aa9]
 rw[mN (fun cs hcs=>mN (fun c hc=>h1 cs hcs c hc))]
 simp[nF h2]
theorem ji{a:Bool×List DT}{as1:List (Bool×List DT)}{xs:List SV}(h:gw (a::as1) xs):∃x r,xs=x::r∧uB a x∧gw as1 r:=by
 obtain⟨h1,h2⟩:=h
 cases xs with
 |nil=>simp at h1
 |cons x r=>exact⟨x,r,rfl,h2 0 a x rfl rfl,by simpa using h1,fun j a' x' ha hx=>h2 (j+1) a' x' ha hx⟩
theorem kp{xs:List SV}(h:gw [] xs):xs=[]:=aan h.1
theorem zp{es:List DT}{x:SV}(h:uB (true,es) x):∃cs,x=.agg cs∧cG es cs:=h
theorem aY{k:IntKind}{es:List DT}{cs:List SV}(h:cG (.int k::es) cs):∃n r,cs=.int k n::r∧(Lit.int k n).wf=true∧cG es r:=by
 obtain⟨c,r,rfl,h1,h2⟩:=lD h
 obtain⟨n,rfl,h3⟩:=fits_int h1
 exact⟨n,r,rfl,h3,h2⟩
theorem fO{es' es:List DT}{cs:List SV}(h:cG (.aA es'::es) cs):∃L f r,cs=.aA es'.length L f::r∧L.length≤maxLen∧(∀q∈L,cG es' q)∧cG es r:=by
 obtain⟨c,r,rfl,h1,h2⟩:=lD h
 obtain⟨L,f,rfl,h3,h4⟩:=BL h1
 exact⟨L,f,r,rfl,h3,h4,h2⟩
attribute [go_sem] ace Bool.true_xor Bool.false_xor Bool.xor_true Bool.xor_false
section
def jc(ag:Bool)(z:Nat):aC:=⟨[(.tmp 4)],(.seq (.ops [⟨(some 4),(.eb (.c (.int .i64 0))),none⟩]) (.seq (.seq (.ops [⟨(some 6),(.eb (.t 0)),none⟩,⟨(some 7),(.len (.t 6)),none⟩,⟨(some 8),(.eb (.c (.int .i64 0))),none⟩]) (.block 0 (.loop ⟨[0,1,7,8],[]⟩ (.seq (.ops [⟨(some 9),(.bin .lss (.t 8) (.t 7)),none⟩]) (.seq (.cond (.t 9) .skip (.exit 0)) (.seq (.block 1 (.seq (.ops [⟨(some 10),(.eb (.t 8)),none⟩,⟨(some 5),(.eb (.t 10)),none⟩]) (.seq (.ops [⟨(some 11),(.eb (.t 1)),none⟩,⟨(some 12),(.eb (.t 0)),none⟩,⟨(some 13),(.eb (.t 5)),none⟩,⟨(some 14),(.bu z (.t 12) (.t 13)),none⟩,⟨(some 15),(.load ag z (.t 14)),none⟩,⟨(some 16),(.call (.t 11) [(.t 15)]),none⟩]) (.cond (.t 16) (.seq (.ops [⟨(some 17),(.eb (.t 5)),none⟩,⟨(some 4),(.eb (.t 17)),none⟩]) .ret) .skip)))) (.ops [⟨(some 18),(.bin .add (.t 8) (.c (.int .i64 1))),none⟩,⟨(some 8),(.eb (.t 18)),none⟩]))))))) (.seq (.ops [⟨(some 4),(.eb (.c (.int .i64 (-1)))),none⟩]) .ret))),false⟩
def rS(g:FuncId):aC:=⟨[(.tmp 4)],(.seq (.ops [⟨(some 4),(.eb (.c (.bool false))),none⟩]) (.seq (.ops [⟨(some 5),(.eb (.t 0)),none⟩,⟨(some 6),(.eb (.t 1)),none⟩,⟨(some 7),(.call (.c (.fn g [])) [(.t 5),(.t 6)]),none⟩,⟨(some 8),(.bin .geq (.t 7) (.c (.int .i64 0))),none⟩,⟨(some 4),(.eb (.t 8)),none⟩]) .ret)),false⟩
def pO:aC:=⟨[(.tmp 4)],(.seq (.ops [⟨(some 4),(.eb (.c (.int .i64 0))),none⟩]) (.seq (.seq (.ops [⟨(some 6),(.eb (.t 0)),none⟩,⟨(some 7),(.len (.t 6)),none⟩,⟨(some 8),(.eb (.c (.int .i64 0))),none⟩]) (.block 0 (.loop ⟨[0,1,7,8],[]⟩ (.seq (.ops [⟨(some 9),(.bin .lss (.t 8) (.t 7)),none⟩]) (.seq (.cond (.t 9) .skip (.exit 0)) (.seq (.block 1 (.seq (.ops [⟨(some 10),(.eb (.t 8)),none⟩,⟨(some 5),(.eb (.t 10)),none⟩]) (.seq (.ops [⟨(some 11),(.eb (.t 1)),none⟩,⟨(some 12),(.eb (.t 0)),none⟩,⟨(some 13),(.eb (.t 5)),none⟩,⟨(some 14),(.bu 1 (.t 12) (.t 13)),none⟩,⟨(some 15),(.load false 1 (.t 14)),none⟩,⟨(some 16),(.bin .eql (.t 11) (.t 15)),none⟩]) (.cond (.t 16) (.seq (.ops [⟨(some 17),(.eb (.t 5)),none⟩,⟨(some 4),(.eb (.t 17)),none⟩]) .ret) .skip)))) (.ops [⟨(some 18),(.bin .add (.t 8) (.c (.int .i64 1))),none⟩,⟨(some 8),(.eb (.t 18)),none⟩]))))))) (.seq (.ops [⟨(some 4),(.eb (.c (.int .i64 (-1)))),none⟩]) .ret))),false⟩
def sP(g:FuncId):aC:=⟨[(.tmp 4)],(.seq (.ops [⟨(some 4),(.eb (.c (.bool false))),none⟩]) (.seq (.ops [⟨(some 5),(.eb (.t 0)),none⟩,⟨(some 6),(.eb (.t 1)),none⟩,⟨(some 7),(.call (.c (.fn g [])) [(.t 5),(.t 6)]),none⟩,⟨(some 8),(.bin .geq (.t 7) (.c (.int .i64 0))),none⟩,⟨(some 4),(.eb (.t 8)),none⟩]) .ret)),false⟩
def iS(P:List Int):List (List SV):=P.map fun p=>[.int .i64 p]
@[go_sem] theorem G5 {W:List Int}:(iS W).length=W.length:=by simp[iS]
@[go_sem] theorem H9 (W:List Int)(i:Nat):(iS W)[i]?=(W[i]?).map (fun p=>[.int .i64 p]):=by simp[iS]
theorem EG(L:List Int):∀cs∈iS L,∀c∈cs,c.refs=0:=by
 intro cs hcs c hc
 simp only[iS,Z3]at hcs
 obtain⟨b,_,rfl⟩:=hcs
 simp only[aab]at hc
 subst hc
 simp[SV.refs]
theorem Ho(L:List Int)(M H d):∀cs∈iS L,∀c∈cs,ec M H (d+1) c=some c:=by
 intro cs hcs c hc
 simp only[iS,Z3]at hcs
 obtain⟨b,_,rfl⟩:=hcs
 simp only[aab]at hc
 subst hc
 simp only[ec]
theorem xg(L:List Int)(x:Int):iS L++[[.int .i64 x]]=iS (L++[x]):=by simp[iS]
theorem EK(L:List Int)(n:Nat):(iS L).take n=iS (L.take n):=by simp[iS]
theorem bV{A:Type}{l:List A}{i:Nat}(h:i<l.length):∃a,l[i]?=some a:=⟨l[i],Zq h⟩
theorem bR{i n:Nat}(h:i<n)(hn:n≤maxLen):bb ((i:Int)+1)=((i+1:Nat):Int):=by
 simp only[maxLen]at hn
 rw[ao (by omega) (by omega)];omega
def el(ag:Bool)(r:List SV):SV:=bif ag then .agg r else r.headD .undef
theorem Kd{ag:Bool}{z:Nat}{r:List SV}(h:r.length=z)(h1:ag=false→z=1):cS ag z r 0=some (el ag r):=by
 cases ag with
 |true=>subst h;simp[cS,el]
 |false=>
  have:=h1 rfl
  subst this
  match r,h with
  |[x],_=>rfl
inductive LV(bl:List aD)(z:Nat)(L:List (List SV)):SV→Prop
 |aA (z':Nat) (f:Bool) (hz:z'=z∨L=[]):LV bl z L (.aA z' L f)
 |bp (b cw off:Nat) (L':List (List SV)) (ex:Bool) (hb:bl[b]?=some (.arr cw z L' ex)) (hle:off+L.length≤L'.length) (hL:L=(L'.drop off).take L.length):LV bl z L (.bp b cw off L.length)
section
variable{bl:List aD}{z:Nat}{L:List (List SV)}{v:SV}
theorem LV.cur(h:LV bl z L v)(es ro):cur ⟨bl,es,ro⟩ v=true:=by
 cases h with
 |aA=>rfl
 |bp b cw off L' ex hb=>simp[Sh.cur,bk,hb]
theorem LV.dY(h:LV bl z L v)(es ro):dY ⟨bl,es,ro⟩ z v=true:=by
 cases h with
 |aA z' f hz=>rcases hz with rfl|rfl<;>simp[Sh.dY]
 |bp b cw off L' ex hb=>simp[Sh.dY,bk,hb]
theorem LV.len(h:LV bl z L v):oM v=some L.length:=by cases h<;>rfl
theorem LV.at(h:LV bl z L v){i:Nat}{r:List SV}(hi:L[i]?=some r):∃p,iq v (.int .i64 i)=some p∧∀ag n es ro,cW ag n ⟨bl,es,ro⟩ p=cS ag n r 0:=by
 have hlt:=(Y8.1 hi).1
 cases h with
 |aA z' f hz=>exact⟨.fE r,by simp[iq,iD,hlt];exact(Y8.1 hi).2,fun ag n es ro=>by simp[cW]⟩
 |bp b cw off L' ex hb hle hL=>
  refine⟨.ptr b cw (off+i) 0,by simp[iq,iD,hlt],fun ag n es ro=>?_⟩
  have:L'[off+i]?=some r:=by
   rw[hL,ZC,if_pos hlt,ZT]at hi
   exact hi
  simp[cW,bk,hb,this]
theorem LV.refs(h:LV bl z L v):v.refs≤bl.length:=by
 cases h with
 |aA z' f hz=>simp[SV.refs]
 |bp b cw off L' ex hb hle hL=>
  have:=(Y8.1 hb).1
  simp[SV.refs];omega
theorem LV.nil(h:LV bl z L v)(h0:v.refs=0):LV [] z L v:=by
 cases h with
 |aA z' f hz=>exact .aA z' f hz
 |bp b cw off L' ex hb hle hL=>simp[SV.refs]at h0
end
section
variable{T:FuncId→Option aC}{f:FuncId}{F:aC}{xs:List SV}{n:Nat}{H:ab}
theorem mH{v:SV}(hT:T f=some F)(hk:F.keep=false)(hs:jG v=true)
 (h:∀(R:Type) (k:SV→ab→Option R) (bl:List aD) (ro:Nat),(bl=[]∧SV.refs.au xs=0∨bl=H.bl)→runK (aa T n) (oJ F.res k) F.body [] (dR xs) ⟨bl,[],ro⟩ ()=k v ⟨bl,[],ro⟩) :
 aa T (n+1) (.fn f) xs H=some (v,H):=by
 have hfz:∀N H',ec N H' cA v=some v:=fun N H'=>by
  cases v<;>simp only[jG,ZY]at hs<;>simp[cA,ec,SV.refs]
 cases hp:eA F xs with
 |true=>
  refine ae hT hp ?_
  have hr:SV.refs.au xs=0:=by
   unfold eA at hp
   simp only[Zh,aah]at hp
   exact hp.1
  exact(h SV (fun v H'=>ec 0 H' cA v) [] 0 (.inl ⟨rfl,hr⟩)).trans (hfz _ _)
 |false=>
  refine bj hT hp ?_
  refine(h _ (fun v H'=>cR F.keep H v H') H.bl _ (.inr rfl)).trans ?_
  rw[hk,nQ,hfz]
  simp only[ZV,yT,Zp,aaq,Zr,ZQ,aaj]
  obtain⟨bl,es,ro⟩:=H
  simp[Sh.cV]
theorem pN{ag:Bool}{z id:Nat}{caps:List SV}{v:SV}{L:List (List SV)}{p:List SV→Bool}(hT:T f=some (jc ag z))(hv:LV H.bl z L v)(hz:∀r∈L,r.length=z)(h1:ag=false→z=1)(hm:L.length≤maxLen)
 (hc:∀r∈L,∀bl ro,(bl=[]∧v.refs=0∧SV.refs.au caps=0∨bl=H.bl)→aa T n (.fn id) (el ag r::caps) ⟨bl,[],ro⟩=some (.bool (p r),⟨bl,[],ro⟩))
 (hcr:SV.refs.au caps≤H.bl.length):aa T (n+1) (.fn f) [v,.fn id caps] H=some (.int .i64 (gZ p L),H):=by
 refine mH hT rfl rfl (fun R k bl ro hbl=>?_)
 have hbl':bl=[]∧v.refs=0∧SV.refs.au caps=0∨bl=H.bl:=by
  rcases hbl with⟨h1,h2⟩|h
  ·simp only[SV.refs.au,SV.refs]at h2
   exact .inl ⟨h1,by omega,by omega⟩
  ·exact .inr h
 have hv':LV bl z L v:=by
  rcases hbl' with⟨h1,h2,_⟩|h
  ·rw[h1];exact hv.nil h2
  ·rw[h];exact hv
 have hd:decide (max v.refs (SV.refs.au caps)≤bl.length)=true:=by
  have:=hv'.refs
  rw[Ze]
  rcases hbl' with⟨h1,h2,h3⟩|h
  ·omega
  ·rw[h]at this ⊢;omega
 have q1:=hv'.cur [] ro
 have q2:=hv'.dY [] ro
 have q3:=hv'.len
 simp only[jc,go_sem,Int.reduceToNat,Nat.reduceAdd,Nat.reduceBEq,Nat.reduceLeDiff,Nat.reduceLT,Nat.reduceMul,Nat.reduceSub,Int.reduceEq,Int.reduceLT,Int.reduceLE,Int.reduceNeg,q1,q3]
 refine bn (fun i=>([(0,v),(1,.fn id caps),(7,.int .i64 L.length),(8,.int .i64 i)],⟨bl,[],ro⟩)) (fun i=>∀(j:Nat) r,j<i→L[j]?=some r→p r=false) L.length ?_ (fun j r h=>by omega) ?_
 ·simp only[go_sem,Int.reduceToNat,Nat.reduceAdd,Nat.reduceBEq,Nat.reduceLeDiff,Nat.reduceLT,Nat.reduceMul,Nat.reduceSub,Int.reduceEq,Int.reduceLT,Int.reduceLE,Int.reduceNeg,aba,hd]
 ·intro i hi hP
  rcases Zl i L.length with hlt|hge
  ·obtain⟨r,hr'⟩:=bV hlt
   have hmem:=Zj hr'
   obtain⟨p',a1,a2⟩:=hv'.at hr'
   have hw:=bR hlt hm
   have hcr:=hc r hmem bl ro hbl'
   have hld:=Kd (hz r hmem) h1
   cases hp:p r with
   |true=>
    have hx:=jt hr' hp hP
    simp only[go_sem,Int.reduceToNat,Nat.reduceAdd,Nat.reduceBEq,Nat.reduceLeDiff,Nat.reduceLT,Nat.reduceMul,Nat.reduceSub,Int.reduceEq,Int.reduceLT,Int.reduceLE,Int.reduceNeg,hlt,q2,a1,a2,hld,hcr,hp,hx]
   |false=>
    simp only[go_sem,Int.reduceToNat,Nat.reduceAdd,Nat.reduceBEq,Nat.reduceLeDiff,Nat.reduceLT,Nat.reduceMul,Nat.reduceSub,Int.reduceEq,Int.reduceLT,Int.reduceLE,Int.reduceNeg,hlt,q2,a1,a2,hld,hcr,hp,hw]
    refine⟨trivial,?_,fun j r' hj hr2=>?_⟩
    ·simp only[aba,hd,go_sem,Int.reduceToNat,Nat.reduceAdd,Nat.reduceBEq,Nat.reduceLeDiff,Nat.reduceLT,Nat.reduceMul,Nat.reduceSub,Int.reduceEq,Int.reduceLT,Int.reduceLE,Int.reduceNeg]
    ·rcases Zl j i with hlt2|hge2
     ·exact hP j r' hlt2 hr2
     ·have:j=i:=by omega
      subst this
      rw[hr']at hr2
      cases hr2
      exact hp
  ·have hlt:¬i<L.length:=by omega
   have hx:gZ p L= -1:=gA (fun j a hj=>hP j a (by have:=(Y8.1 hj).1;omega) hj)
   simp only[go_sem,Int.reduceToNat,Nat.reduceAdd,Nat.reduceBEq,Nat.reduceLeDiff,Nat.reduceLT,Nat.reduceMul,Nat.reduceSub,Int.reduceEq,Int.reduceLT,Int.reduceLE,Int.reduceNeg,hlt,hx]
theorem gK{ag:Bool}{z id g:Nat}{caps:List SV}{v:SV}{L:List (List SV)}{p:List SV→Bool}(hT:T f=some (rS g))(hTg:T g=some (jc ag z))(hv:LV H.bl z L v)(hz:∀r∈L,r.length=z)(h1:ag=false→z=1)(hm:L.length≤maxLen)
 (hc:∀r∈L,∀bl ro,(bl=[]∧v.refs=0∧SV.refs.au caps=0∨bl=H.bl)→aa T n (.fn id) (el ag r::caps) ⟨bl,[],ro⟩=some (.bool (p r),⟨bl,[],ro⟩))
 (hcr:SV.refs.au caps≤H.bl.length):aa T (n+2) (.fn f) [v,.fn id caps] H=some (.bool (L.any p),H):=by
 refine mH hT rfl rfl (fun R k bl ro hbl=>?_)
 have hbl':bl=[]∧v.refs=0∧SV.refs.au caps=0∨bl=H.bl:=by
  rcases hbl with⟨h1,h2⟩|h
  ·simp only[SV.refs.au,SV.refs]at h2
   exact .inl ⟨h1,by omega,by omega⟩
  ·exact .inr h
 have hv':LV bl z L v:=by
  rcases hbl' with⟨h1,h2,_⟩|h
  ·rw[h1];exact hv.nil h2
  ·rw[h];exact hv
 have hi:=pN (H:=⟨bl,[],ro⟩) hTg hv' hz h1 hm (fun r hr bl2 ro2 h=>hc r hr bl2 ro2 (by
  rcases h with h|h
  ·exact .inl h
  ·rw[show bl2=bl from h];exact hbl')) (by
  rcases hbl' with⟨h1,h2,h3⟩|h
  ·simp[h3]
  ·show SV.refs.au caps≤bl.length;rw[h];exact hcr)
 simp only[rS,go_sem,Int.reduceToNat,Nat.reduceAdd,Nat.reduceBEq,Nat.reduceLeDiff,Nat.reduceLT,Nat.reduceMul,Nat.reduceSub,Int.reduceEq,Int.reduceLT,Int.reduceLE,Int.reduceNeg,hi,iF]
theorem y5{v:SV}{M:List Int}{x:Int}(hT:T f=some pO)(hv:LV H.bl 1 (iS M) v)(hm:M.length≤maxLen):aa T (n+1) (.fn f) [v,.int .i64 x] H=some (.int .i64 (gZ (fun y=>decide (x=y)) M),H):=by
 refine mH hT rfl rfl (fun R k bl ro hbl=>?_)
 have hv':LV bl 1 (iS M) v:=by
  rcases hbl with⟨h1,h2⟩|h
  ·rw[h1];exact hv.nil (by simp only[SV.refs.au,SV.refs]at h2;omega)
  ·rw[h];exact hv
 have hd:decide (v.refs≤bl.length)=true:=by rw[Ze];exact hv'.refs
 have q1:=hv'.cur [] ro
 have q2:=hv'.dY [] ro
 have q3:=hv'.len
 rw[G5]at q3
 simp only[pO,go_sem,Int.reduceToNat,Nat.reduceAdd,Nat.reduceBEq,Nat.reduceLeDiff,Nat.reduceLT,Nat.reduceMul,Nat.reduceSub,Int.reduceEq,Int.reduceLT,Int.reduceLE,Int.reduceNeg,q1,q3]
 refine bn (fun i=>([(0,v),(1,.int .i64 x),(7,.int .i64 M.length),(8,.int .i64 i)],⟨bl,[],ro⟩)) (fun i=>∀(j:Nat) y,j<i→M[j]?=some y→decide (x=y)=false) M.length ?_ (fun j r h=>by omega) ?_
 ·simp only[go_sem,Int.reduceToNat,Nat.reduceAdd,Nat.reduceBEq,Nat.reduceLeDiff,Nat.reduceLT,Nat.reduceMul,Nat.reduceSub,Int.reduceEq,Int.reduceLT,Int.reduceLE,Int.reduceNeg,aba,hd]
 ·intro i hi hP
  rcases Zl i M.length with hlt|hge
  ·obtain⟨y,hy⟩:=bV hlt
   obtain⟨p',a1,a2⟩:=hv'.at (i:=i) (by rw[H9,hy];rfl)
   have hw:=bR hlt hm
   have hld:cS false 1 [SV.int .i64 y] 0=some (.int .i64 y):=rfl
   cases hp:decide (x=y)with
   |true=>
    have hx:=jt hy hp hP
    simp only[go_sem,Int.reduceToNat,Nat.reduceAdd,Nat.reduceBEq,Nat.reduceLeDiff,Nat.reduceLT,Nat.reduceMul,Nat.reduceSub,Int.reduceEq,Int.reduceLT,Int.reduceLE,Int.reduceNeg,hlt,q2,a1,a2,hld,hp,hx]
   |false=>
    simp only[go_sem,Int.reduceToNat,Nat.reduceAdd,Nat.reduceBEq,Nat.reduceLeDiff,Nat.reduceLT,Nat.reduceMul,Nat.reduceSub,Int.reduceEq,Int.reduceLT,Int.reduceLE,Int.reduceNeg,hlt,q2,a1,a2,hld,hp,hw]
    refine⟨trivial,?_,fun j r' hj hr2=>?_⟩
    ·simp only[aba,hd,go_sem,Int.reduceToNat,Nat.reduceAdd,Nat.reduceBEq,Nat.reduceLeDiff,Nat.reduceLT,Nat.reduceMul,Nat.reduceSub,Int.reduceEq,Int.reduceLT,Int.reduceLE,Int.reduceNeg]
    ·rcases Zl j i with hlt2|hge2
     ·exact hP j r' hlt2 hr2
     ·have:j=i:=by omega
      subst this
      rw[hy]at hr2
      cases hr2
      exact hp
  ·have hlt:¬i<M.length:=by omega
   have hx:gZ (fun y=>decide (x=y)) M= -1:=gA (fun j a hj=>hP j a (by have:=(Y8.1 hj).1;omega) hj)
   simp only[go_sem,Int.reduceToNat,Nat.reduceAdd,Nat.reduceBEq,Nat.reduceLeDiff,Nat.reduceLT,Nat.reduceMul,Nat.reduceSub,Int.reduceEq,Int.reduceLT,Int.reduceLE,Int.reduceNeg,hlt,hx]
theorem EZ(x:Int)(M:List Int):(M.any fun y=>decide (x=y))=decide (x∈M):=by
 rw[aam];simp
theorem qZ{v:SV}{M:List Int}{x:Int}{g:Nat}(hT:T f=some (sP g))(hTg:T g=some pO)(hv:LV H.bl 1 (iS M) v)(hm:M.length≤maxLen):aa T (n+2) (.fn f) [v,.int .i64 x] H=some (.bool (decide (x∈M)),H):=by
 refine mH hT rfl rfl (fun R k bl ro hbl=>?_)
 have hv':LV bl 1 (iS M) v:=by
  rcases hbl with⟨h1,h2⟩|h
  ·rw[h1];exact hv.nil (by simp only[SV.refs.au,SV.refs]at h2;omega)
  ·rw[h];exact hv
 have hi:=y5 (n:=n) (H:=⟨bl,[],ro⟩) (x:=x) hTg hv' hm
 simp only[sP,go_sem,Int.reduceToNat,Nat.reduceAdd,Nat.reduceBEq,Nat.reduceLeDiff,Nat.reduceLT,Nat.reduceMul,Nat.reduceSub,Int.reduceEq,Int.reduceLT,Int.reduceLE,Int.reduceNeg,hi,iF,EZ]
def Still(L:List (List SV)):Prop:=∀cs∈L,∀c∈cs,c.refs=0∧∀N H d,ec N H (d+1) c=some c
theorem Still.ints(M:List Int):Still (iS M):=fun cs hcs c hc=>⟨EG M cs hcs c hc,fun N H d=>Ho M N H d cs hcs c hc⟩
theorem Still.zero{L:List (List SV)}(h:Still L):SV.refs.au L.flatten=0:=nF (fun cs hcs c hc=>(h cs hcs c hc).1)
theorem Still.fz{L:List (List SV)}(h:Still L)(N H d v n z e)(hn:L.length=n):Jc N H (d+1) v 0 n (some (.arr v z L e))=some (.aA z L e):=
 yL N H (d+1) v n z L e hn (fun cs hcs c hc=>(h cs hcs c hc).2 N H d) (fun cs hcs c hc=>(h cs hcs c hc).1)
theorem Still.take{L:List (List SV)}(h:Still L)(N H d v n z)(hn:n≤L.length):Jc N H (d+1) v 0 n (some (.arr v z L false))=some (.aA z (L.take n) false):=by
 have hs:Still (L.take n):=fun cs hcs c hc=>h cs (abE hcs) c hc
 simp only[Jc,abi,aae,aaz,ZP,hn,aaq,Zr,ZJ]
 rw[mN (fun cs hcs=>mN (fun c hc=>(hs cs hcs c hc).2 N H d))]
 simp[hs.zero]
end
end
abbrev OO(d:Nat)(o:kQ):aK:=⟨some d,o,none⟩
abbrev OT(d:Nat)(o:kQ)(g:Nat):aK:=⟨some d,o,some (g,true)⟩
abbrev OU(d:Nat)(o:kQ)(g:Nat):aK:=⟨some d,o,some (g,false)⟩
abbrev PT(d x g:Nat):aK:=⟨some d,.eb (.t x),some (g,true)⟩
abbrev PU(d x g:Nat):aK:=⟨some d,.eb (.t x),some (g,false)⟩
abbrev IC(n:Int):bU:=.c (.int .i64 n)
abbrev OM(d x:Nat):aK:=⟨some d,.eb (.t x),none⟩
abbrev OK(d:Nat)(n:Int):aK:=⟨some d,.eb (.c (.int .i64 n)),none⟩
abbrev OZ(d:Nat):aK:=⟨some d,.eb (.c (.aA 0 [] true)),none⟩
abbrev OQ(d:Nat)(b:Bool):aK:=⟨some d,.eb (.c (.bool b)),none⟩
abbrev OX(d x i:Nat):aK:=⟨some d,.extract (.t x) i,none⟩
abbrev OF(d n x:Nat):aK:=⟨some d,.ai n (.t x),none⟩
abbrev OL(d x:Nat):aK:=⟨some d,.load false 1 (.t x),none⟩
abbrev OA(d n x:Nat):aK:=⟨some d,.load true n (.t x),none⟩
abbrev ON(d x:Nat):aK:=⟨some d,.dS (.t x),none⟩
abbrev OE(d x:Nat):aK:=⟨some d,.len (.t x),none⟩
abbrev OG(d x:Nat):aK:=⟨some d,.box (.t x),none⟩
abbrev OH(d x:Nat):aK:=⟨some d,.dQ (.t x),none⟩
abbrev OI(d z x i:Nat):aK:=⟨some d,.bu z (.t x) (.t i),none⟩
abbrev OB(d:Nat)(o:BinOp)(x y:Nat):aK:=⟨some d,.bin o (.t x) (.t y),none⟩
abbrev OJ(d:Nat)(o:BinOp)(x:Nat)(n:Int):aK:=⟨some d,.bin o (.t x) (.c (.int .i64 n)),none⟩
abbrev OC(d f:Nat)(xs:List Nat):aK:=⟨some d,.call (.c (.fn f [])) (xs.map .t),none⟩
abbrev DP:bE:=⟨.pure,[],0,0⟩
abbrev DS:bE:=⟨.jE,[],0,0⟩
abbrev DB:bE:=⟨.gl,[],0,0⟩
abbrev DM(d x:Nat):aK×bE:=(OM d x,DP)
abbrev DD(d:Nat)(o:BinOp)(x y:Nat):aK×bE:=(OB d o x y,DP)
abbrev DN(d x:Nat):aK×bE:=(ON d x,DS)
abbrev DF(d n x:Nat):aK×bE:=(OF d n x,DS)
abbrev DL(d x:Nat):aK×bE:=(OL d x,DS)
abbrev DI(d z x i:Nat):aK×bE:=(OI d z x i,DS)
abbrev DA(d n x:Nat):aK×bE:=(OA d n x,DS)
abbrev DE(d x:Nat):aK×bE:=(OE d x,DS)
abbrev SQ(l:List aK)(c:cn):cn:=.seq (.ops l) c
abbrev CS(x:Nat)(c:cn):cn:=.cond (.t x) c .skip
abbrev CX(x i:Nat):cn:=.cond (.t x) .skip (.exit i)
end Go.Sh
