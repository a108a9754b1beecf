/- A part of the proof: texts ShEw, ShIn, ShLaw, ShFu, ShLp, ShStd, ShAb. -/
import Derived.OpenShut
import Derived.WalkKit
import Derived.ProofKit
import Derived.ReadAgain
import Derived.Handed
import Derived.JoinedOf
import Derived.Test.YtlkjiffohmkidaaGreatB2
namespace Go.Sh
set_option linter.unusedSectionVars false
set_option linter.unnecessarySimpa false
set_option linter.unusedSimpArgs false
set_option linter.unusedVariables false
set_option maxRecDepth 100000
set_option maxHeartbeats 4000000
section
section
variable(rec:Rec)(e:Env)(H:ab)
@[go_sem] theorem yW (x):ae rec e H (.fk x)=some (ev e x,H):=Eq.trans rfl rfl
@[go_sem] theorem yT (c a b):ae rec e H (.pick c a b)=(fP (ev e c) (ev e a) (ev e b)).map (·,H):=Eq.trans rfl rfl
@[go_sem] theorem zu (x):ae rec e H (.box x)=(bY (ev e x)).map fun cs=>(.ptr H.bl.length 0 0 0,aZ H (.box cs)):=Eq.trans rfl rfl
@[go_sem] theorem wH (z):ae rec e H (.alloc z)=some (.ptr H.bl.length 0 0 0,aZ H (.box z)):=Eq.trans rfl rfl
@[go_sem] theorem xh (z ps):ae rec e H (.build z ps)=(ew (ev e) z ps).map (.agg ·,H):=Eq.trans rfl rfl
@[go_sem] theorem xf (a8 z n ps):ae rec e H (.dR a8 z n ps)=aL (cU (ev e) a8 (List.replicate n z) ps) (fun L=>bif SV.refs.aK L.flatten==0 then some (.aP a8 L true,H)else none) ():=by
  simp only[ae,bn]
  cases cU (ev e) a8 (List.replicate n z) ps with
  |none=>rfl
  |some L=>simp only[DV,aL];cases(SV.refs.aK L.flatten==0)<;>rfl
@[go_sem] theorem yA (ag n a):ae rec e H (.load ag n a)=(bM ag n H (ev e a)).map (·,H):=Eq.trans rfl rfl
@[go_sem] theorem wh (n a x):ae rec e H (.store n a x)=(cp n H (ev e x) (ev e a)).map (.undef,·):=Eq.trans rfl rfl
@[go_sem] theorem zZ (op x y):ae rec e H (.bin op x y)=(cJ op (ev e x) (ev e y)).map (·,H):=Eq.trans rfl rfl
@[go_sem] theorem yV (op x y):ae rec e H (.mz op x y)=(ju op (ev e x) (ev e y)).map (·,H):=Eq.trans rfl rfl
def sL(H:ab):SV→Option (SV×ab)
 | .bool b=>some (.bool (!b),H)
 |_=>none
@[go_sem] theorem yS (x):ae rec e H (.iC x)=sL H (ev e x):=by simp only[ae,bn,sL];split<;>simp_all
@[go_sem] theorem uO (b):sL H (.bool b)=some (.bool (!b),H):=Eq.trans rfl rfl
def qH(H:ab):SV→Option (SV×ab)
 | .int k n=>some (.int k (k.wrap (0-n)),H)
 |_=>none
@[go_sem] theorem xW (x):ae rec e H (.mF x)=qH H (ev e x):=by simp only[ae,bn,qH];split<;>simp_all
@[go_sem] theorem vA (k n):qH H (.int k n)=some (.int k (k.wrap (0-n)),H):=Eq.trans rfl rfl
def n7(k:IntKind)(H:ab):SV→Option (SV×ab)
 | .int _ n=>some (.int k (k.wrap n),H)
 |_=>none
@[go_sem] theorem xj (k x):ae rec e H (.dX k x)=n7 k H (ev e x):=by simp only[ae,bn,n7];split<;>simp_all
@[go_sem] theorem uR (k k2 n):n7 k H (.int k2 n)=some (.int k (k.wrap n),H):=Eq.trans rfl rfl
@[go_sem] theorem yl (f cs):ae rec e H (.kL f cs)=some (.fn f (cs.map (ev e)),H):=Eq.trans rfl rfl
@[go_sem] theorem xl (f cs):ae rec e H (.jA f cs)=some (.mf f (cs.map (ev e)),H):=Eq.trans rfl rfl
@[go_sem] theorem uK (a8 z bytes l c):ae rec e H (.dE a8 z bytes l c)=jY a8 z bytes H (ev e l) (ev e c):=Eq.trans rfl rfl
@[go_sem] theorem vD (a8 x lo hi mx):ae rec e H (.dA a8 x lo hi mx)=bif cq H a8 (ev e x)then((gR (ev e x) (lo.map (ev e)) (hi.map (ev e)) (mx.map (ev e))).orElse fun _=>dF H (ev e x) (lo.map (ev e)) (hi.map (ev e)) (mx.map (ev e))).map (·,H)else none:=Eq.trans rfl rfl
@[go_sem] theorem wW (off x):ae rec e H (.bZ off x)=bif cur H (ev e x)then(dx off (ev e x)).map (·,H)else none:=Eq.trans rfl rfl
def oa(ag:Bool)(n off:Nat)(H:ab):SV→Option (SV×ab)
 | .agg cs=>(bN ag n cs off).map (·,H)
 |_=>none
@[go_sem] theorem wC (ag n off x):ae rec e H (.field ag n off x)=oa ag n off H (ev e x):=by simp only[ae,bn,oa];split<;>simp_all
@[go_sem] theorem vi (ag n off cs):oa ag n off H (.agg cs)=(bN ag n cs off).map (·,H):=Eq.trans rfl rfl
@[go_sem] theorem vP (a8 x ix):ae rec e H (.cC a8 x ix)=bif cq H a8 (ev e x)then(eN (ev e x) (ev e ix)).map (·,H)else none:=Eq.trans rfl rfl
def rR(i:Nat)(H:ab):SV→Option (SV×ab)
 | .cG vs=>(vs[i]?).map (·,H)
 |_=>none
@[go_sem] theorem u0 (x i):ae rec e H (.extract x i)=rR i H (ev e x):=by simp only[ae,bn,rR];split<;>simp_all
@[go_sem] theorem vT (i vs):rR i H (.cG vs)=(vs[i]?).map (·,H):=Eq.trans rfl rfl
@[go_sem] theorem Al (x):ae rec e H (.len x)=bif cur H (ev e x)then(jG (ev e x)).map fun(n:Nat)=>(.int .i64 n,H)else none:=Eq.trans rfl rfl
@[go_sem] theorem xJ (f n xs):ae rec e H (.eK f n xs)=rec (.qC f) (xs.map (ev e)) H:=Eq.trans rfl rfl
@[go_sem] theorem yf (b v off n lo hi):gR (.bt b v off n) lo hi none=(dg n n hi).bind fun h=>(dg h 0 lo).map fun l=>.bt b v (off+l) (h-l):=Eq.trans rfl rfl
@[go_sem] theorem or_some {A:Type}(x:A)(f:Unit→Option A):(some x).orElse f=some x:=Eq.trans rfl rfl
def Ar(off b v:Nat)(hv:SV)(lo:Option SV):Option bb→Option SV
 |some (.arr _ _ L _)=>(m9 (L.length-off) hv).bind fun h=>(dg h 0 lo).map fun l=>.bt b v (off+l) (h-l)
 |_=>none
@[go_sem] theorem xQ (H b v off n lo hv):dF H (.bt b v off n) lo (some hv) none=Ar off b v hv lo (aQ H b):=by
  simp only[dF,Ar]
  cases aQ H b with
  |none=>rfl
  |some y=>cases y<;>rfl
@[go_sem] theorem xM (off b v hv lo v' z L e):Ar off b v hv lo (some (.arr v' z L e))=(m9 (L.length-off) hv).bind fun h=>(dg h 0 lo).map fun l=>.bt b v (off+l) (h-l):=Eq.trans rfl rfl
@[go_sem] theorem yr (y k i):m9 y (.int k i)=bif decide (0≤i)&&decide (i≤(y:Int))then some i.toNat else none:=Eq.trans rfl rfl
@[go_sem] theorem xN (y d):dg y d none=some d:=Eq.trans rfl rfl
@[go_sem] theorem zY (y d k i):dg y d (some (.int k i))=bif decide (0≤i)&&decide (i≤(y:Int))then some i.toNat else none:=Eq.trans rfl rfl
@[go_sem] theorem yC (a8 d x):ae rec e H (.copy a8 d x)=(ig a8 H (ev e x)).bind fun X=>kU a8 H X (ev e d):=Eq.trans rfl rfl
@[go_sem] theorem zJ (z L f):pA H (.aP z L f)=some L.isEmpty:=Eq.trans rfl rfl
@[go_sem] theorem vK (a8 bytes s x):ae rec e H (.append a8 bytes s x)=(ig a8 H (ev e x)).bind (fI a8 bytes H (ev e s)):=Eq.trans rfl rfl
@[go_sem] theorem yK (f xs):ae rec e H (.call f xs)=gM rec (ev e f) (xs.map (ev e)) H:=Eq.trans rfl rfl
@[go_sem] theorem Bh (f cs xs):gM rec (.fn f cs) xs H=rec (.fn f) (xs++cs) H:=Eq.trans rfl rfl
@[go_sem] theorem zw (f cs xs):gM rec (.mf f cs) xs H=rec (.fn f) (cs++xs) H:=Eq.trans rfl rfl
end
section
variable(k:IntKind)(a b:Int)
@[go_sem] theorem Af:cJ .add (.int k a) (.int k b)=some (.int k (k.wrap (a+b))):=by simp[cJ]
@[go_sem] theorem Aj:cJ .sub (.int k a) (.int k b)=some (.int k (k.wrap (a-b))):=by simp[cJ]
@[go_sem] theorem zB:cJ .mul (.int k a) (.int k b)=some (.int k (k.wrap (a*b))):=by simp[cJ]
@[go_sem] theorem zk:cJ .quo (.int k a) (.int k b)=bif !decide (b=0)then some (.int k (k.wrap (a.tdiv b)))else none:=by simp[cJ]
@[go_sem] theorem Aq:cJ .rem (.int k a) (.int k b)=bif !decide (b=0)then some (.int k (a.tmod b))else none:=by simp[cJ]
@[go_sem] theorem zT:cJ .lss (.int k a) (.int k b)=some (.bool (decide (a<b))):=by simp[cJ]
@[go_sem] theorem A5:cJ .leq (.int k a) (.int k b)=some (.bool (decide (a≤b))):=by simp[cJ]
@[go_sem] theorem Am:cJ .gtr (.int k a) (.int k b)=some (.bool (decide (b<a))):=by simp[cJ]
@[go_sem] theorem zj:cJ .geq (.int k a) (.int k b)=some (.bool (decide (b≤a))):=by simp[cJ]
@[go_sem] theorem zg:cJ .eql (.int k a) (.int k b)=some (.bool (decide (a=b))):=by simp[cJ]
@[go_sem] theorem zp:cJ .neq (.int k a) (.int k b)=some (.bool (!decide (a=b))):=by simp[cJ]
@[go_sem] theorem AT (k2):cJ .shr (.int k a) (.int k2 b)=bif decide (0≤b)then some (.int k (a.fdiv (2 ^ (min b.toNat k.bits))))else none:=by simp[cJ]
@[go_sem] theorem yB (a b:Bool):ju .neq (.bool a) (.bool b)=some (.bool (!(a==b))):=by simp[ju]
@[go_sem] theorem vY (c a b:Bool):fP (.bool c) (.bool a) (.bool b)=some (.bool (bif c then a else b)):=by simp[fP]
@[go_sem] theorem xF (x):fP (.bool false) .fa x=some x:=by cases x<;>simp[fP]
@[go_sem] theorem vw (x):fP (.bool true) x .fa=some x:=by cases x<;>simp[fP]
@[go_sem] theorem A4 (cs):bY (.agg cs)=some cs:=by simp[bY]
@[go_sem] theorem zK:bY (.int k a)=some [.int k a]:=by simp[bY,SV.gD]
@[go_sem] theorem AM (b v o n):bY (.bt b v o n)=some [.bt b v o n]:=by simp[bY,SV.gD]
@[go_sem] theorem BA (f cs):bY (.fn f cs)=some [.fn f cs]:=by simp[bY,SV.gD]
@[go_sem] theorem AU (n cs o):bN false n cs o=cs[o]?:=by simp[bN]
@[go_sem] theorem z5 (n cs o):bN true n cs o=bif decide (o+n≤cs.length)then some (.agg ((cs.drop o).take n))else none:=by simp[bN]
@[go_sem] theorem AJ (ev z):ew ev z []=some z:=by simp[ew]
@[go_sem] theorem yg (ev z off n x ps):ew ev z ((off,n,x)::ps)=(bY (ev x)).bind fun cs=>bif cs.length==n&&decide (off+n≤z.length)then ew ev (eo z off n cs) ps else none:=by simp[ew]
@[go_sem] theorem AR (ev a8 z):cU ev a8 z []=some z:=by simp[cU]
@[go_sem] theorem yb (ev a8 z i x ps):cU ev a8 z ((i,x)::ps)=(bY (ev x)).bind fun cs=>bif cs.length==a8&&decide (i<z.length)then cU ev a8 (z.set i cs) ps else none:=by simp[cU]
attribute [go_sem] eo
@[go_sem] theorem y8 (z L f):jG (.aP z L f)=some L.length:=by simp[jG]
@[go_sem] theorem Ag (b v o n):jG (.bt b v o n)=some n:=by simp[jG]
@[go_sem] theorem z7 (H z L f):cur H (.aP z L f)=true:=by simp[cur]
@[go_sem] theorem yO (H L):cur H (.dy L)=true:=by simp[cur]
@[go_sem] theorem AF (H z L f):cq H z (.aP z L f)=true:=by simp[cq]
@[go_sem] theorem A1 (off b v i o):dx off (.ptr b v i o)=some (.ptr b v i (o+off)):=by simp[dx]
@[go_sem] theorem yN (off cs):dx off (.dy cs)=some (.dy (cs.drop off)):=by simp[dx]
@[go_sem] theorem xX (ag n H cs):bM ag n H (.dy cs)=bN ag n cs 0:=by simp[bM]
end
def ua(v:Nat):Option bb→Bool
 |some (.box _)=>true
 |some (.arr v' _ _ _)=>v==v'
 |_=>false
@[go_sem] theorem zO (H b v i o):cur H (.ptr b v i o)=ua v (aQ H b):=by
  simp only[cur,ua]
  cases aQ H b with
  |none=>rfl
  |some x=>cases x<;>rfl
@[go_sem] theorem wT (v cs):ua v (some (.box cs))=true:=Eq.trans rfl rfl
@[go_sem] theorem xk (v v' z L x):ua v (some (.arr v' z L x))=(v==v'):=Eq.trans rfl rfl
def vd(v:Nat):Option bb→Bool
 |some (.arr v' _ _ _)=>v==v'
 |_=>false
@[go_sem] theorem z6 (H b v i o):cur H (.bt b v i o)=vd v (aQ H b):=by
  simp only[cur,vd]
  cases aQ H b with
  |none=>rfl
  |some x=>cases x<;>rfl
@[go_sem] theorem wF (v v' z L x):vd v (some (.arr v' z L x))=(v==v'):=Eq.trans rfl rfl
def rU(v z:Nat):Option bb→Bool
 |some (.arr v' z' _ _)=>v==v'&&z'==z
 |_=>false
@[go_sem] theorem At (H z b v i o):cq H z (.bt b v i o)=rU v z (aQ H b):=by
  simp only[cq,rU]
  cases aQ H b with
  |none=>rfl
  |some x=>cases x<;>rfl
@[go_sem] theorem vu (v z v' z' L x):rU v z (some (.arr v' z' L x))=(v==v'&&z'==z):=Eq.trans rfl rfl
def vU(ag:Bool)(n v i o:Nat):Option bb→Option SV
 |some (.box cs)=>bif i==0 then bN ag n cs o else none
 |some (.arr v' _ L _)=>bif v==v' then(L[i]?).bind fun cs=>bN ag n cs o else none
 |_=>none
@[go_sem] theorem A7 (ag n H b v i o):bM ag n H (.ptr b v i o)=vU ag n v i o (aQ H b):=by
  simp only[bM,vU]
  cases aQ H b with
  |none=>rfl
  |some x=>
   cases x with
   |arr v' z L ex=>
    cases hv:(v==v')with
    |true=>simp only[hv,Du];cases L[i]?<;>rfl
    |false=>simp only[hv,Dw]
   |_=>rfl
@[go_sem] theorem ym (ag n v o cs):vU ag n v 0 o (some (.box cs))=bN ag n cs o:=by simp[vU]
@[go_sem] theorem x6 (ag n v i o z L x):vU ag n v i o (some (.arr v z L x))=(L[i]?).bind fun cs=>bN ag n cs o:=by simp[vU]
def yi(z v off n:Nat):Option bb→Option (List (List SV))
 |some (.arr v' z' L _)=>bif v==v'&&z'==z&&decide (off+n≤L.length)then some ((L.drop off).take n)else none
 |_=>none
@[go_sem] theorem AA (z H b v off n):ig z H (.bt b v off n)=yi z v off n (aQ H b):=by
  simp only[ig,yi]
  cases aQ H b with
  |none=>rfl
  |some x=>cases x<;>rfl
@[go_sem] theorem yU (z v off n L x):yi z v off n (some (.arr v z L x))=bif decide (off+n≤L.length)then some ((L.drop off).take n)else none:=by simp[yi]
@[go_sem] theorem zH (z H L f):ig z H (.aP z L f)=some L:=by simp[ig]
@[go_sem] theorem yG (z z' H f):ig z H (.aP z' [] f)=some []:=by simp[ig]
attribute [go_sem] aQ aZ
def ya(a8:Nat)(H:ab)(X:List (List SV))(b v off n:Nat):Option bb→Option (SV×ab)
 |some (.arr v' z L e)=>bif v==v'&&z==a8&&decide (off+n≤L.length)then
   (bF H b (.arr v z (L.take off++X.take n++L.drop (off+min X.length n)) e) (SV.refs.aK X.flatten)).map fun H=>(.int .i64 (min X.length n:Nat),H)else none
 |_=>none
@[go_sem] theorem y5 (a8 H X b v off n):kU a8 H X (.bt b v off n)=ya a8 H X b v off n (aQ H b):=by
  simp only[kU,ya]
  cases aQ H b with
  |none=>rfl
  |some y=>cases y<;>rfl
@[go_sem] theorem yy (a8 H X b v off n L e):ya a8 H X b v off n (some (.arr v a8 L e))=bif decide (off+n≤L.length)then
 (bF H b (.arr v a8 (L.take off++X.take n++L.drop (off+min X.length n)) e) (SV.refs.aK X.flatten)).map fun H=>(.int .i64 (min X.length n:Nat),H)else none:=by simp[ya]
def vN(n v i o:Nat)(b:Nat)(H:ab)(xs:List SV)(refs:Nat):Option bb→Option ab
 |some (.box cs)=>bif i==0&&decide (o+n≤cs.length)then bF H b (.box (eo cs o n xs)) refs else none
 |some (.arr v' z L e)=>bif v==v' then(L[i]?).bind fun cs=>bif decide (o+n≤cs.length)then bF H b (.arr v z (L.set i (eo cs o n xs)) e) refs else none else none
 |_=>none
@[go_sem] theorem yY (n H x b v i o):cp n H x (.ptr b v i o)=(bY x).bind fun xs=>bif xs.length==n then vN n v i o b H xs x.refs (aQ H b)else none:=by
  simp only[cp,vN]
  congr 1
  funext xs
  cases(xs.length==n)with
  |false=>rfl
  |true=>
   simp only[Du]
   cases aQ H b with
   |none=>rfl
   |some y=>
    cases y with
    |arr v' z L ex=>
     cases hv:(v==v')with
     |true=>simp only[hv,Du];cases L[i]?<;>rfl
     |false=>simp only[hv,Dw]
    |_=>rfl
@[go_sem] theorem xY (n v o b H xs r cs):vN n v 0 o b H xs r (some (.box cs))=bif decide (o+n≤cs.length)then bF H b (.box (eo cs o n xs)) r else none:=by simp[vN]
@[go_sem] theorem yz (n v i o b H xs r z L e):vN n v i o b H xs r (some (.arr v z L e))=(L[i]?).bind fun cs=>bif decide (o+n≤cs.length)then bF H b (.arr v z (L.set i (eo cs o n xs)) e) r else none:=by simp[vN]
@[go_sem] theorem yE (bl br ro b x r):bF ⟨bl,br,ro⟩ b x r=bif decide (ro≤b)&&decide (b<bl.length)then some ⟨bl.set b x,bif decide (r≤b+1)then br else(b,r)::br,ro⟩else none:=by simp[bF]
@[go_sem] theorem wz (k n):(SV.int k n).refs=0:=by simp[SV.refs]
@[go_sem] theorem vz (n):(SV.bool n).refs=0:=by simp[SV.refs]
@[go_sem] theorem xE (z L f):(SV.aP z L f).refs=0:=by simp[SV.refs]
@[go_sem] theorem xi (b v i o):(SV.ptr b v i o).refs=b+1:=by simp[SV.refs]
@[go_sem] theorem xK (b v i o):(SV.bt b v i o).refs=b+1:=by simp[SV.refs]
@[go_sem] theorem xp (cs):(SV.agg cs).refs=SV.refs.aK cs:=by simp[SV.refs]
@[go_sem] theorem yM (f cs):(SV.fn f cs).refs=SV.refs.aK cs:=by simp[SV.refs]
@[go_sem] theorem wa:SV.refs.aK []=0:=by simp[SV.refs.aK]
@[go_sem] theorem vm (v vs):SV.refs.aK (v::vs)=max v.refs (SV.refs.aK vs):=by simp[SV.refs.aK]
section
variable{T:FuncId→Option bp}{f:FuncId}{F:bp}{xs:List SV}{n:Nat}{H:ab}
def kM{R:Type}(rs:List m6)(k:SV→ab→Option R):jQ→Env→ab→Option R
 | .exit _,_,_=>none
 |_,e,H=>(results1 e H rs).bind fun v=>k v H
@[go_sem] theorem xm {R:Type}(rs)(k:SV→ab→Option R)(e H):kM rs k .ret e H=aL (results1 e H rs) (fun v=>k v H) ():=by
  show(results1 e H rs).bind _=_
  cases results1 e H rs<;>rfl
theorem aJ{v:SV}(hT:T f=some F)(hp:dW F xs=true)(h:runK (aI T n) (kM F.res (fun v H'=>cR 0 H' bI v)) F.body [] (cQ xs) aB ()=some v):aI T (n+1) (.fn f) xs H=some (v,H):=by
 have hk:∀k:jQ→Env→ab→Option SV,k=kM F.res (fun v H'=>cR 0 H' bI v)→run (aI T n) F.body (cQ xs) aB k ()=some v:=by
  intro k hk
  rw[hk,j6]
  exact h
 simp only[aI,hT,hp,Du]
 rw[hk _ (by funext x e H';cases x<;>rfl)]
 rfl
end
@[go_sem] theorem yJ (e H r):results1 e H [r]=bU e H r:=by
  unfold results1
  cases h:bU e H r<;>simp[a7,h]
@[go_sem] theorem x9 (e H r s):results1 e H [r,s]=(bU e H r).bind fun a=>(bU e H s).map fun b=>.cG [a,b]:=by
  unfold results1
  cases h:bU e H r<;>cases h':bU e H s<;>simp[a7,h,h']
@[go_sem] theorem v9 (e H r s q):results1 e H [r,s,q]=(bU e H r).bind fun a=>(bU e H s).bind fun b=>(bU e H q).map fun c=>.cG [a,b,c]:=by
  unfold results1
  cases h1:bU e H r<;>cases h2:bU e H s<;>cases h3:bU e H q<;>simp[a7,h1,h2,h3]
@[go_sem] theorem A0 (e H t):bU e H (.tmp t)=some (get e t):=Eq.trans rfl rfl
@[go_sem] theorem xV (e H t ag n):bU e H (.cell t ag n)=bM ag n H (get e t):=Eq.trans rfl rfl
@[go_sem] theorem y7 (N H d k n):cR N H (d+1) (.int k n)=some (.int k n):=by simp[cR]
@[go_sem] theorem xU (N H d b):cR N H (d+1) (.bool b)=some (.bool b):=by simp[cR]
@[go_sem] theorem AH (N H d z L f):cR N H (d+1) (.aP z L f)=some (.aP z L f):=by simp[cR]
@[go_sem] theorem An (N H d cs):cR N H (d+1) (.agg cs)=(a7 (cs.map (cR N H d))).map .agg:=by simp[cR]
@[go_sem] theorem zW (N H d cs):cR N H (d+1) (.cG cs)=(a7 (cs.map (cR N H d))).map .cG:=by simp[cR]
@[go_sem] theorem Ak {A:Type}:a7 ([]:List (Option A))=some []:=Eq.trans rfl rfl
@[go_sem] theorem xZ {A:Type}(a:A)(r):a7 (some a::r)=(a7 r).map (a:: ·):=Eq.trans rfl rfl
attribute [go_sem] bI
theorem hC{f:Env×ab→Option Out}:∀(n m:Nat) (s:Env×ab) (o:Out),bV f n s=some o→n≤m→bV f m s=some o
 |0,_,s,o,h,_=>by cases h
 |n+1,0,s,o,h,hm=>by omega
 |n+1,m+1,s,o,h,hm=>by
  have e:∀n,bV f (n+1) s=match f s with|some (.normal,s')=>bV f n s'|r=>r:=fun n=>rfl
  rw[e]at h⊢
  cases hf:f s with
  |none=>rw[hf]at h;exact h
  |some r=>
   obtain⟨x,s'⟩:=r
   rw[hf]at h
   cases x with
   |normal=>exact hC n m s' o h (by omega)
   |exit id=>exact h
   |ret=>exact h
theorem kr{f:Env×ab→Option Out}{s:Env×ab}{o:Out}{n:Nat}(h:bV f n s=some o):gN f s=some o:=by
 unfold gN
 have hex:∃n,(bV f n s).isSome:=⟨n,by simp[h]⟩
 rw[dif_pos hex]
 have h1:=Fc hex
 generalize Classical.choose hex=m at h1
 obtain⟨o',ho'⟩:=Fm.1 h1
 have h2:=hC _ (max n m) _ _ h (Nat.le_max_left _ _)
 have h3:=hC _ (max n m) _ _ ho' (Nat.le_max_right _ _)
 rw[h2]at h3
 rw[ho',h3]
theorem s9{R:Type}{f:Env×ab→Option Out}{s:Env×ab}{k:Out→Option R}{t:kK k}{r:Option R}(o:Out)(h:gN f s=some o)(hk:k o=r):aL (gN f s) k t=r:=by
 rw[h];exact hk
theorem gz(p N H0 rec a e H):ej p N H0 rec a (e,H)=aL (cZ p N H0 (e,H)) (fun s=>runK rec (fun x e H=>some (x,e,H)) a [] s.1 s.2 ()) ():=by
 unfold ej
 cases cZ p N H0 (e,H)<;>rfl
attribute [go_sem] D8 DU EY Eu Er DQ ES List.getElem?_cons_zero Fq FH List.set_cons_succ
 List.take_succ_cons FJ List.take_nil List.drop_succ_cons EW List.drop_nil E1 List.replicate_zero Fu List.flatten_nil List.isEmpty_nil List.isEmpty_cons
 D1 E9 DV Option.bind_none decide_true decide_false Eo Ed Eb DH Bool.or_true Bool.true_or Bool.or_false Ev Ec EV Bool.not_not
 Ep beq_true beq_false EZ Ea Nat.max_self De EU Nat.sub_zero EA List.drop_length Fv List.reverse_nil List.zip_cons_cons List.zip_nil_right
@[go_sem] theorem wI {R:Type}(b:Bool)(x y:R)(t:kK (x,y)):fork (!b) x y t=fork b y x ():=by cases b<;>rfl
@[go_sem] theorem vS (N l):bG N [] l=l:=Eq.trans rfl rfl
def cY(n:Int):Int:=IntKind.wrap .i64 n
@[go_sem] theorem xz (n:Int):IntKind.wrap .i64 n=cY n:=rfl
theorem aX{n:Int}(h1: -9223372036854775808≤n)(h2:n≤9223372036854775807):cY n=n:=by
 unfold cY
 simp only[IntKind.wrap,IntKind.bits,IntKind.signed,Ed,ge_iff_le,Dc]
 split<;>omega
attribute [go_sem] DQ ES
section
variable(rec:Rec)(e:Env)(H:ab)
end
end
section
inductive DT where
 |bool|int (k:IntKind)|str|aP (es:List DT)
inductive Fits:DT→SV→Prop
 |bool (b:Bool):Fits .bool (.bool b)
 |int (k:IntKind) (n:Int) (h:(Lit.int k n).wf=true):Fits (.int k) (.int k n)
 |str (s:ByteArray) (h:s.size≤maxLen):Fits .str (.str s)
 |aP (es:List DT) (L:List (List SV)) (f:Bool) (hm:L.length≤maxLen) (hl:∀r∈L,r.length=es.length) (h:∀r∈L,∀(j:Nat) d c,es[j]?=some d→r[j]?=some c→Fits d c):Fits (.aP es) (.aP es.length L f)
def cF(es:List DT)(cs:List SV):Prop:=cs.length=es.length∧∀(j:Nat) d c,es[j]?=some d→cs[j]?=some c→Fits d c
theorem ll:cF [] []:=⟨rfl,by simp⟩
theorem iK{es es':List DT}{cs cs':List SV}(h:cF es cs)(h':cF es' cs'):cF (es++es') (cs++cs'):=by
 refine⟨by simp[h.1,h'.1],fun j d c hd hc=>?_⟩
 rw[D5]at hd hc
 rw[h.1]at hc
 split at hd
 ·rename_i hlt
  rw[if_pos hlt]at hc
  exact h.2 j d c hd hc
 ·rename_i hlt
  rw[if_neg hlt]at hc
  exact h'.2 _ d c hd hc
theorem gW{d:DT}{es:List DT}{cs:List SV}(h:cF (d::es) cs):∃c r,cs=c::r∧Fits d c∧cF es r:=by
 cases cs with
 |nil=>have:=h.1;simp at this
 |cons c r=>exact⟨c,r,rfl,h.2 0 d c rfl rfl,by have:=h.1;simpa using this,fun j d c hd hc=>h.2 (j+1) d c hd hc⟩
theorem ft{cs:List SV}(h:cF [] cs):cs=[]:=Ee h.1
theorem fits_int{k:IntKind}{c:SV}(h:Fits (.int k) c):∃n,c=.int k n∧(Lit.int k n).wf=true:=by cases h;exact⟨_,rfl,by assumption⟩
theorem fits_bool{c:SV}(h:Fits .bool c):∃n,c=.bool n:=by cases h;exact⟨_,rfl⟩
theorem mH{es:List DT}{c:SV}(h:Fits (.aP es) c):∃L f,c=.aP es.length L f∧L.length≤maxLen∧∀r∈L,cF es r:=by
 cases h with
 |aP _ L f hm hl h=>exact⟨L,f,rfl,hm,fun r hr=>⟨hl r hr,h r hr⟩⟩
section
variable(P:Program)
def fV:Nat→TypeId→Option (List DT)
 |0,_=>none
 |d+1,t=>match P.underlying t with
  |some .bool=>some [.bool]
  |some (.int k)=>some [.int k]
  |some .string=>some [.str]
  |some (.slice e)=>(fV d e).bind fun es=>bif P.cellsOf e==es.length&&!es.isEmpty then some [.aP es]else none
  |some (.struct fs)=>(fs.toList.foldlM (init:=[]) fun acc f=>bif f.offset==acc.length then(fV d f.type).bind fun es=>bif P.cellsOf f.type==es.length then some (acc++es)else none else none).bind fun es=>
    bif P.cellsOf t==es.length then some es else none
  |some (.array n e)=>(fV d e).bind fun es=>bif P.cellsOf e==es.length&&P.cellsOf t==(List.replicate n es).flatten.length then some (List.replicate n es).flatten else none
  |_=>none
end
def iB(w:World)(scs:List SV)(cs:List Value):Prop:=scs.length=cs.length∧∀(j:Nat) c v,scs[j]?=some c→cs[j]?=some v→VR w (· <w.heap.size) cd c v∧c.gD=true
theorem iL{w:World}{a b:List SV}{x y:List Value}(h:iB w a x)(h':iB w b y):iB w (a++b) (x++y):=by
 refine⟨by simp[h.1,h'.1],fun j c v hc hv=>?_⟩
 rw[D5]at hc hv
 rw[←h.1]at hv
 split at hc
 ·rename_i hlt
  rw[if_pos hlt]at hv
  exact h.2 j c v hc hv
 ·rename_i hlt
  rw[if_neg hlt]at hv
  exact h'.2 _ c v hc hv
theorem eR{w:World}{c:SV}{v:Value}(h:VR w (· <w.heap.size) cd c v)(h1:c.gD=true):iB w [c] [v]:=by
 refine⟨rfl,fun j c' v' hc hv=>?_⟩
 cases j with
 |zero=>simp at hc hv;subst hc;subst hv;exact⟨h,h1⟩
 |succ j=>simp at hc
section
variable{H:Type}{enc:TypeId×Value→H}{P:Program}{w:World}{spare:Nat→Bool}{held:Bool}
def uz(P:Program)(d:Nat)(acc:List DT)(f:Field):Option (List DT):=
 bif f.offset==acc.length then(fV P d f.type).bind fun es=>bif P.cellsOf f.type==es.length then some (acc++es)else none else none
def lV(P:Program)(w:World)(t:TypeId)(es:List DT)(cs:List Value):Prop:=∃scs,iB w scs cs∧cF es scs
theorem lD{n dd:Nat}(ih:∀(t:TypeId) (cs:List Value) x es,DataW.trod enc P w 0 spare held n t cs=some x→fV P dd t=some es→lV P w t es cs)(cs:List Value):∀(fs:List Field) (acc tot:List DT),
 fs.foldlM (uz P dd) acc=some tot→(∀f∈fs,∃x,DataW.trod enc P w 0 spare held n f.type ((cs.drop f.offset).take (P.cellsOf f.type))=some x)→tot.length≤cs.length→
 ∃rest,tot=acc++rest∧∃scs,iB w scs ((cs.drop acc.length).take rest.length)∧cF rest scs
 |[],acc,tot,h,_,_=>by
  simp at h;subst h
  exact⟨[],by simp,[],⟨rfl,by simp⟩,ll⟩
 |f::fs,acc,tot,h,hf,hlen=>by
  rw[FL]at h
  simp only[bind,C6]at h
  obtain⟨acc',h1,h2⟩:=h
  unfold uz at h1
  replace h1:=aa h1
  obtain⟨ho,h1⟩:=h1
  simp only[C6]at h1
  obtain⟨es,h3,h1⟩:=h1
  replace h1:=aa h1
  obtain⟨h4,h1⟩:=h1
  cases h1
  have ho:f.offset=acc.length:=by simpa using ho
  have h4:P.cellsOf f.type=es.length:=by simpa using h4
  obtain⟨x,hx⟩:=hf f (by simp)
  obtain⟨s1,k1,k2⟩:=ih f.type _ x es hx h3
  obtain⟨rest,k3,s2,k4,k5⟩:=lD ih cs fs (acc++es) tot h2 (fun g hg=>hf g (by simp[hg])) hlen
  refine⟨es++rest,by rw[k3];simp,s1++s2,?_,iK k2 k5⟩
  rw[ho,h4]at k1
  have:=iL k1 k4
  have e:((cs.drop acc.length).take es.length)++((cs.drop (acc++es).length).take rest.length)=(cs.drop acc.length).take (es++rest).length:=by
   rw[C8,C8,←List.drop_drop,←List.take_add]
  rw[←e];exact this
theorem nw{n dd:Nat}{e:TypeId}{es:List DT}(ih:∀(cs:List Value) x,DataW.trod enc P w 0 spare held n e cs=some x→lV P w e es cs)(hc:P.cellsOf e=es.length)(cs:List Value):∀(m i:Nat),
 (∀k,i≤k→k<i+m→∃x,DataW.trod enc P w 0 spare held n e ((cs.drop (k*P.cellsOf e)).take (P.cellsOf e))=some x)→
 ∃scs,iB w scs ((cs.drop (i*es.length)).take (m*es.length))∧cF (List.replicate m es).flatten scs
 |0,i,_=>⟨[],⟨by simp,by simp⟩,by simpa using ll⟩
 |m+1,i,h=>by
  obtain⟨x,hx⟩:=h i (by omega) (by omega)
  obtain⟨s1,k1,k2⟩:=ih _ x hx
  obtain⟨s2,k3,k4⟩:=nw (dd:=dd) ih hc cs m (i+1) (fun k h1 h2=>h k (by omega) (by omega))
  refine⟨s1++s2,?_,by rw[E1,Fu];exact iK k2 k4⟩
  rw[hc]at k1
  have:=iL k1 k3
  have e:((cs.drop (i*es.length)).take es.length)++((cs.drop ((i+1)*es.length)).take (m*es.length))=(cs.drop (i*es.length)).take ((m+1)*es.length):=by
   rw[DW i 1,EF,←List.drop_drop,DW m 1,EF,FN (m*es.length),←List.take_add]
  rw[←e];exact this
theorem pD{a:Addr}{n:Nat}{vs:List Value}(h:w.cells? 0 a n=some vs):vs.length=n∧∀j,j<n→w.cell? (a.add j)=vs[j]?:=by
 unfold World.cells? at h
 simp only[EU,if_true]at h
 exact⟨by simpa using mapM_some_length h,fun j hj=>mapM_some_get h j j (by simp[hj])⟩
theorem u3{a:Addr}{v:Value}(h:w.cell? (a.add 0)=some v):a.spot=none∧a.block<w.heap.size:=by
 have:a.add 0=a:=by simp[Addr.add]
 rw[this]at h
 unfold World.cell? at h
 split at h
 ·rename_i c _ _ hb
  cases hs:a.spot with
  |none=>exact⟨rfl,(Dh.1 hb).1⟩
  |some x=>rw[hs]at h;simp at h
 ·cases h
theorem tw:∀(n:Nat) (t:TypeId) (cs:List Value) (x:DataW H×List MemPlace) (dd:Nat) (es:List DT),DataW.trod enc P w 0 spare held n t cs=some x→fV P dd t=some es→lV P w t es cs:=by
 intro n
 induction n with
 |zero=>intro t cs x dd es h;simp[DataW.trod]at h
 |succ n ih=>
  intro t cs x dd es h hd
  cases dd with
  |zero=>simp[fV]at hd
  |succ dd=>
   unfold fV at hd
   split at hd
   ·rename_i hu
    cases hd
    obtain⟨b,rfl,_⟩:=DataW.trod_bool hu h
    exact⟨[.bool b],eR (.bool b) rfl,rfl,fun j d c hd hc=>by cases j<;>simp at hd hc;subst hd;subst hc;exact .bool b⟩
   ·rename_i k hu
    cases hd
    obtain⟨b,rfl,_,hw⟩:=DataW.trod_int hu h
    exact⟨[.int k b],eR (.int k b) rfl,rfl,fun j d c hd hc=>by cases j<;>simp at hd hc;subst hd;subst hc;exact .int k b hw⟩
   ·rename_i hu
    cases hd
    obtain⟨b,rfl,_,hw⟩:=DataW.trod_string hu h
    exact⟨[.str b],eR (.str b) rfl,rfl,fun j d c hd hc=>by cases j<;>simp at hd hc;subst hd;subst hc;exact .str b hw⟩
   ·rename_i e hu
    simp only[C6]at hd
    obtain⟨ee,hd1,hd⟩:=hd
    replace hd:=aa hd
    obtain⟨hd2,hd⟩:=hd
    cases hd
    simp only[Db,D0,D7,List.isEmpty_eq_false_iff]at hd2
    obtain⟨hz,hne⟩:=hd2
    have hz0:0<ee.length:=FE.2 hne
    rcases DataW.trod_slice hu h with⟨rfl,_⟩|⟨a,len,cap,elems,rest,m,hm,rfl,_,_,hlc,hcap,hel,aQ,_⟩
    ·refine⟨[.aP ee.length [] true],eR ?_ rfl,rfl,fun j d c hd hc=>?_⟩
     ·exact VR.aP (L:=[]) (fun _ _=>undef) (De _) (fun _=>rfl) (by simp) (.inl rfl) (by simp) (by simp)
     ·cases j<;>simp at hd hc
      subst hd;subst hc
      exact .aP ee [] true (by simp) (by simp) (by simp)
    ·cases hm
     have key:∀i,i<len→∃(vs:List Value) (r:List SV),w.cells? 0 (a.add (i*ee.length)) ee.length=some vs∧iB w r vs∧cF ee r:=by
      intro i hi
      have h1:=aQ i hi
      have h2:elems[i]?=some elems[i]:=Dl (by omega)
      rw[h2,hz,C6]at h1
      obtain⟨vs,h3,h4⟩:=h1
      obtain⟨r,h5,h6⟩:=ih e vs _ dd ee h4 hd1
      exact⟨vs,r,h3,h5,h6⟩
     have hch:∃g:Nat→List SV,∀i,i<len→∃vs:List Value,w.cells? 0 (a.add (i*ee.length)) ee.length=some vs∧iB w (g i) vs∧cF ee (g i):=
      ⟨fun i=>if hi:i<len then Classical.choose (Fc (key i hi))else[],fun i hi=>by
       simp only[hi,dif_pos]
       exact⟨_,Fc (Fc (key i hi))⟩⟩
     obtain⟨g,hg⟩:=hch
     have hrow:∀(i:Nat) r,((List.range len).map g)[i]?=some r→i<len∧r=g i:=by
      intro i r hr
      simp only[Fe,C5]at hr
      obtain⟨k,hk,rfl⟩:=hr
      have hlt:=(C7.1 hk).1
      simp at hlt
      rw[List.getElem?_range hlt]at hk
      cases hk
      exact⟨hlt,rfl⟩
     have hcell:∀(i j:Nat),i<len→j<ee.length→∃v c,w.cell? ((a.add (i*ee.length)).add j)=some v∧(g i)[j]?=some c∧VR w (· <w.heap.size) cd c v∧c.gD=true:=by
      intro i j hi hj
      obtain⟨vs,h1,h2,h3⟩:=hg i hi
      obtain⟨h4,h5⟩:=pD h1
      have hv:vs[j]?=some vs[j]:=Dl (by omega)
      have hjl:j<(g i).length:=by have:=h2.1;omega
      have hc:(g i)[j]?=some (g i)[j]:=Dl hjl
      obtain⟨h6,h7⟩:=h2.2 j _ _ hc hv
      exact⟨_,_,(h5 j hj).trans hv,hc,h6,h7⟩
     refine⟨[.aP ee.length ((List.range len).map g) false],eR ?_ rfl,rfl,fun j d c hd hc=>?_⟩
     ·have hlen:((List.range len).map g).length=len:=by simp
      have hq:VR w (· <w.heap.size) cd (.aP ee.length ((List.range len).map g) false) (.slice (some a) ((List.range len).map g).length cap):=by
       refine .aP (fun i j=>(w.cell? ((a.add (i*ee.length)).add j)).getD undef) (by omega) (fun h=>by cases h) (fun i r hr=>?_) ?_ (fun i j r c hr hc=>?_) (fun i j r c hr hc=>?_)
       ·obtain⟨hi,rfl⟩:=hrow i r hr
        obtain⟨vs,h1,h2,h3⟩:=hg i hi
        exact h3.1
       ·by_cases h0:len=0
        ·left;subst h0;rfl
        ·right
         obtain⟨v,c,h1,_⟩:=hcell 0 0 (by omega) hz0
         rw[Fa]at h1
         have h2:=u3 (a:=a) (v:=v) (by have:(a.add 0).add 0=a.add 0:=by simp[Addr.add]
                                       rw[this]at h1;exact h1)
         refine⟨a.block,a.off,?_,h2.2,fun i j r c hr hc=>?_⟩
         ·obtain⟨b,o,sp⟩:=a;simp only at h2;rw[h2.1]
         ·obtain⟨hi,rfl⟩:=hrow i r hr
          obtain⟨vs,_,h3,h4⟩:=hg i hi
          have hj:j<ee.length:=by have:=(C7.1 hc).1;have:=h4.1;omega
          obtain⟨v,c',h5,_⟩:=hcell i j hi hj
          have ha:(a.add (i*ee.length)).add j=⟨a.block,a.off+i*ee.length+j,none⟩:=by
           obtain⟨b,o,sp⟩:=a;simp only at h2;rw[h2.1,bP,bP]
          rw[←ha,h5];rfl
       ·obtain⟨hi,rfl⟩:=hrow i r hr
        obtain⟨vs,_,h3,h4⟩:=hg i hi
        have hj:j<ee.length:=by have:=(C7.1 hc).1;have:=h4.1;omega
        obtain⟨v,c',_,h6,_,h7⟩:=hcell i j hi hj
        rw[hc]at h6;cases h6;exact h7
       ·obtain⟨hi,rfl⟩:=hrow i r hr
        obtain⟨vs,_,h3,h4⟩:=hg i hi
        have hj:j<ee.length:=by have:=(C7.1 hc).1;have:=h4.1;omega
        obtain⟨v,c',h5,h6,h7,_⟩:=hcell i j hi hj
        rw[hc]at h6;cases h6
        simp only[h5,EE];exact h7
      rw[hlen]at hq
      exact hq
     ·cases j<;>simp at hd hc
      subst hd;subst hc
      refine .aP ee _ false (by simp;omega) (fun r hr=>?_) (fun r hr j d c hd hc=>?_)
      ·obtain⟨i,hi⟩:=DC hr
       obtain⟨h1,rfl⟩:=hrow i r hi
       obtain⟨vs,_,_,h4⟩:=hg i h1
       exact h4.1
      ·obtain⟨i,hi⟩:=DC hr
       obtain⟨h1,rfl⟩:=hrow i r hi
       obtain⟨vs,_,_,h4⟩:=hg i h1
       exact h4.2 j d c hd hc
   ·rename_i fs hu
    simp only[C6]at hd
    obtain⟨tot,hd1,hd⟩:=hd
    replace hd:=aa hd
    obtain⟨hd2,hd⟩:=hd
    cases hd
    have hd2:P.cellsOf t=es.length:=by simpa using hd2
    obtain⟨xs,m,hm,_,hl,hxl,aQ⟩:=DataW.trod_struct hu h
    cases hm
    obtain⟨rest,h1,scs,h2,h3⟩:=lD (dd:=dd) (fun t cs x es h1 h2=>ih t cs x dd es h1 h2) cs fs.toList [] es hd1 (fun f hf=>by
     obtain⟨i,hi⟩:=DC hf
     have hlt:=(C7.1 hi).1
     have h5:=aQ i f (by simpa using hi)
     exact⟨xs[i]'(by simp at hlt;omega),by rw[h5];simp⟩) (by omega)
    simp only[EY]at h1
    subst h1
    simp only[D8,EW]at h2
    rw[Eh (by omega)]at h2
    exact⟨scs,h2,h3⟩
   ·rename_i k e hu
    simp only[C6]at hd
    obtain⟨ee,hd1,hd⟩:=hd
    replace hd:=aa hd
    obtain⟨hd2,hd⟩:=hd
    cases hd
    simp only[Db,D0]at hd2
    obtain⟨hz,ht⟩:=hd2
    obtain⟨xs,m,hm,_,hl,hxl,aQ⟩:=DataW.trod_array hu h
    cases hm
    obtain⟨scs,h2,h3⟩:=nw (dd:=dd) (fun cs x h1=>ih e cs x dd ee h1 hd1) hz cs k 0 (fun i _ hi=>⟨xs[i]'(by omega),by rw[aQ i (by omega)];simp⟩)
    have hfl:(List.replicate k ee).flatten.length=k*ee.length:=by simp
    rw[Fa,EW,Eh (by omega)]at h2
    exact⟨scs,h2,h3⟩
   ·cases hd
def nr(d:Bool×List DT)(x:SV):Prop:=match d.1 with
 |true=>∃cs,x=.agg cs∧cF d.2 cs
 |false=>∃e,d.2=[e]∧Fits e x
def rr(P:Program)(t:TypeId):Option (Bool×List DT):=match fh P t,fV P 8 t with
 |some ag,some es=>some (ag,es)
 |_,_=>none
theorem ou{r:Reach}{base:Nat}{t:TypeId}{v:Value}(h:Value.okWide P w r base t v)(hag:fh P t=some true):∃cs,v=.agg cs:=by
 unfold Value.okWide at h
 unfold fh at hag
 split at h
 ·obtain⟨cs,h,_⟩:=h;exact⟨cs,h⟩
 ·obtain⟨cs,h,_⟩:=h;exact⟨cs,h⟩
 ·rename_i h1 h2
  split at hag
  ·rename_i fs hu;exact absurd hu (h1 fs)
  ·rename_i n e hu;exact absurd hu (h2 n e)
  ·cases hag
  ·cases hag
theorem oB{r:Reach}{base:Nat}{t:TypeId}{v:Value}{es:List DT}(h:Value.okWide P w r base t v)(hag:fh P t=some false)(hd:fV P 8 t=some es):fJ v=true∧es.length=1:=by
 unfold fV at hd
 unfold Value.okWide at h
 split at hd
 ·rename_i hu
  simp only[hu,Cell.okWide,Cell.ok]at h
  cases hd
  cases v<;>simp_all [fJ]
 ·rename_i k hu
  simp only[hu,Cell.okWide,Cell.ok]at h
  cases hd
  cases v<;>simp_all [fJ]
 ·rename_i hu
  simp only[hu,Cell.okWide,Cell.ok]at h
  cases hd
  cases v<;>simp_all [fJ]
 ·rename_i e hu
  simp only[hu,Cell.okWide,Cell.ok]at h
  simp only[C6]at hd
  obtain⟨ee,_,hd⟩:=hd
  replace hd:=aa hd
  cases hd.2
  cases v<;>simp_all [fJ]
 ·rename_i fs hu;simp[fh,hu]at hag
 ·rename_i k e hu;simp[fh,hu]at hag
 ·cases hd
theorem uS{r:Reach}{base:Nat}{t:TypeId}{v:Value}{d:DataW H}{ps:List MemPlace}{a:Bool×List DT}(h:DataW.Trod enc P w 0 spare held t v d ps)(hok:Value.okWide P w r base t v)(ha:rr P t=some a) :
 ∃x,VR w (· <w.heap.size) cd x v∧nr a x:=by
 unfold rr at ha
 split at ha
 rotate_left
 ·cases ha
 rename_i ag es hag hd
 cases ha
 obtain⟨n,hn⟩:=h
 obtain⟨scs,h1,h2⟩:=tw n t _ _ 8 es hn hd
 cases ag with
 |true=>
  obtain⟨cs,rfl⟩:=ou hok hag
  refine⟨.agg scs,.agg (by simpa[Value.cells]using h1.1) (fun j c hc=>?_) (fun j c v hc hv=>(h1.2 j c v hc (by simpa[Value.cells]using hv)).1),scs,rfl,h2⟩
  have hlt:=(C7.1 hc).1
  have hl:=h1.1
  simp only[Value.cells,EM]at hl
  exact(h1.2 j c cs[j] hc (by simp[Value.cells])).2
 |false=>
  obtain⟨h3,h4⟩:=oB hok hag hd
  have hc:v.cells= #[v]:=by cases v<;>simp_all [Value.cells,fJ]
  rw[hc]at h1
  obtain⟨c,rfl⟩:∃c,scs=[c]:=E4.1 (by simpa using h1.1)
  obtain⟨e,rfl⟩:∃e,es=[e]:=E4.1 h4
  exact⟨c,(h1.2 0 c v rfl rfl).1,e,rfl,h2.2 0 e c rfl rfl⟩
def fB(as1:List (Bool×List DT))(xs:List SV):Prop:=xs.length=as1.length∧∀(j:Nat) a x,as1[j]?=some a→xs[j]?=some x→nr a x
theorem pv{r:Reach}{base:Nat}:∀(ts:List TypeId) (vs:List Value) (ds:List (DataW H)) (ps:List MemPlace) (as1:List (Bool×List DT)),DataW.TrodAll enc P w 0 spare held ts vs ds ps→ts.map (rr P)=as1.map some→
 (∀(j:Nat) t v,ts[j]?=some t→vs[j]?=some v→Value.okWide P w r base t v)→∃xs:List SV,xs.length=vs.length∧(∀(j:Nat) c v,xs[j]?=some c→vs[j]?=some v→VR w (· <w.heap.size) cd c v)∧fB as1 xs∧ds.length=ts.length
 |[],[],[],ps,as1,h,ha,_=>by
  have:as1=[]:=by simpa using ha.symm
  subst this
  exact⟨[],rfl,by simp,⟨rfl,by simp⟩,rfl⟩
 |t::ts,v::vs,d::ds,ps,as1,h,ha,hok=>by
  obtain⟨p,q,h1,h2,_⟩:=h
  cases as1 with
  |nil=>simp at ha
  |cons a as1=>
   simp only[DQ,Fs]at ha
   obtain⟨x,k1,k2⟩:=uS h1 (hok 0 t v rfl rfl) ha.1
   obtain⟨xs,k3,k4,k5,k6⟩:=pv ts vs ds q as1 h2 ha.2 (fun j t v ht hv=>hok (j+1) t v ht hv)
   refine⟨x::xs,by simp[k3],fun j c v hc hv=>?_,⟨by simp[k5.1],fun j a x ha hx=>?_⟩,by simp[k6]⟩
   ·cases j with
    |zero=>simp at hc hv;subst hc;subst hv;exact k1
    |succ j=>exact k4 j c v (by simpa using hc) (by simpa using hv)
   ·cases j with
    |zero=>simp at ha hx;subst ha;subst hx;exact k2
    |succ j=>exact k5.2 j a x (by simpa using ha) (by simpa using hx)
 |[],_::_,_,_,_,h,_,_=>by simp[DataW.TrodAll]at h
 |[],[],_::_,_,_,h,_,_=>by simp[DataW.TrodAll]at h
 |_::_,[],_,_,_,h,_,_=>by simp[DataW.TrodAll]at h
 |_::_,_::_,[],_,_,h,_,_=>by simp[DataW.TrodAll]at h
end
end
section
section
variable{H:Type}{enc:TypeId×Value→H}{P:Program}{w w':World}
theorem gK{base:Nat}{spare:Nat→Bool}{held:Bool}:∀{ts:List TypeId} {vs:List Value} {ds:List (DataW H)} {ps:List MemPlace},DataW.TrodAll enc P w base spare held ts vs ds ps→(∀p∈ps,w.sameAt w' p)→DataW.TrodAll enc P w' base spare held ts vs ds ps
 |[],[],[],_,h,_=>h
 |_::_,_::_,_::_,_,⟨p,q,⟨n,h1⟩,h2,e⟩,hs=>⟨p,q,⟨n,DataW.trod_carry n _ _ _ h1 (fun x hx=>hs x (by rw[e];exact Ej _ hx))⟩,gK h2 (fun x hx=>hs x (by rw[e];exact ET _ hx)),e⟩
 |[],_::_,_,_,h,_=>by simp[DataW.TrodAll]at h
 |[],[],_::_,_,h,_=>by simp[DataW.TrodAll]at h
 |_::_,[],_,_,h,_=>by simp[DataW.TrodAll]at h
 |_::_,_::_,[],_,h,_=>by simp[DataW.TrodAll]at h
theorem pC(hh:∀B,B<w.heap.size→w'.heap[B]?=w.heap[B]?){p:MemPlace}(hp:p.block<w.heap.size):w.sameAt w' p:=by
 cases p with
 |cell b off=>simp only[World.sameAt,World.cell?,hh b hp]
 |map b=>exact hh b hp
theorem sT(hh:∀B,B<w.heap.size→w'.heap[B]?=w.heap[B]?)(ho:w'.os=w.os∧w'.output=w.output)(may:MemPlace→Prop):w.keptBut w' may:=by
 refine⟨ho.1,ho.2,fun i hi=>?_⟩
 rw[hh i hi]
 cases hq:w.heap[i]? with
 |none=>simp
 |some o=>cases o<;>simp
end
theorem mM{Ck:Checked}(cg:qm)(hext:mj ⟨Ck.prog,cg⟩){os:Os}{f:FuncId}{fn:Func}{s:ChangeSpec}{conds:List PathCond}{apart fresh handsOn:Bool}{ads:List (Bool×List DT)}{tb:TypeId}{H:Type}{enc:TypeId×Value→H}
 (own:ownKnob Ck.prog.godebug=none) (started:os.Started) (noInit:Ck.prog.inits.idxOf? f=none) (hfn:Ck.prog.funcs[f]?=some fn)
 (witness:∃(w:World) (tape:Tape) (i:Input),w.os=os∧(w.forCall tape i).Shaped Ck.prog∧i.vars=[]∧Input.okWide Ck.prog (w.forCall tape i) .any w.heap.size f i∧
  s.pre6 enc Ck.prog fn conds apart (w.forCall tape i).memory i.args∧({}:Assume).holds Ck.prog (lone (Frame.enter Ck.prog f i.args .normal) [] (w.forCall tape i)))
 (hmix:Ck.prog.follows .mixedOrders=true) (hlaid:laidOutB Ck.prog=true) (hmaps:mapsRowed Ck.prog=true)
 (hfull:((List.range Ck.prog.types.size).all fun t=>match Ck.prog.underlying t with|some (.slice e)=>decide (0<Ck.prog.cellsOf e)|_=>true)=true)
 (hpar:∀t∈fn.params.toList,t<Ck.prog.types.size)
 (hargs:fn.params.toList.map (rr Ck.prog)=ads.map some) (hres:fn.resultTypes= #[tb]) (hb:Ck.prog.underlying tb=some .bool) (hvars:s.vars=[])
 (hspec:∀(H:Type) (ds:List (DataW H)),ds.length=fn.params.toList.length→s.fn H ds={results:=[.lit (.bool true)],args:=ds})
 (hlaw:∀xs,fB ads xs→∃m,aI (mW Ck.prog cg) m (.fn f) xs aB=some (.bool true,aB)) :
 ReturnsInHanded {} Ck os f .any (s.pre6 enc Ck.prog fn conds apart) (s.post enc Ck.prog fn apart fresh handsOn false):=by
 refine returnsInHanded_of_change own started noInit hfn witness ?_
 intro W base args ds gs before hval hW hcnd _
 have hW':=hW
 obtain⟨p,q,hA,hV,rfl,hfz,hnd⟩:=hW
 rw[hvars]at hV
 have hgs:gs=[]∧q=[]:=by
  cases gs with
  |nil=>exact⟨rfl,hV⟩
  |cons g gs=>simp[DataW.TrodVars]at hV
 obtain⟨rfl,rfl⟩:=hgs
 obtain⟨xs,h1,h2,h3,h4⟩:=pv (spare:=fun _=>true) (held:=true) fn.params.toList args.toList ds p ads hA hargs (fun j t v ht hv=>hval j t v (by simpa using ht) (by simpa using hv))
 obtain⟨m,hm⟩:=hlaw xs h3
 have hHR:HR ⟨Ck.prog,cg⟩ cd (· <W.heap.size) aB W:=⟨(fun b l h=>by cases h),(fun b x h=>by simp[aB]at h),(fun b b' l l' h=>by cases h.2.1),(fun b l h=>by cases h.2.1),fun B hB=>hB⟩
 have hcall:=((lR (C:=⟨Ck.prog,cg⟩) hmix hext (fun _ _ h=>h) m).call f xs aB (.bool true) aB hm cd (· <W.heap.size) W args hHR ⟨by simpa using h1,fun j c v hc hv=>h2 j c v hc (by simpa using hv)⟩).2 0
 refine(callsIn_wide.1 hcall).mono (fun e W' he=>?_)
 obtain⟨val,rfl,ρ',F',d1,d2,d3⟩:=he
 have hv:=cI d1
 subst hv
 have hno:∀b l,¬Own cd aB b l:=fun b l h=>by cases h.2.1
 have hh:∀B,B<W.heap.size→W'.heap[B]?=W.heap[B]?:=fun B hB=>d3.frame B hB (fun b l ho=>absurd ho (hno b l))
 have hlt:∀x∈p,x.block<W.heap.size:=fun x hx=>hW'.lt x (by simpa using hx)
 refine⟨_,rfl,ds,[],p++[],[],p,[],hW',?_,?_,?_,sT hh d3.out _,fun h=>by cases h⟩
 ·rw[hres,hspec H (ds++[]) (by simpa using h4)]
  simp only[List.size_toArray,DU,D8,Value.resultList]
  exact⟨[],[],RowKit.shut_bool hb true,rfl,rfl⟩
 ·rw[hspec H (ds++[]) (by simpa using h4)]
  simp only[Er]
  refine gK ?_ (fun x hx=>pC hh (hlt x hx))
  exact DataW.TrodAll.respare (kids_rows hlaid hmaps) (fun t e ht hu=>slices_full_of Ck.prog hfull t e ht hu) hpar hA (fun x hx=>by simpa using hlt x hx)
 ·rw[hspec H (ds++[]) (by simpa using h4),hvars]
  rfl
theorem tL{Ck:Checked}(cg:qm){os:Os}{f:FuncId}{fn:Func}{s:ChangeSpec}{conds:List PathCond}{apart fresh handsOn:Bool}{ads:List (Bool×List DT)}{tb:TypeId}{H:Type}{enc:TypeId×Value→H}
 (own:ownKnob Ck.prog.godebug=none) (started:os.Started) (noInit:Ck.prog.inits.idxOf? f=none) (hfn:Ck.prog.funcs[f]?=some fn)
 (witness:∃(w:World) (tape:Tape) (i:Input),w.os=os∧(w.forCall tape i).Shaped Ck.prog∧i.vars=[]∧Input.okWide Ck.prog (w.forCall tape i) .any w.heap.size f i∧
  s.pre6 enc Ck.prog fn conds apart (w.forCall tape i).memory i.args∧({}:Assume).holds Ck.prog (lone (Frame.enter Ck.prog f i.args .normal) [] (w.forCall tape i)))
 (hmix:Ck.prog.follows .mixedOrders=true) (hlaid:laidOutB Ck.prog=true) (hmaps:mapsRowed Ck.prog=true)
 (hfull:((List.range Ck.prog.types.size).all fun t=>match Ck.prog.underlying t with|some (.slice e)=>decide (0<Ck.prog.cellsOf e)|_=>true)=true)
 (hpar:∀t∈fn.params.toList,t<Ck.prog.types.size)
 (hargs:fn.params.toList.map (rr Ck.prog)=ads.map some) (hres:fn.resultTypes= #[tb]) (hb:Ck.prog.underlying tb=some .bool) (hvars:s.vars=[])
 (hspec:∀(H:Type) (ds:List (DataW H)),ds.length=fn.params.toList.length→s.fn H ds={results:=[.lit (.bool true)],args:=ds})
 (hlaw:∀xs,fB ads xs→∃m,aI (mW Ck.prog cg) m (.fn f) xs aB=some (.bool true,aB)) (hnone:∀f,cg.ext f=none:=by intro f;rfl) :
 ReturnsInHanded {} Ck os f .any (s.pre6 enc Ck.prog fn conds apart) (s.post enc Ck.prog fn apart fresh handsOn false):=
 mM cg (fun f k h=>by rw[show cg.ext f=none from hnone f]at h;cases h) own started noInit hfn witness hmix hlaid hmaps hfull hpar hargs hres hb hvars hspec hlaw
end
section
mutual
def eC:SV→SV→Bool
 | .undef,.undef=>true
 | .fa,.fa=>true
 | .bool a,.bool b=>a==b
 | .int k a,.int k' b=>decide (k=k')&&decide (a=b)
 | .str a,.str b=>decide (a=b)
 | .dU,.dU=>true
 | .ptr a b c d,.ptr a' b' c' d'=>decide (a=a')&&decide (b=b')&&decide (c=c')&&decide (d=d')
 | .dy a,.dy b=>qp a b
 | .aP z L f,.aP z' L' f'=>decide (z=z')&&ow L L'&&f==f'
 | .bt a b c d,.bt a' b' c' d'=>decide (a=a')&&decide (b=b')&&decide (c=c')&&decide (d=d')
 | .agg a,.agg b=>qp a b
 | .cG a,.cG b=>qp a b
 | .fn f a,.fn g b=>decide (f=g)&&qp a b
 | .mf f a,.mf g b=>decide (f=g)&&qp a b
 | .eL,.eL=>true
 | .jf a,.jf b=>decide (a=b)
 | .mp a,.mp b=>decide (a=b)
 |_,_=>false
def qp:List SV→List SV→Bool
 |[],[]=>true
 |a::r,b::r'=>eC a b&&qp r r'
 |_,_=>false
def ow:List (List SV)→List (List SV)→Bool
 |[],[]=>true
 |a::r,b::r'=>qp a b&&ow r r'
 |_,_=>false
end
mutual
theorem jI:∀a b:SV,eC a b=true→a=b
 | .undef,b,h=>by cases b<;>first|rfl|(simp[eC]at h;done)
 | .fa,b,h=>by cases b<;>first|rfl|(simp[eC]at h;done)
 | .bool a,b,h=>by cases b<;>simp[eC]at h⊢ <;>exact h
 | .int k a,b,h=>by cases b<;>simp[eC]at h⊢ <;>exact h
 | .str a,b,h=>by cases b<;>simp[eC]at h⊢ <;>exact h
 | .dU,b,h=>by cases b<;>first|rfl|(simp[eC]at h;done)
 | .ptr ..,b,h=>by cases b<;>simp[eC]at h⊢ <;>exact⟨h.1.1.1,h.1.1.2,h.1.2,h.2⟩
 | .dy a,b,h=>by cases b<;>simp[eC]at h⊢ <;>exact gb _ _ h
 | .aP z L f,b,h=>by cases b<;>simp[eC]at h⊢ <;>exact⟨h.1.1,lX _ _ h.1.2,h.2⟩
 | .bt ..,b,h=>by cases b<;>simp[eC]at h⊢ <;>exact⟨h.1.1.1,h.1.1.2,h.1.2,h.2⟩
 | .agg a,b,h=>by cases b<;>simp[eC]at h⊢ <;>exact gb _ _ h
 | .cG a,b,h=>by cases b<;>simp[eC]at h⊢ <;>exact gb _ _ h
 | .fn f a,b,h=>by cases b<;>simp[eC]at h⊢ <;>exact⟨h.1,gb _ _ h.2⟩
 | .mf f a,b,h=>by cases b<;>simp[eC]at h⊢ <;>exact⟨h.1,gb _ _ h.2⟩
 | .eL,b,h=>by cases b<;>first|rfl|(simp[eC]at h;done)
 | .jf a,b,h=>by cases b<;>simp[eC]at h⊢ <;>exact h
 | .mp a,b,h=>by cases b<;>simp[eC]at h⊢ <;>exact h
theorem gb:∀a b:List SV,qp a b=true→a=b
 |[],[],_=>rfl
 |[],_::_,h=>by simp[qp]at h
 |_::_,[],h=>by simp[qp]at h
 |a::r,b::r',h=>by
  simp only[qp,Db]at h
  rw[jI a b h.1,gb r r' h.2]
theorem lX:∀a b:List (List SV),ow a b=true→a=b
 |[],[],_=>rfl
 |[],_::_,h=>by simp[ow]at h
 |_::_,[],h=>by simp[ow]at h
 |a::r,b::r',h=>by
  simp only[ow,Db]at h
  rw[gb a b h.1,lX r r' h.2]
end
def qo:List (SV×SV)→List (SV×SV)→Bool
 |[],[]=>true
 |a::r,b::r'=>eC a.1 b.1&&eC a.2 b.2&&qo r r'
 |_,_=>false
theorem oJ:∀a b:List (SV×SV),qo a b=true→a=b
 |[],[],_=>rfl
 |[],_::_,h=>by simp[qo]at h
 |_::_,[],h=>by simp[qo]at h
 |(a1,a2)::r,(b1,b2)::r',h=>by
  simp only[qo,Db]at h
  rw[jI a1 b1 h.1.1,jI a2 b2 h.1.2,oJ r r' h.2]
def lA:Env→Env→Bool
 |[],[]=>true
 |a::r,b::r'=>decide (a.1=b.1)&&eC a.2 b.2&&lA r r'
 |_,_=>false
theorem ng:∀a b:Env,lA a b=true→a=b
 |[],[],_=>rfl
 |[],_::_,h=>by simp[lA]at h
 |_::_,[],h=>by simp[lA]at h
 |(a1,a2)::r,(b1,b2)::r',h=>by
  simp only[lA,Db,Dc]at h
  rw[h.1.1,jI a2 b2 h.1.2,ng r r' h.2]
def jZ:bb→bb→Bool
 | .dead,.dead=>true
 | .box a,.box b=>qp a b
 | .arr v z L x,.arr v' z' L' x'=>decide (v=v')&&decide (z=z')&&ow L L'&&x==x'
 | .map a,.map b=>qo a b
 |_,_=>false
theorem ri:∀a b:bb,jZ a b=true→a=b
 | .dead,b,h=>by cases b<;>first|rfl|(simp[jZ]at h;done)
 | .box a,b,h=>by cases b<;>simp[jZ]at h⊢ <;>exact gb _ _ h
 | .arr ..,b,h=>by cases b<;>simp[jZ]at h⊢ <;>exact⟨h.1.1.1,h.1.1.2,lX _ _ h.1.2,h.2⟩
 | .map a,b,h=>by cases b<;>simp[jZ]at h⊢ <;>exact oJ _ _ h
 | .loop ..,b,h=>by cases b<;>simp[jZ]at h
def p8:List bb→List bb→Bool
 |[],[]=>true
 |a::r,b::r'=>jZ a b&&p8 r r'
 |_,_=>false
theorem oL:∀a b:List bb,p8 a b=true→a=b
 |[],[],_=>rfl
 |[],_::_,h=>by simp[p8]at h
 |_::_,[],h=>by simp[p8]at h
 |a::r,b::r',h=>by
  simp only[p8,Db]at h
  rw[ri a b h.1,oL r r' h.2]
def vq(a b:Env×ab):Bool:=lA a.1 b.1&&p8 a.2.bl b.2.bl&&decide (a.2.br=b.2.br)&&decide (a.2.ro=b.2.ro)
theorem tX{a b:Env×ab}(h:vq a b=true):a=b:=by
 obtain⟨e,bl,es,ro⟩:=a
 obtain⟨e',bl',es',ro'⟩:=b
 simp only[vq,Db,Dc]at h
 obtain⟨⟨⟨h1,h2⟩,rfl⟩,rfl⟩:=h
 rw[ng _ _ h1,oL _ _ h2]
def j9:List (Option (Env×ab))→Option (Env×ab)
 |[]=>none
 |[a]=>a
 |some a::some b::r=>bif vq a b then j9 (some b::r)else none
 |_=>none
theorem mA:∀(l:List (Option (Env×ab))) {s},j9 l=some s→jq l=some s∧∀x∈l,x=some s
 |[],s,h=>by simp[j9]at h
 |[a],s,h=>⟨h,fun x hx=>by simp only[E8]at hx;subst hx;exact h⟩
 |some a::some b::r,s,h=>by
  simp only[j9]at h
  replace h:=aa h
  obtain⟨h1,h2⟩:=h
  have:=tX h1
  subst this
  obtain⟨h3,h4⟩:=mA (some a::r) h2
  exact⟨by rw[jq,if_pos rfl];exact h3,fun x hx=>by
   rcases Ei.1 hx with rfl|hx
   ·exact h4 _ (Dq ..)
   ·exact h4 x hx⟩
 |none::b::r,s,h=>by simp[j9]at h
 |some a::none::r,s,h=>by simp[j9]at h
def df(rec:Rec)(fu:Nat):bA→Env→ab→Option Out
 | .skip,e,H=>some (.normal,e,H)
 | .ops l,e,H=>(bz rec l e H (fun e H=>some (e,H)) ()).map fun s=>(.normal,s)
 | .drawn l,e,H=>(bm rec l H.bl.length e H (fun e H=>some (e,H)) ()).map fun s=>(.normal,s)
 | .perm l os,e,H=>(j9 (os.map (gP rec l e H))).map fun s=>(.normal,s.1,s.2)
 | .seq a b,e,H=>match df rec fu a e H with
   |some (.normal,e,H)=>df rec fu b e H
   |r=>r
 | .cond c a b,e,H=>match ev e c with
   | .bool t=>bif t then df rec fu a e H else df rec fu b e H
   |_=>none
 | .block id a,e,H=>match df rec fu a e H with
   |some (.exit j,e,H)=>some (bif j==id then .normal else .exit j,e,H)
   |r=>r
 | .freeze t,e,H=>(tn H (get e t)).map fun r=>(.normal,(t,r.1)::e,r.2)
 | .aU vs,e,H=>(dq vs e H).map fun s=>(.normal,s.1,s.2)
 | .tm d neg x c,e,H=>match pA H (ev e x)with
   |some false=>df rec fu c ((d,.bool neg)::e) H
   |_=>none
 | .loop p a,e,H=>(dq p.aU e H).bind fun s=>(bV (fun s'=>(cZ p s.2.bl.length {s.2 with br:=[]} s').bind fun s'=>df rec fu a s'.1 s'.2) fu (s.1,{s.2 with br:=[]})).map
    fun o=>(o.1,o.2.1,{o.2.2 with br:=s.2.br++o.2.2.br})
 | .kC f ps x y,e,H=>(la rec (ev e f) [.jf H.bl.length] (aZ H (.loop ⟨e,ps,x,y⟩ .ready .normal))).bind fun r=>
    match aQ r.2 H.bl.length with
    |some (.loop q st pend)=>match st with
     | .busy=>none
     |_=>(bF r.2 H.bl.length (.loop q .exhausted pend) 0).map fun H=>(pend,e,H)
    |_=>none
 | .ext n,e,H=>(kP n (e.map (·.2))).map fun v=>(.ret,(0,v)::e,H)
 | .exit id,e,H=>some (.exit id,e,H)
 | .ret,e,H=>some (.ret,e,H)
def gG(T:FuncId→Option bp)(fu:Nat):Nat→Rec
 |0,_,_,_=>none
 |n+1,.fn f,xs,H=>match T f with
  |none=>none
  |some F=>bif dW F xs then
    ((df (gG T fu n) fu F.body (cQ xs) aB).bind fun o=>match o.1 with
      | .exit _=>none
      |_=>(results1 o.2.1 o.2.2 F.res).bind fun v=>cR 0 o.2.2 bI v).map fun v=>(v,H)
   else(df (gG T fu n) fu F.body (cQ xs) {bl:=H.bl,br:=[],ro:=min H.ro H.bl.length}).bind fun o=>match o.1 with
    | .exit _=>none
    |_=>(results1 o.2.1 o.2.2 F.res).bind fun v=>cc F.keep H v o.2.2
 |n+1,.qC f,xs,H=>match T f with
  |none=>none
  |some F=>(df (gG T fu n) fu F.body (cQ xs) {bl:=H.bl,br:=[],ro:=min H.ro H.bl.length}).bind fun o=>match o.1 with
    | .exit _=>none
    |_=>(results1 o.2.1 o.2.2 F.res).bind fun v=>cc true H v o.2.2
 |n+1,.jf b,xs,H=>match aQ H b with
  |some (.loop q .ready _)=>
   bif q.ps.length==xs.length then
    (df (gG T fu n) fu q.assign ((q.ps.zip xs).reverse++q.env) {bl:=H.bl,br:=[],ro:=min H.ro H.bl.length}).bind fun o=>match o.1 with
     | .normal=>(jb b o.2.2).bind fun H'=>(df (gG T fu n) fu q.body o.2.1 H').bind fun o=>
        (jH b (match o.1 with| .normal=>.ready|_=>.done) o.1 o.2.2).bind fun H'=>
         (cu H.bl.length H H').map fun H'=>(.bool (match o.1 with| .normal=>true|_=>false),H')
     |_=>none
   else none
  |_=>none
section
variable{rec rec':Rec}(hrec:∀f xs H r,rec f xs H=some r→rec' f xs H=some r)
include hrec
theorem sx{f xs H r}(h:gM rec f xs H=some r):gM rec' f xs H=some r:=by
 unfold gM at h⊢
 split at h
 ·exact hrec _ _ _ _ h
 ·exact hrec _ _ _ _ h
 ·exact hrec _ _ _ _ h
 ·cases h
theorem qF{f xs H r}(h:la rec f xs H=some r):la rec' f xs H=some r:=by
 unfold la at h⊢
 split at h
 ·exact hrec _ _ _ _ h
 ·cases h
theorem iP{e H o r}(h:ae rec e H o=some r):ae rec' e H o=some r:=by
 unfold ae at h⊢
 split at h
 ·exact sx hrec h
 ·exact hrec _ _ _ _ h
 ·unfold mO at h⊢
  obtain⟨vs,h1,h2⟩:=C6.1 h
  obtain⟨r1,h3,h4⟩:=C6.1 h2
  exact C6.2 ⟨vs,h1,C6.2 ⟨r1,hrec _ _ _ _ h3,h4⟩⟩
 ·exact h
theorem px{N d e H o r}(h:bx rec N d e H o=some r):bx rec' N d e H o=some r:=by
 unfold bx at h⊢
 split at h
 ·exact iP hrec h
 ·obtain⟨a,h1,h2⟩:=C6.1 h
  exact C6.2 ⟨a,iP hrec h1,h2⟩
 ·obtain⟨a,h1,h2⟩:=C6.1 h
  exact C6.2 ⟨a,iP hrec h1,h2⟩
 ·unfold oq at h ⊢;exact h
theorem kY{R:Type}(k:Env→ab→Option R):∀l e H o,bz rec l e H (fun e H=>some (e,H)) ()=some o→bz rec' l e H k ()=k o.1 o.2:=by
 intro l
 induction l with
 |nil=>intro e H o h;simp only[bz,Dd]at h ⊢;rw[←h]
 |cons a l ih=>
  intro e H o h
  have key:∀o,aL (ae rec e H a.op) (fun r=>bz rec l (bq e a.dst r.1) r.2 (fun e H=>some (e,H)) ()) ()=some o→aL (ae rec' e H a.op) (fun r=>bz rec' l (bq e a.dst r.1) r.2 k ()) ()=k o.1 o.2:=by
   intro o h
   unfold aL at h
   split at h
   ·rename_i v hv
    rw[iP hrec hv]
    exact ih _ _ _ h
   ·cases h
  simp only[bz]at h⊢
  split at h
  ·exact key _ h
  ·rename_i t w _
   unfold de at h⊢
   split at h
   ·unfold fork at h⊢
    dsimp only at h⊢
    rename_i b _
    cases hb:(b==w)with
    |true=>rw[hb]at h;exact key _ h
    |false=>rw[hb]at h;exact ih _ _ _ h
   ·unfold fork at h⊢
    exact ih _ _ _ h
   ·cases h
theorem nC{R:Type}(k:Env→ab→Option R):∀l N e H o,bm rec l N e H (fun e H=>some (e,H)) ()=some o→bm rec' l N e H k ()=k o.1 o.2:=by
 intro l
 induction l with
 |nil=>intro N e H o h;simp only[bm,Dd]at h ⊢;rw[←h]
 |cons a l ih=>
  intro N e H o h
  obtain⟨a,d⟩:=a
  have key:∀o,aL (bx rec N d e H a.op) (fun r=>bm rec l (dj d N r.2) (bq e a.dst r.1) r.2 (fun e H=>some (e,H)) ()) ()=some o→
   aL (bx rec' N d e H a.op) (fun r=>bm rec' l (dj d N r.2) (bq e a.dst r.1) r.2 k ()) ()=k o.1 o.2:=by
   intro o h
   unfold aL at h
   split at h
   ·rename_i v hv
    rw[px hrec hv]
    exact ih _ _ _ _ h
   ·cases h
  have key2:∀o,(bif eG d then bm rec l (dj d N H) (bq e a.dst .fa) H (fun e H=>some (e,H)) ()else none)=some o→
   (bif eG d then bm rec' l (dj d N H) (bq e a.dst .fa) H k ()else none)=k o.1 o.2:=by
   intro o h
   cases hs:eG d with
   |true=>rw[hs]at h;exact ih _ _ _ _ h
   |false=>rw[hs]at h;cases h
  simp only[bm]at h⊢
  split at h
  ·exact key _ h
  ·rename_i t w _
   unfold de at h⊢
   split at h
   ·unfold fork at h⊢
    dsimp only at h⊢
    rename_i b _
    cases hb:(b==w)with
    |true=>rw[hb]at h;exact key _ h
    |false=>rw[hb]at h;exact key2 _ h
   ·unfold fork at h⊢
    exact key2 _ h
   ·cases h
theorem si{f g:Env×ab→Option Out}(hfg:∀s o,f s=some o→g s=some o):∀n s o,bV f n s=some o→bV g n s=some o:=by
 intro n
 induction n with
 |zero=>intro s o h;cases h
 |succ n ih=>
  intro s o h
  simp only[bV]at h⊢
  cases hf:f s with
  |none=>rw[hf]at h;cases h
  |some r=>
   rw[hfg _ _ hf]
   rw[hf]at h
   obtain⟨x,s'⟩:=r
   cases x with
   |normal=>exact ih _ _ h
   |exit j=>exact h
   |ret=>exact h
theorem iM(fu:Nat):∀(c:bA) (e:Env) (H:ab) (o:Out),df rec fu c e H=some o→∀{R:Type} (k:jQ→Env→ab→Option R),run rec' c e H k ()=k o.1 o.2.1 o.2.2:=by
 intro c
 induction c with
 |skip=>intro e H o h R k;simp only[df,Dd]at h;subst h;rfl
 |ops l=>
  intro e H o h R k
  simp only[df,C5]at h
  obtain⟨s,hs,rfl⟩:=h
  exact kY hrec _ _ _ _ _ hs
 |drawn l=>
  intro e H o h R k
  simp only[df,C5]at h
  obtain⟨s,hs,rfl⟩:=h
  exact nC hrec _ _ _ _ _ _ hs
 |perm l os=>
  intro e H o h R k
  simp only[df,C5]at h
  obtain⟨s,hs,rfl⟩:=h
  obtain⟨h1,h2⟩:=mA _ hs
  have hmap:os.map (gP rec' l e H)=os.map (gP rec l e H):=by
   apply List.map_congr_left
   intro x hx
   have h3:=h2 _ (EI.2 ⟨x,hx,rfl⟩)
   rw[h3]
   unfold gP at h3⊢
   rw[iE]at h3
   obtain⟨s2,h4,h5⟩:=C6.1 h3
   have h6:bz rec (bK l x) e H (fun e H=>some (e,H)) ()=some s2:=by rw[iE,h4];rfl
   rw[kY hrec _ _ _ _ _ h6]
   exact h5
  simp only[run,hmap,h1,aL]
 |seq a b iha ihb=>
  intro e H o h R k
  simp only[df]at h
  simp only[run]
  split at h
  ·rename_i e' H' ha
   rw[iha _ _ _ ha]
   exact ihb _ _ _ h k
  ·rename_i hn
   rw[iha _ _ _ h]
   obtain⟨x,e',H'⟩:=o
   cases x with
   |normal=>exact absurd h (hn _ _)
   |exit j=>rfl
   |ret=>rfl
 |cond c a b iha ihb=>
  intro e H o h R k
  simp only[df]at h
  simp only[run]
  split at h
  ·rename_i t ht
   rw[ht]
   simp only[kn,fork]
   cases t with
   |true=>exact iha _ _ _ h k
   |false=>exact ihb _ _ _ h k
  ·cases h
 |block id a ih=>
  intro e H o h R k
  simp only[df]at h
  simp only[run]
  split at h
  ·rename_i j e' H' ha
   rw[ih _ _ _ ha]
   cases h
   dsimp only
   cases j==id<;>rfl
  ·rename_i hn
   rw[ih _ _ _ h]
   obtain⟨x,e',H'⟩:=o
   cases x with
   |normal=>rfl
   |exit j=>exact absurd h (hn _ _ _)
   |ret=>rfl
 |freeze t=>
  intro e H o h R k
  simp only[df,C5]at h
  obtain⟨s,hs,rfl⟩:=h
  simp only[run,hs,aL]
 |aU vs=>
  intro e H o h R k
  simp only[df,C5]at h
  obtain⟨s,hs,rfl⟩:=h
  simp only[run,hs,aL]
 |tm d neg x c ih=>
  intro e H o h R k
  simp only[df]at h
  split at h
  ·rename_i hem
   simp only[run,hem,jT]
   exact ih _ _ _ h k
  ·cases h
 |loop p a ih=>
  intro e H o h R k
  simp only[df]at h
  obtain⟨s,h1,h2⟩:=C6.1 h
  obtain⟨o',h3,rfl⟩:=C5.1 h2
  simp only[run,h1,aL]
  have h4:=si hrec (g:=fun s'=>(cZ p s.2.bl.length {s.2 with br:=[]} s').bind fun s'=>run rec' a s'.1 s'.2 (fun x e H=>some (x,e,H)) ()) (fun s' o hs=>by
   obtain⟨q,g1,g2⟩:=C6.1 hs
   exact C6.2 ⟨q,g1,ih _ _ _ g2 _⟩) _ _ _ h3
  rw[kr h4]
 |kC f ps x y ihx ihy=>
  intro e H o h R k
  simp only[df]at h
  obtain⟨s,h1,h2⟩:=C6.1 h
  simp only[run,qF hrec h1,aL]
  split at h2
  ·rename_i q st pend hg
   rw[hg]
   cases st with
   |busy=>cases h2
   |ready=>obtain⟨o',h3,rfl⟩:=C5.1 h2;simp only[h3]
   |done=>obtain⟨o',h3,rfl⟩:=C5.1 h2;simp only[h3]
   |exhausted=>obtain⟨o',h3,rfl⟩:=C5.1 h2;simp only[h3]
  ·cases h2
 |ext n=>
  intro e H o h R k
  simp only[df,C5]at h
  obtain⟨s,hs,rfl⟩:=h
  simp only[run,hs,aL]
 |exit id=>intro e H o h R k;simp only[df,Dd]at h;subst h;rfl
 |ret=>intro e H o h R k;simp only[df,Dd]at h;subst h;rfl
end
theorem eg{T:FuncId→Option bp}(fu:Nat):∀n f xs H r,gG T fu n f xs H=some r→aI T n f xs H=some r:=by
 intro n
 induction n with
 |zero=>intro f xs H r h;simp[gG]at h
 |succ n ih=>
  intro f xs H r h
  cases f with
  |fn f=>
   simp only[gG]at h
   simp only[aI]
   split at h
   ·cases h
   ·rename_i F hF
    rw[hF]
    dsimp only
    cases hp:dW F xs with
    |true=>
     rw[hp]at h
     simp only[Du]at h⊢
     obtain⟨v,hv,rfl⟩:=C5.1 h
     obtain⟨o,h1,h2⟩:=C6.1 hv
     rw[iM ih fu _ _ _ _ h1]
     obtain⟨x,e',H'⟩:=o
     cases x with
     |exit j=>cases h2
     |normal=>simp only at h2;simp only[h2,D1]
     |ret=>simp only at h2;simp only[h2,D1]
    |false=>
     rw[hp]at h
     simp only[Dw]at h⊢
     obtain⟨o,h1,h2⟩:=C6.1 h
     rw[iM ih fu _ _ _ _ h1]
     obtain⟨x,e',H'⟩:=o
     cases x with
     |exit j=>cases h2
     |normal=>exact h2
     |ret=>exact h2
  |qC f=>
   simp only[gG]at h
   simp only[aI]
   split at h
   ·cases h
   ·rename_i F hF
    rw[hF]
    dsimp only
    obtain⟨o,h1,h2⟩:=C6.1 h
    rw[iM ih fu _ _ _ _ h1]
    obtain⟨x,e',H'⟩:=o
    cases x with
    |exit j=>cases h2
    |normal=>exact h2
    |ret=>exact h2
  |jf b=>
   simp only[gG]at h
   simp only[aI]
   split at h
   ·rename_i q pend hg
    rw[hg]
    dsimp only
    cases hp:q.ps.length==xs.length with
    |false=>rw[hp]at h;cases h
    |true=>
     rw[hp]at h
     simp only[Du]at h⊢
     obtain⟨o,h1,h2⟩:=C6.1 h
     rw[iM ih fu _ _ _ _ h1]
     obtain⟨x,e',H'⟩:=o
     cases x with
     |exit j=>cases h2
     |ret=>cases h2
     |normal=>
      simp only at h2⊢
      obtain⟨H1,h3,h4⟩:=C6.1 h2
      rw[h3]
      simp only[DV]
      obtain⟨o,h5,h6⟩:=C6.1 h4
      rw[iM ih fu _ _ _ _ h5]
      exact h6
   ·cases h
end
def post{A:Type}(v:Option A)(Q:A→Prop):Prop:=∃o,v=some o∧Q o
theorem gB{A:Type}{b:Bool}{x y:Option A}{t:kK (x,y)}{Q:A→Prop}(h1:b=true→post x Q)(h2:b=false→post y Q):post (fork b x y t) Q:=by
 cases b
 ·exact h2 rfl
 ·exact h1 rfl
@[go_sem] theorem vF {A:Type}(o:A)(Q:A→Prop):post (some o) Q=Q o:=by
  apply propext
  exact⟨fun⟨o',h1,h2⟩=>by cases h1;exact h2,fun h=>⟨o,rfl,h⟩⟩
@[go_sem] theorem wN (e H):dq [] e H=some (e,H):=Eq.trans rfl rfl
def ra(r:List (Nat×Nat))(t z:Nat)(e:Env)(H:ab):SV→Option (Env×ab)
 | .aP _ [] true=>dq r ((t,.bt H.bl.length 0 0 0)::e) (aZ H (.arr 0 z [] false))
 | .ptr b _ _ _=>(sf H b z (aQ H b)).bind fun H=>dq r e H
 | .aP _ (_::_) true=>dq r e (aZ H (.arr 0 z [] false))
 |_=>none
@[go_sem] theorem vQ (t z r e H):dq ((t,z)::r) e H=ra r t z e H (get e t):=by
  simp only[dq,ra]
  generalize get e t=v
  cases v<;>rfl
@[go_sem] theorem vH (t z z' r e H):ra r t z e H (.aP z' [] true)=dq r ((t,.bt H.bl.length 0 0 0)::e) (aZ H (.arr 0 z [] false)):=Eq.trans rfl rfl
@[go_sem] theorem wO (p N H0 e H):cZ p N H0 (e,H)=aL (eP p.aU (N-p.aU.length) N e H) (fun s=>mV p N H0 s) ():=by
  show(eP p.aU (N-p.aU.length) N e H).bind (mV p N H0)=_
  cases eP p.aU (N-p.aU.length) N e H<;>rfl
@[go_sem] theorem ve (i l):pg (i::l)=(i==999999):=Eq.trans rfl rfl
@[go_sem] theorem wG (p N H0 e H):mV p N H0 (e,H)=bif pg p.live then some (dQ p.live.tail e,H)else bif decide (SV.refs.aK ((dQ p.live e).map (·.2))≤N)then(cu N H0 H).map (fun H=>(dQ p.live e,H))else none:=Eq.trans rfl rfl
@[go_sem] theorem vh (h N e H):eP [] h N e H=some (e,H):=Eq.trans rfl rfl
@[go_sem] theorem wU (e):dQ [] e=[]:=Eq.trans rfl rfl
@[go_sem] theorem vG (i l e):dQ (i::l) e=(i,get e i)::dQ l e:=Eq.trans rfl rfl
@[go_sem] theorem qc (N r bl r' es):cu N ⟨r,es,r'⟩ ⟨bl,[],0⟩=bif decide (N≤bl.length)then some ⟨bl.take N,es,r'⟩else none:=by
  unfold cu
  simp
@[go_sem] theorem xD (N H0 H):cu N H0 H=bif decide (N≤H.bl.length)&&H.br.all (fun p=>!(decide (p.1<N)&&decide (N<p.2)))then some {bl:=H.bl.take N,br:=H0.br++H.br.filter (fun p=>decide (p.1<N)),ro:=H0.ro} else none:=Eq.trans rfl rfl
attribute [go_sem] List.all_nil List.all_cons List.filter_nil EK Fi
@[go_sem] theorem zx (z L f ix):eN (.aP z L f) ix=(fQ L.length ix).bind fun i=>(L[i]?).map .dy:=Eq.trans rfl rfl
@[go_sem] theorem Ax (b v off n ix):eN (.bt b v off n) ix=(fQ n ix).map fun i=>.ptr b v (off+i) 0:=Eq.trans rfl rfl
@[go_sem] theorem zG (n k i):fQ n (.int k i)=bif decide (0≤i)&&decide (i<(n:Int))then some i.toNat else none:=Eq.trans rfl rfl
@[go_sem] theorem Ai (i:Nat):decide ((0:Int)≤(i:Int))=true:=by simp
@[go_sem] theorem Aw (i n:Nat):decide ((i:Int)<(n:Int))=decide (i<n):=by simp
theorem ey{T:FuncId→Option bp}{f:FuncId}{F:bp}{xs:List SV}{n:Nat}{H H0 H1:ab}{v:SV}(hT:T f=some F)(hp:dW F xs=true)
 (h:aI T (n+1) (.fn f) xs H0=some (v,H1)):aI T (n+1) (.fn f) xs H=some (v,H):=by
 simp only[aI,hT,hp,Du,C5]at h⊢
 obtain⟨a,h1,h2⟩:=h
 cases h2
 exact⟨_,h1,rfl⟩
theorem lP{T:FuncId→Option bp}{f:FuncId}{F:bp}{xs:List SV}{n:Nat}{H:ab}{r:SV×ab}(hT:T f=some F)(hp:dW F xs=false)
 (h:runK (aI T n) (kM F.res (fun v H'=>cc F.keep H v H')) F.body [] (cQ xs) ⟨H.bl,[],min H.ro H.bl.length⟩ ()=some r):aI T (n+1) (.fn f) xs H=some r:=by
 have hk:∀k:jQ→Env→ab→Option (SV×ab),k=kM F.res (fun v H'=>cc F.keep H v H')→run (aI T n) F.body (cQ xs) ⟨H.bl,[],min H.ro H.bl.length⟩ k ()=some r:=by
  intro k hk
  rw[hk,j6]
  exact h
 simp only[aI,hT,hp,Dw]
 exact hk _ (by funext x e H';cases x<;>rfl)
theorem kH{T:FuncId→Option bp}{f:FuncId}{F:bp}{xs:List SV}{n:Nat}{H:ab}{r:SV×ab}(hT:T f=some F)
 (h:runK (aI T n) (kM F.res (fun v H'=>cc true H v H')) F.body [] (cQ xs) ⟨H.bl,[],min H.ro H.bl.length⟩ ()=some r):aI T (n+1) (.qC f) xs H=some r:=by
 have hk:∀k:jQ→Env→ab→Option (SV×ab),k=kM F.res (fun v H'=>cc true H v H')→run (aI T n) F.body (cQ xs) ⟨H.bl,[],min H.ro H.bl.length⟩ k ()=some r:=by
  intro k hk
  rw[hk,j6]
  exact h
 simp only[aI,hT]
 exact hk _ (by funext x e H';cases x<;>rfl)
@[go_sem] theorem uX (H0 v H):cc true H0 v H=some (v,⟨H.bl,H0.br++H.br,H0.ro⟩):=Eq.trans rfl rfl
@[go_sem] theorem jh (H0 v H):cc false H0 v H=(cR H0.bl.length H bI v).bind fun v=>(cu H0.bl.length H0 H).map fun H=>(v,H):=Eq.trans rfl rfl
def Round{R:Type}(p:dc)(N:Nat)(H0:ab)(σ:Nat→Env×ab)(P:Nat→Prop)(m i:Nat)(k:Out→Option R)(r:Option R)(o:Out):Prop:=match o with
 |(.normal,s')=>i<m∧cZ p N H0 s'=some (σ (i+1))∧P (i+1)
 |o=>k o=r
@[go_sem] theorem yh {R:Type}(p N H0 σ P m i)(k:Out→Option R)(r s):Round p N H0 σ P m i k r (.normal,s)=(i<m∧cZ p N H0 s=some (σ (i+1))∧P (i+1)):=Eq.trans rfl rfl
@[go_sem] theorem yw {R:Type}(p N H0 σ P m i)(k:Out→Option R)(r j s):Round p N H0 σ P m i k r (.exit j,s)=(k (.exit j,s)=r):=Eq.trans rfl rfl
@[go_sem] theorem yv {R:Type}(p N H0 σ P m i)(k:Out→Option R)(r s):Round p N H0 σ P m i k r (.ret,s)=(k (.ret,s)=r):=Eq.trans rfl rfl
theorem dt{R:Type}{p:dc}{N:Nat}{H0:ab}{rec:Rec}{a:bA}{s0:Env×ab}{k:Out→Option R}{r:Option R}
 (σ:Nat→Env×ab) (P:Nat→Prop) (m:Nat) (h0:cZ p N H0 s0=some (σ 0)) (hP:P 0)
 (h:∀i,i≤m→P i→post (runK rec (fun x e H=>some (x,e,H)) a [] (σ i).1 (σ i).2 ()) (Round p N H0 σ P m i k r)) :
 aL (gN (ej p N H0 rec a) s0) k ()=r:=by
 have key:∀(j i:Nat) (s:Env×ab),i+j=m→P i→cZ p N H0 s=some (σ i)→∃n o,bV (ej p N H0 rec a) n s=some o∧k o=r:=by
  intro j
  induction j with
  |zero=>
   intro i s hi hPi hs
   obtain⟨o,h1,h2⟩:=h i (by omega) hPi
   have hf:ej p N H0 rec a s=some o:=by rw[gz,hs];exact h1
   obtain⟨x,s'⟩:=o
   cases x with
   |normal=>exact absurd h2.1 (by omega)
   |exit id=>exact⟨1,_,by simp only[bV,hf],h2⟩
   |ret=>exact⟨1,_,by simp only[bV,hf],h2⟩
  |succ j ih=>
   intro i s hi hPi hs
   obtain⟨o,h1,h2⟩:=h i (by omega) hPi
   have hf:ej p N H0 rec a s=some o:=by rw[gz,hs];exact h1
   obtain⟨x,s'⟩:=o
   cases x with
   |normal=>
    obtain⟨n,o,h3,h4⟩:=ih (i+1) s' (by omega) h2.2.2 h2.2.1
    exact⟨n+1,o,by simp only[bV,hf];exact h3,h4⟩
   |exit id=>exact⟨1,_,by simp only[bV,hf],h2⟩
   |ret=>exact⟨1,_,by simp only[bV,hf],h2⟩
 obtain⟨n,o,h1,h2⟩:=key m 0 s0 (by omega) hP h0
 exact s9 o (kr h1) h2
def mi{R:Type}(p:dc)(N:Nat)(H0:ab)(σ:Nat→Env×ab)(P:Nat→Prop)(m i:Nat)(k:Out→Option R)(Q:R→Prop)(o:Out):Prop:=match o with
 |(.normal,s')=>i<m∧cZ p N H0 s'=some (σ (i+1))∧P (i+1)
 |o=>post (k o) Q
@[go_sem] theorem wL {R:Type}(p N H0 σ P m i)(k:Out→Option R)(Q s):mi p N H0 σ P m i k Q (.normal,s)=(i<m∧cZ p N H0 s=some (σ (i+1))∧P (i+1)):=Eq.trans rfl rfl
@[go_sem] theorem xA {R:Type}(p N H0 σ P m i)(k:Out→Option R)(Q j s):mi p N H0 σ P m i k Q (.exit j,s)=post (k (.exit j,s)) Q:=Eq.trans rfl rfl
@[go_sem] theorem wS {R:Type}(p N H0 σ P m i)(k:Out→Option R)(Q s):mi p N H0 σ P m i k Q (.ret,s)=post (k (.ret,s)) Q:=Eq.trans rfl rfl
theorem kR{R:Type}{p:dc}{N:Nat}{H0:ab}{rec:Rec}{a:bA}{s0:Env×ab}{k:Out→Option R}{Q:R→Prop}
 (σ:Nat→Env×ab) (P:Nat→Prop) (m:Nat) (h0:cZ p N H0 s0=some (σ 0)) (hP:P 0)
 (h:∀i,i≤m→P i→post (runK rec (fun x e H=>some (x,e,H)) a [] (σ i).1 (σ i).2 ()) (mi p N H0 σ P m i k Q)) :
 post (aL (gN (ej p N H0 rec a) s0) k ()) Q:=by
 have key:∀(j i:Nat) (s:Env×ab),i+j=m→P i→cZ p N H0 s=some (σ i)→∃n o,bV (ej p N H0 rec a) n s=some o∧post (k o) Q:=by
  intro j
  induction j with
  |zero=>
   intro i s hi hPi hs
   obtain⟨o,h1,h2⟩:=h i (by omega) hPi
   have hf:ej p N H0 rec a s=some o:=by rw[gz,hs];exact h1
   obtain⟨x,s'⟩:=o
   cases x with
   |normal=>exact absurd h2.1 (by omega)
   |exit id=>exact⟨1,_,by simp only[bV,hf],h2⟩
   |ret=>exact⟨1,_,by simp only[bV,hf],h2⟩
  |succ j ih=>
   intro i s hi hPi hs
   obtain⟨o,h1,h2⟩:=h i (by omega) hPi
   have hf:ej p N H0 rec a s=some o:=by rw[gz,hs];exact h1
   obtain⟨x,s'⟩:=o
   cases x with
   |normal=>
    obtain⟨n,o,h3,h4⟩:=ih (i+1) s' (by omega) h2.2.2 h2.2.1
    exact⟨n+1,o,by simp only[bV,hf];exact h3,h4⟩
   |exit id=>exact⟨1,_,by simp only[bV,hf],h2⟩
   |ret=>exact⟨1,_,by simp only[bV,hf],h2⟩
 obtain⟨n,o,h1,h2⟩:=key m 0 s0 (by omega) hP h0
 rw[kr h1]
 exact h2
def j7{A:Type}(p:A→Bool):List A→Int
 |[]=> -1
 |a::l=>if p a then 0 else if j7 p l<0 then -1 else j7 p l+1
theorem mK{A:Type}(p:A→Bool):∀l:List A,decide (0≤j7 p l)=l.any p
 |[]=>rfl
 |a::l=>by
  have ih:=mK p l
  rw[FQ,Dc]at ih⊢
  simp only[j7,List.any_cons,Ef,←ih]
  by_cases hp:p a=true
  ·simp[hp]
  ·rw[if_neg hp]
   simp only[hp,Dp,false_or]
   split<;>omega
theorem ld{A:Type}{p:A→Bool}:∀{l:List A},(∀(j:Nat) a,l[j]?=some a→p a=false)→j7 p l= -1
 |[],_=>rfl
 |a::l,h=>by
  have h0:=h 0 a rfl
  have ih:=ld (l:=l) (fun j b hb=>h (j+1) b (by simpa using hb))
  simp[j7,h0,ih]
theorem oT{A:Type}{p:A→Bool}:∀{l:List A} {i:Nat} {a:A},l[i]?=some a→p a=true→(∀(j:Nat) b,j<i→l[j]?=some b→p b=false)→j7 p l=i
 |[],i,a,h,_,_=>by simp at h
 |b::l,0,a,h,hp,_=>by simp at h;subst h;simp[j7,hp]
 |b::l,i+1,a,h,hp,hn=>by
  have h0:=hn 0 b (by omega) rfl
  have ih:=oT (l:=l) (i:=i) (by simpa using h) hp (fun j c hj hc=>hn (j+1) c (by omega) (by simpa using hc))
  simp only[j7,h0,ih,Dp,if_false]
  rw[if_neg (by omega)]
  omega
@[go_sem] theorem Aa (a8 bytes H z X):fI a8 bytes H (.aP z [] true) X=bif decide (X.length*bytes≤bW)then some (.bt H.bl.length 0 0 X.length,aZ H (.arr 0 a8 X false))else none:=by
  simp[fI]
def vV(N:Nat)(H:ab)(d v off n:Nat):Option bb→Option SV
 |some (.arr ver' z L ex)=>bif v==ver'&&decide (off+n≤L.length)then
   (a7 (((L.drop off).take n).map fun cs=>a7 (cs.map (cR N H d)))).bind fun L'=>bif SV.refs.aK L'.flatten==0 then some (.aP z L' (ex&&off+n==L.length))else none
  else none
 |_=>none
@[go_sem] theorem As (N H d b v off n):cR N H (d+1) (.bt b v off n)=bif decide (b<N)then some (.bt b v off n)else vV N H d v off n (aQ H b):=by
  simp only[cR]
  generalize aQ H b=q
  cases q with
  |none=>rfl
  |some q=>cases q<;>rfl
theorem iH{A:Type}{f:A→Option A}:∀{l:List A},(∀a∈l,f a=some a)→a7 (l.map f)=some l
 |[],_=>rfl
 |a::l,h=>by
  have ih:=iH (f:=f) (l:=l) (fun b hb=>h b (by simp[hb]))
  simp only[DQ,h a (by simp),a7,ih,D1]
theorem iV:∀{L:List (List SV)},(∀cs∈L,∀c∈cs,c.refs=0)→SV.refs.aK L.flatten=0
 |[],_=>by simp[SV.refs.aK]
 |cs::L,h=>by
  have ih:=iV (L:=L) (fun b hb=>h b (by simp[hb]))
  have key:∀(cs:List SV),(∀c∈cs,c.refs=0)→SV.refs.aK (cs++L.flatten)=0:=by
   intro cs
   induction cs with
   |nil=>intro _;exact ih
   |cons c cs ih2=>intro hc;simp only[Eu,SV.refs.aK,hc c (by simp),ih2 (fun x hx=>hc x (by simp[hx]))];rfl
  exact key cs (h cs (by simp))
theorem qd(N:Nat)(H:ab)(d v n z:Nat)(L:List (List SV))(e:Bool)(h:L.length=n)(h1:∀cs∈L,∀c∈cs,cR N H d c=some c)(h2:∀cs∈L,∀c∈cs,c.refs=0) :
 vV N H d v 0 n (some (.arr v z L e))=some (.aP z L e):=by
 subst h
 simp only[vV,EW,Fi,Ea,Ep,De,decide_true,D6,Du,Eo]
 rw[iH (fun cs hcs=>iH (fun c hc=>h1 cs hcs c hc))]
 simp[iV h2]
theorem fE{a:Bool×List DT}{as1:List (Bool×List DT)}{xs:List SV}(h:fB (a::as1) xs):∃x r,xs=x::r∧nr a x∧fB as1 r:=by
 obtain⟨h1,h2⟩:=h
 cases xs with
 |nil=>simp at h1
 |cons x r=>exact⟨x,r,rfl,h2 0 a x rfl rfl,by simpa using h1,fun j a' x' ha hx=>h2 (j+1) a' x' ha hx⟩
theorem mZ{xs:List SV}(h:fB [] xs):xs=[]:=Ee h.1
theorem pz{es:List DT}{x:SV}(h:nr (true,es) x):∃cs,x=.agg cs∧cF es cs:=h
theorem lI{e:DT}{x:SV}(h:nr (false,[e]) x):Fits e x:=by
 obtain⟨e',h1,h2⟩:=h
 cases h1
 exact h2
theorem fx{k:IntKind}{es:List DT}{cs:List SV}(h:cF (.int k::es) cs):∃n r,cs=.int k n::r∧(Lit.int k n).wf=true∧cF es r:=by
 obtain⟨c,r,rfl,h1,h2⟩:=gW h
 obtain⟨n,rfl,h3⟩:=fits_int h1
 exact⟨n,r,rfl,h3,h2⟩
theorem oK{es' es:List DT}{cs:List SV}(h:cF (.aP es'::es) cs):∃L f r,cs=.aP es'.length L f::r∧L.length≤maxLen∧(∀q∈L,cF es' q)∧cF es r:=by
 obtain⟨c,r,rfl,h1,h2⟩:=gW h
 obtain⟨L,f,rfl,h3,h4⟩:=mH h1
 exact⟨L,f,r,rfl,h3,h4,h2⟩
attribute [go_sem] Int.cast_ofNat_Int Bool.true_xor Bool.false_xor Bool.xor_true Bool.xor_false
section
def jP(ag:Bool)(z:Nat):bp:=⟨[(.tmp 4)],(.seq (.ops [⟨(some 4),(.fk (.c (.int .i64 0))),none⟩]) (.seq (.seq (.ops [⟨(some 6),(.fk (.t 0)),none⟩,⟨(some 7),(.len (.t 6)),none⟩,⟨(some 8),(.fk (.c (.int .i64 0))),none⟩]) (.block 0 (.loop ⟨[0,1,7,8],[]⟩ (.seq (.ops [⟨(some 9),(.bin .lss (.t 8) (.t 7)),none⟩]) (.seq (.cond (.t 9) .skip (.exit 0)) (.seq (.block 1 (.seq (.ops [⟨(some 10),(.fk (.t 8)),none⟩,⟨(some 5),(.fk (.t 10)),none⟩]) (.seq (.ops [⟨(some 11),(.fk (.t 1)),none⟩,⟨(some 12),(.fk (.t 0)),none⟩,⟨(some 13),(.fk (.t 5)),none⟩,⟨(some 14),(.cC z (.t 12) (.t 13)),none⟩,⟨(some 15),(.load ag z (.t 14)),none⟩,⟨(some 16),(.call (.t 11) [(.t 15)]),none⟩]) (.cond (.t 16) (.seq (.ops [⟨(some 17),(.fk (.t 5)),none⟩,⟨(some 4),(.fk (.t 17)),none⟩]) .ret) .skip)))) (.ops [⟨(some 18),(.bin .add (.t 8) (.c (.int .i64 1))),none⟩,⟨(some 8),(.fk (.t 18)),none⟩]))))))) (.seq (.ops [⟨(some 4),(.fk (.c (.int .i64 (-1)))),none⟩]) .ret))),false⟩
def qJ(g:FuncId):bp:=⟨[(.tmp 4)],(.seq (.ops [⟨(some 4),(.fk (.c (.bool false))),none⟩]) (.seq (.ops [⟨(some 5),(.fk (.t 0)),none⟩,⟨(some 6),(.fk (.t 1)),none⟩,⟨(some 7),(.call (.c (.fn g [])) [(.t 5),(.t 6)]),none⟩,⟨(some 8),(.bin .geq (.t 7) (.c (.int .i64 0))),none⟩,⟨(some 4),(.fk (.t 8)),none⟩]) .ret)),false⟩
def j8(z by_:Nat)(zv:List SV):bp:=⟨[(.tmp 2)],(.seq (.ops [⟨(some 2),(.fk (.c (.aP 0 [] true))),none⟩]) (.seq (.seq (.ops [⟨(some 3),(.fk (.t 0)),none⟩]) (.tm 4 false (.t 3) (.cond (.t 4) (.seq (.seq (.ops [⟨(some 2),(.fk (.c (.aP 0 [] true))),none⟩]) (.aU [(2,z)])) .ret) .skip))) (.seq (.ops [⟨(some 5),(.dR z zv 0 []),none⟩,⟨(some 6),(.fk (.t 0)),none⟩,⟨(some 7),(.append z by_ (.t 5) (.t 6)),none⟩,⟨(some 2),(.fk (.t 7)),none⟩]) .ret))),false⟩
def iS(P:List Int):List (List SV):=P.map fun p=>[.int .i64 p]
@[go_sem] theorem rY {W:List Int}:(iS W).length=W.length:=by simp[iS]
@[go_sem] theorem zE (W:List Int)(i:Nat):(iS W)[i]?=(W[i]?).map (fun p=>[.int .i64 p]):=by simp[iS]
theorem sW(L:List Int):∀cs∈iS L,∀c∈cs,c.refs=0:=by
 intro cs hcs c hc
 simp only[iS,EI]at hcs
 obtain⟨b,_,rfl⟩:=hcs
 simp only[E8]at hc
 subst hc
 simp[SV.refs]
theorem uV(L:List Int)(M H d):∀cs∈iS L,∀c∈cs,cR M H (d+1) c=some c:=by
 intro cs hcs c hc
 simp only[iS,EI]at hcs
 obtain⟨b,_,rfl⟩:=hcs
 simp only[E8]at hc
 subst hc
 simp only[cR]
theorem iy{A:Type}{l:List A}{i:Nat}(h:i<l.length):∃a,l[i]?=some a:=⟨l[i],Dl h⟩
theorem gp{i n:Nat}(h:i<n)(hn:n≤maxLen):cY ((i:Int)+1)=((i+1:Nat):Int):=by
 simp only[maxLen]at hn
 rw[aX (by omega) (by omega)];omega
def el(ag:Bool)(r:List SV):SV:=bif ag then .agg r else r.headD .undef
theorem w7{ag:Bool}{z:Nat}{r:List SV}(h:r.length=z)(h1:ag=false→z=1):bN ag z r 0=some (el ag r):=by
 cases ag with
 |true=>subst h;simp[bN,el]
 |false=>
  have:=h1 rfl
  subst this
  match r,h with
  |[x],_=>rfl
inductive LV(bl:List bb)(z:Nat)(L:List (List SV)):SV→Prop
 |aP (z':Nat) (f:Bool) (hz:z'=z∨L=[]):LV bl z L (.aP z' L f)
 |bt (b bB off:Nat) (L':List (List SV)) (ex:Bool) (hb:bl[b]?=some (.arr bB z L' ex)) (hle:off+L.length≤L'.length) (hL:L=(L'.drop off).take L.length):LV bl z L (.bt b bB off L.length)
section
variable{bl:List bb}{z:Nat}{L:List (List SV)}{v:SV}
theorem LV.cur(h:LV bl z L v)(es ro):cur ⟨bl,es,ro⟩ v=true:=by
 cases h with
 |aP=>rfl
 |bt b bB off L' ex hb=>simp[Sh.cur,aQ,hb]
theorem LV.cq(h:LV bl z L v)(es ro):cq ⟨bl,es,ro⟩ z v=true:=by
 cases h with
 |aP z' f hz=>rcases hz with rfl|rfl<;>simp[Sh.cq]
 |bt b bB off L' ex hb=>simp[Sh.cq,aQ,hb]
theorem LV.len(h:LV bl z L v):jG v=some L.length:=by cases h<;>rfl
theorem LV.at(h:LV bl z L v){i:Nat}{r:List SV}(hi:L[i]?=some r):∃p,eN v (.int .i64 i)=some p∧∀ag n es ro,bM ag n ⟨bl,es,ro⟩ p=bN ag n r 0:=by
 have hlt:=(C7.1 hi).1
 cases h with
 |aP z' f hz=>exact⟨.dy r,by simp[eN,fQ,hlt];exact(C7.1 hi).2,fun ag n es ro=>by simp[bM]⟩
 |bt b bB off L' ex hb hle hL=>
  refine⟨.ptr b bB (off+i) 0,by simp[eN,fQ,hlt],fun ag n es ro=>?_⟩
  have:L'[off+i]?=some r:=by
   rw[hL,Dk,if_pos hlt,Dx]at hi
   exact hi
  simp[bM,aQ,hb,this]
theorem LV.refs(h:LV bl z L v):v.refs≤bl.length:=by
 cases h with
 |aP z' f hz=>simp[SV.refs]
 |bt b bB off L' ex hb hle hL=>
  have:=(C7.1 hb).1
  simp[SV.refs];omega
theorem LV.nil(h:LV bl z L v)(h0:v.refs=0):LV [] z L v:=by
 cases h with
 |aP z' f hz=>exact .aP z' f hz
 |bt b bB off L' ex hb hle hL=>simp[SV.refs]at h0
end
section
variable{T:FuncId→Option bp}{f:FuncId}{F:bp}{xs:List SV}{n:Nat}{H:ab}
theorem pc{v:SV}(hT:T f=some F)(hk:F.keep=false)(hs:iG v=true)
 (h:∀(R:Type) (k:SV→ab→Option R) (bl:List bb) (ro:Nat),(bl=[]∧SV.refs.aK xs=0∨bl=H.bl)→runK (aI T n) (kM F.res k) F.body [] (cQ xs) ⟨bl,[],ro⟩ ()=k v ⟨bl,[],ro⟩) :
 aI T (n+1) (.fn f) xs H=some (v,H):=by
 have hfz:∀N H',cR N H' bI v=some v:=fun N H'=>by
  cases v<;>simp only[iG,Dp]at hs<;>simp[bI,cR,SV.refs]
 cases hp:dW F xs with
 |true=>
  refine aJ hT hp ?_
  have hr:SV.refs.aK xs=0:=by
   unfold dW at hp
   simp only[Db,D0]at hp
   exact hp.1
  exact(h SV (fun v H'=>cR 0 H' bI v) [] 0 (.inl ⟨rfl,hr⟩)).trans (hfz _ _)
 |false=>
  refine lP hT hp ?_
  refine(h _ (fun v H'=>cc F.keep H v H') H.bl _ (.inr rfl)).trans ?_
  rw[hk,jh,hfz]
  simp only[DV,qc,De,decide_true,Du,D1,Fi]
  obtain⟨bl,es,ro⟩:=H
  simp[Sh.cu]
theorem n9{ag:Bool}{z id:Nat}{caps:List SV}{v:SV}{L:List (List SV)}{p:List SV→Bool}(hT:T f=some (jP ag z))(hv:LV H.bl z L v)(hz:∀r∈L,r.length=z)(h1:ag=false→z=1)(hm:L.length≤maxLen)
 (hc:∀r∈L,∀bl ro,(bl=[]∧v.refs=0∧SV.refs.aK caps=0∨bl=H.bl)→aI T n (.fn id) (el ag r::caps) ⟨bl,[],ro⟩=some (.bool (p r),⟨bl,[],ro⟩))
 (hcr:SV.refs.aK caps≤H.bl.length):aI T (n+1) (.fn f) [v,.fn id caps] H=some (.int .i64 (j7 p L),H):=by
 refine pc hT rfl rfl (fun R k bl ro hbl=>?_)
 have hbl':bl=[]∧v.refs=0∧SV.refs.aK caps=0∨bl=H.bl:=by
  rcases hbl with⟨h1,h2⟩|h
  ·simp only[SV.refs.aK,SV.refs]at h2
   exact .inl ⟨h1,by omega,by omega⟩
  ·exact .inr h
 have hv':LV bl z L v:=by
  rcases hbl' with⟨h1,h2,_⟩|h
  ·rw[h1];exact hv.nil h2
  ·rw[h];exact hv
 have hd:decide (max v.refs (SV.refs.aK caps)≤bl.length)=true:=by
  have:=hv'.refs
  rw[Dc]
  rcases hbl' with⟨h1,h2,h3⟩|h
  ·omega
  ·rw[h]at this ⊢;omega
 have q1:=hv'.cur [] ro
 have q2:=hv'.cq [] ro
 have q3:=hv'.len
 simp only[jP,go_sem,Int.reduceToNat,Nat.reduceAdd,Nat.reduceBEq,Nat.reduceLeDiff,Nat.reduceLT,Nat.reduceMul,Nat.reduceSub,Int.reduceEq,Int.reduceLT,Int.reduceLE,Int.reduceNeg,q1,q3]
 refine dt (fun i=>([(0,v),(1,.fn id caps),(7,.int .i64 L.length),(8,.int .i64 i)],⟨bl,[],ro⟩)) (fun i=>∀(j:Nat) r,j<i→L[j]?=some r→p r=false) L.length ?_ (fun j r h=>by omega) ?_
 ·simp only[go_sem,Int.reduceToNat,Nat.reduceAdd,Nat.reduceBEq,Nat.reduceLeDiff,Nat.reduceLT,Nat.reduceMul,Nat.reduceSub,Int.reduceEq,Int.reduceLT,Int.reduceLE,Int.reduceNeg,Nat.max_zero,hd]
 ·intro i hi hP
  rcases DG i L.length with hlt|hge
  ·obtain⟨r,hr'⟩:=iy hlt
   have hmem:=Dm hr'
   obtain⟨p',a1,a2⟩:=hv'.at hr'
   have hw:=gp hlt hm
   have hcr:=hc r hmem bl ro hbl'
   have hld:=w7 (hz r hmem) h1
   cases hp:p r with
   |true=>
    have hx:=oT hr' hp hP
    simp only[go_sem,Int.reduceToNat,Nat.reduceAdd,Nat.reduceBEq,Nat.reduceLeDiff,Nat.reduceLT,Nat.reduceMul,Nat.reduceSub,Int.reduceEq,Int.reduceLT,Int.reduceLE,Int.reduceNeg,hlt,q2,a1,a2,hld,hcr,hp,hx]
   |false=>
    simp only[go_sem,Int.reduceToNat,Nat.reduceAdd,Nat.reduceBEq,Nat.reduceLeDiff,Nat.reduceLT,Nat.reduceMul,Nat.reduceSub,Int.reduceEq,Int.reduceLT,Int.reduceLE,Int.reduceNeg,hlt,q2,a1,a2,hld,hcr,hp,hw]
    refine⟨trivial,?_,fun j r' hj hr2=>?_⟩
    ·simp only[Nat.max_zero,hd,go_sem,Int.reduceToNat,Nat.reduceAdd,Nat.reduceBEq,Nat.reduceLeDiff,Nat.reduceLT,Nat.reduceMul,Nat.reduceSub,Int.reduceEq,Int.reduceLT,Int.reduceLE,Int.reduceNeg]
    ·rcases DG j i with hlt2|hge2
     ·exact hP j r' hlt2 hr2
     ·have:j=i:=by omega
      subst this
      rw[hr']at hr2
      cases hr2
      exact hp
  ·have hlt:¬i<L.length:=by omega
   have hx:j7 p L= -1:=ld (fun j a hj=>hP j a (by have:=(C7.1 hj).1;omega) hj)
   simp only[go_sem,Int.reduceToNat,Nat.reduceAdd,Nat.reduceBEq,Nat.reduceLeDiff,Nat.reduceLT,Nat.reduceMul,Nat.reduceSub,Int.reduceEq,Int.reduceLT,Int.reduceLE,Int.reduceNeg,hlt,hx]
theorem qL{ag:Bool}{z id g:Nat}{caps:List SV}{v:SV}{L:List (List SV)}{p:List SV→Bool}(hT:T f=some (qJ g))(hTg:T g=some (jP ag z))(hv:LV H.bl z L v)(hz:∀r∈L,r.length=z)(h1:ag=false→z=1)(hm:L.length≤maxLen)
 (hc:∀r∈L,∀bl ro,(bl=[]∧v.refs=0∧SV.refs.aK caps=0∨bl=H.bl)→aI T n (.fn id) (el ag r::caps) ⟨bl,[],ro⟩=some (.bool (p r),⟨bl,[],ro⟩))
 (hcr:SV.refs.aK caps≤H.bl.length):aI T (n+2) (.fn f) [v,.fn id caps] H=some (.bool (L.any p),H):=by
 refine pc hT rfl rfl (fun R k bl ro hbl=>?_)
 have hbl':bl=[]∧v.refs=0∧SV.refs.aK caps=0∨bl=H.bl:=by
  rcases hbl with⟨h1,h2⟩|h
  ·simp only[SV.refs.aK,SV.refs]at h2
   exact .inl ⟨h1,by omega,by omega⟩
  ·exact .inr h
 have hv':LV bl z L v:=by
  rcases hbl' with⟨h1,h2,_⟩|h
  ·rw[h1];exact hv.nil h2
  ·rw[h];exact hv
 have hi:=n9 (H:=⟨bl,[],ro⟩) hTg hv' hz h1 hm (fun r hr bl2 ro2 h=>hc r hr bl2 ro2 (by
  rcases h with h|h
  ·exact .inl h
  ·rw[show bl2=bl from h];exact hbl')) (by
  rcases hbl' with⟨h1,h2,h3⟩|h
  ·simp[h3]
  ·show SV.refs.aK caps≤bl.length;rw[h];exact hcr)
 simp only[qJ,go_sem,Int.reduceToNat,Nat.reduceAdd,Nat.reduceBEq,Nat.reduceLeDiff,Nat.reduceLT,Nat.reduceMul,Nat.reduceSub,Int.reduceEq,Int.reduceLT,Int.reduceLE,Int.reduceNeg,hi,mK]
def Still(L:List (List SV)):Prop:=∀cs∈L,∀c∈cs,c.refs=0∧∀N H d,cR N H (d+1) c=some c
theorem Still.ints(M:List Int):Still (iS M):=fun cs hcs c hc=>⟨sW M cs hcs c hc,fun N H d=>uV M N H d cs hcs c hc⟩
theorem Still.zero{L:List (List SV)}(h:Still L):SV.refs.aK L.flatten=0:=iV (fun cs hcs c hc=>(h cs hcs c hc).1)
theorem Still.fz{L:List (List SV)}(h:Still L)(N H d v n z e)(hn:L.length=n):vV N H (d+1) v 0 n (some (.arr v z L e))=some (.aP z L e):=
 qd N H (d+1) v n z L e hn (fun cs hcs c hc=>(h cs hcs c hc).2 N H d) (fun cs hcs c hc=>(h cs hcs c hc).1)
theorem Still.take{L:List (List SV)}(h:Still L)(N H d v n z)(hn:n≤L.length):vV N H (d+1) v 0 n (some (.arr v z L false))=some (.aP z (L.take n) false):=by
 have hs:Still (L.take n):=fun cs hcs c hc=>h cs (List.mem_of_mem_take hcs) c hc
 simp only[vV,EW,Ea,Ep,Ed,hn,decide_true,Du,DH]
 rw[iH (fun cs hcs=>iH (fun c hc=>(hs cs hcs c hc).2 N H d))]
 simp[hs.zero]
theorem nG{z z' by_:Nat}{zv:List SV}{L:List (List SV)}{fl:Bool}(hT:T f=some (j8 z by_ zv))(hz:z'=z∨L=[])(hs:Still L)(hb:L.length*by_≤bW) :
 aI T (n+1) (.fn f) [.aP z' L fl] H=some (.aP z L false,H):=by
 refine aJ hT rfl ?_
 have hbb:decide (L.length*by_≤bW)=true:=Dj hb
 have hcz:cq aB z (.aP z' L fl)=true:=by rcases hz with rfl|rfl<;>simp[cq]
 simp only[aB]at hcz
 have hfz:=fun H=>hs.fz 0 H 6 0 L.length z false rfl
 simp only[j8,aB,go_sem,Int.reduceToNat,Nat.reduceAdd,Nat.reduceBEq,Nat.reduceLeDiff,Nat.reduceLT,Nat.reduceMul,Nat.reduceSub,Int.reduceEq,Int.reduceLT,Int.reduceLE,Int.reduceNeg]
 cases L with
 |nil=>
  simp only[go_sem,Int.reduceToNat,Nat.reduceAdd,Nat.reduceBEq,Nat.reduceLeDiff,Nat.reduceLT,Nat.reduceMul,Nat.reduceSub,Int.reduceEq,Int.reduceLT,Int.reduceLE,Int.reduceNeg]
  refine oz ?_ ?_
  ·simp only[go_sem,Int.reduceToNat,Nat.reduceAdd,Nat.reduceBEq,Nat.reduceLeDiff,Nat.reduceLT,Nat.reduceMul,Nat.reduceSub,Int.reduceEq,Int.reduceLT,Int.reduceLE,Int.reduceNeg,hfz]
   have:=fun H=>hs.fz 0 H 6 0 0 z false rfl
   simp only[go_sem,Int.reduceToNat,Nat.reduceAdd,Nat.reduceBEq,Nat.reduceLeDiff,Nat.reduceLT,Nat.reduceMul,Nat.reduceSub,Int.reduceEq,Int.reduceLT,Int.reduceLE,Int.reduceNeg,this]
  ·have:=fun H=>hs.fz 0 H 6 0 0 z false rfl
   simp only[go_sem,Int.reduceToNat,Nat.reduceAdd,Nat.reduceBEq,Nat.reduceLeDiff,Nat.reduceLT,Nat.reduceMul,Nat.reduceSub,Int.reduceEq,Int.reduceLT,Int.reduceLE,Int.reduceNeg,this,Fa]
 |cons a L=>
  obtain rfl:z'=z:=hz.resolve_right (by simp)
  simp only[DU]at hbb hfz
  simp only[go_sem,Int.reduceToNat,Nat.reduceAdd,Nat.reduceBEq,Nat.reduceLeDiff,Nat.reduceLT,Nat.reduceMul,Nat.reduceSub,Int.reduceEq,Int.reduceLT,Int.reduceLE,Int.reduceNeg,hbb,hfz]
end
end
abbrev OO(d:Nat)(o:gC):an:=⟨some d,o,none⟩
abbrev OT(d:Nat)(o:gC)(g:Nat):an:=⟨some d,o,some (g,true)⟩
abbrev OU(d:Nat)(o:gC)(g:Nat):an:=⟨some d,o,some (g,false)⟩
abbrev PT(d x g:Nat):an:=⟨some d,.fk (.t x),some (g,true)⟩
abbrev PU(d x g:Nat):an:=⟨some d,.fk (.t x),some (g,false)⟩
abbrev IC(n:Int):bj:=.c (.int .i64 n)
abbrev OM(d x:Nat):an:=⟨some d,.fk (.t x),none⟩
abbrev OK(d:Nat)(n:Int):an:=⟨some d,.fk (.c (.int .i64 n)),none⟩
abbrev OZ(d:Nat):an:=⟨some d,.fk (.c (.aP 0 [] true)),none⟩
abbrev OQ(d:Nat)(b:Bool):an:=⟨some d,.fk (.c (.bool b)),none⟩
abbrev OX(d x i:Nat):an:=⟨some d,.extract (.t x) i,none⟩
abbrev OF(d n x:Nat):an:=⟨some d,.bZ n (.t x),none⟩
abbrev OL(d x:Nat):an:=⟨some d,.load false 1 (.t x),none⟩
abbrev OA(d n x:Nat):an:=⟨some d,.load true n (.t x),none⟩
abbrev OE(d x:Nat):an:=⟨some d,.len (.t x),none⟩
abbrev OG(d x:Nat):an:=⟨some d,.box (.t x),none⟩
abbrev OH(d x:Nat):an:=⟨some d,.iC (.t x),none⟩
abbrev OI(d z x i:Nat):an:=⟨some d,.cC z (.t x) (.t i),none⟩
abbrev OB(d:Nat)(o:BinOp)(x y:Nat):an:=⟨some d,.bin o (.t x) (.t y),none⟩
abbrev OJ(d:Nat)(o:BinOp)(x:Nat)(n:Int):an:=⟨some d,.bin o (.t x) (.c (.int .i64 n)),none⟩
abbrev OC(d f:Nat)(xs:List Nat):an:=⟨some d,.call (.c (.fn f [])) (xs.map .t),none⟩
abbrev DP:aV:=⟨.pure,[],0,0⟩
abbrev DS:aV:=⟨.gJ,[],0,0⟩
abbrev DB:aV:=⟨.dV,[],0,0⟩
abbrev DM(d x:Nat):an×aV:=(OM d x,DP)
abbrev DD(d:Nat)(o:BinOp)(x y:Nat):an×aV:=(OB d o x y,DP)
abbrev DF(d n x:Nat):an×aV:=(OF d n x,DS)
abbrev DL(d x:Nat):an×aV:=(OL d x,DS)
abbrev DI(d z x i:Nat):an×aV:=(OI d z x i,DS)
abbrev DA(d n x:Nat):an×aV:=(OA d n x,DS)
abbrev SQ(l:List an)(c:bA):bA:=.seq (.ops l) c
abbrev CS(x:Nat)(c:bA):bA:=.cond (.t x) c .skip
abbrev CX(x i:Nat):bA:=.cond (.t x) .skip (.exit i)
end Go.Sh
