/- A part of the proof: texts ShEw, ShIn, ShLaw. -/
import Derived.OpenShut
import Derived.WalkKit
import Derived.ProofKit
import Derived.ReadAgain
import Derived.Handed
import Derived.JoinedOf
import Derived.Test.YtlkjiffohmkidaaGreatB6
namespace Go.Sh
set_option linter.unusedSectionVars false
set_option linter.unnecessarySimpa false
set_option linter.unusedSimpArgs false
set_option linter.unusedVariables false
set_option maxRecDepth 100000
set_option maxHeartbeats 4000000
section
section
variable(rec:Rec)(e:Env)(H:ae)
@[go_sem] theorem Jd (x):ai rec e H (.cp x)=some (ev e x,H):=Eq.trans rfl rfl
@[go_sem] theorem Gg (c a b):ai rec e H (.pick c a b)=(iX (ev e c) (ev e a) (ev e b)).map (·,H):=Eq.trans rfl rfl
@[go_sem] theorem IK (x):ai rec e H (.box x)=(bV (ev e x)).map fun cs=>(.ptr H.bl.length 0 0 0,aV H (.box cs)):=Eq.trans rfl rfl
@[go_sem] theorem Gf (z):ai rec e H (.alloc z)=some (.ptr H.bl.length 0 0 0,aV H (.box z)):=Eq.trans rfl rfl
@[go_sem] theorem Ev (z ps):ai rec e H (.build z ps)=(fM (ev e) z ps).map (.agg ·,H):=Eq.trans rfl rfl
@[go_sem] theorem CW (bg z n ps):ai rec e H (.eR bg z n ps)=(dU (ev e) bg (List.replicate n z) ps).map fun L=>(.bG H.bl.length 0 0 n,aV H (.arr 0 bg L true)):=Eq.trans rfl rfl
@[go_sem] theorem Dz (bg z n ps):ai rec e H (.dO bg z n ps)=ay (dU (ev e) bg (List.replicate n z) ps) (fun L=>bif SV.refs.au L.flatten==0 then some (.aB bg L true,H)else none) ():=by
  simp only[ai,bu]
  cases dU (ev e) bg (List.replicate n z) ps with
  |none=>rfl
  |some L=>simp only[OV,ay];cases(SV.refs.au L.flatten==0)<;>rfl
@[go_sem] theorem Hy (ag n a):ai rec e H (.load ag n a)=(cw ag n H (ev e a)).map (·,H):=Eq.trans rfl rfl
@[go_sem] theorem FM (n a x):ai rec e H (.store n a x)=(df n H (ev e x) (ev e a)).map (.undef,·):=Eq.trans rfl rfl
@[go_sem] theorem CV (x):ai rec e H (.cQ x)=bif cur H (ev e x)then(jw (ev e x)).map (·,H)else none:=Eq.trans rfl rfl
@[go_sem] theorem Il (op x y):ai rec e H (.bin op x y)=(bY op (ev e x) (ev e y)).map (·,H):=Eq.trans rfl rfl
@[go_sem] theorem G6 (op x y):ai rec e H (.mP op x y)=(jJ op (ev e x) (ev e y)).map (·,H):=Eq.trans rfl rfl
def rN(neg:Bool)(sh:List LK)(H:ae):SV→SV→Option (SV×ae)
 | .agg a,.agg b=>(aK sh a b).map fun r=>(.bool (neg ^^ r),H)
 |_,_=>none
@[go_sem] theorem DJ (neg sh x y):ai rec e H (.fN neg sh x y)=rN neg sh H (ev e x) (ev e y):=by
  simp only[ai,bu,rN]
  split<;>simp_all
@[go_sem] theorem AI (neg sh a b):rN neg sh H (.agg a) (.agg b)=(aK sh a b).map fun r=>(.bool (neg ^^ r),H):=Eq.trans rfl rfl
def wY(H:ae):SV→Option (SV×ae)
 | .bool b=>some (.bool (!b),H)
 |_=>none
@[go_sem] theorem Gz (x):ai rec e H (.jT x)=wY H (ev e x):=by simp only[ai,bu,wY];split<;>simp_all
@[go_sem] theorem Bd (b):wY H (.bool b)=some (.bool (!b),H):=Eq.trans rfl rfl
def sV(k:IntKind)(H:ae):SV→Option (SV×ae)
 | .int _ n=>some (.int k (k.wrap n),H)
 |_=>none
@[go_sem] theorem EK (k x):ai rec e H (.cF k x)=sV k H (ev e x):=by simp only[ai,bu,sV];split<;>simp_all
@[go_sem] theorem Cm (k k2 n):sV k H (.int k2 n)=some (.int k (k.wrap n),H):=Eq.trans rfl rfl
@[go_sem] theorem Hk (f cs):ai rec e H (.jF f cs)=some (.fn f (cs.map (ev e)),H):=Eq.trans rfl rfl
@[go_sem] theorem Dv (f cs):ai rec e H (.mb f cs)=some (.oI f (cs.map (ev e)),H):=Eq.trans rfl rfl
@[go_sem] theorem Ct (bg z bytes l c):ai rec e H (.fB bg z bytes l c)=nm bg z bytes H (ev e l) (ev e c):=Eq.trans rfl rfl
@[go_sem] theorem E9 (off x):ai rec e H (.aH off x)=bif cur H (ev e x)then(eB off (ev e x)).map (·,H)else none:=Eq.trans rfl rfl
@[go_sem] theorem CD (bg x ix):ai rec e H (.dJ bg x ix)=bif de H bg (ev e x)then(gh (ev e x) (ev e ix)).map (·,H)else none:=Eq.trans rfl rfl
@[go_sem] theorem CJ (len bg x ix):ai rec e H (.dI len bg x ix)=bif cur H (ev e x)then(gW len (ev e ix)).bind fun i=>(eB (i*bg) (ev e x)).map (·,H)else none:=Eq.trans rfl rfl
def xE(i:Nat)(H:ae):SV→Option (SV×ae)
 | .ax vs=>(vs[i]?).map (·,H)
 |_=>none
@[go_sem] theorem Ch (x i):ai rec e H (.extract x i)=xE i H (ev e x):=by simp only[ai,bu,xE];split<;>simp_all
@[go_sem] theorem Dk (i vs):xE i H (.ax vs)=(vs[i]?).map (·,H):=Eq.trans rfl rfl
@[go_sem] theorem J1 (x):ai rec e H (.len x)=bif cur H (ev e x)then(mv (ev e x)).map fun(n:Nat)=>(.int .i64 n,H)else none:=Eq.trans rfl rfl
def pn(H:ae)(lo hi:Option SV):SV→Option (SV×ae)
 | .str s=>(jo s lo hi).map (·,H)
 |_=>none
@[go_sem] theorem Dc (x lo hi):ai rec e H (.ec x lo hi)=pn H (lo.map (ev e)) (hi.map (ev e)) (ev e x):=by simp only[ai,bu,pn];split<;>simp_all
@[go_sem] theorem Ac (lo hi s):pn H lo hi (.str s)=(jo s lo hi).map (·,H):=Eq.trans rfl rfl
@[go_sem] theorem zO (lo hi s):jo s lo hi=(eZ s.size s.size hi).bind fun h=>(eZ h 0 lo).map fun l=>.str (s.extract l h):=Eq.trans rfl rfl
def ph(H:ae)(ix:SV):SV→Option (SV×ae)
 | .str s=>(gW s.size ix).bind fun i=>(s.data[i]?).map fun b=>(.int .u8 b.toNat,H)
 |_=>none
@[go_sem] theorem C5 (x ix):ai rec e H (.dY x ix)=ph H (ev e ix) (ev e x):=by simp only[ai,bu,ph];split<;>simp_all
@[go_sem] theorem Ak (ix s):ph H ix (.str s)=(gW s.size ix).bind fun i=>(s.data[i]?).map fun b=>(.int .u8 b.toNat,H):=Eq.trans rfl rfl
@[go_sem] theorem CU (x):ai rec e H (.iy x)=(kq 1 H (ev e x)).bind fun L=>(toBytes L).map fun l=>(.str ⟨l.toArray⟩,H):=Eq.trans rfl rfl
def wR(H:ae):SV→Option (SV×ae)
 | .str s=>some (.int .i64 s.size,H)
 |_=>none
@[go_sem] theorem GP (x):ai rec e H (.ct x)=wR H (ev e x):=by simp only[ai,bu,wR];split<;>simp_all
@[go_sem] theorem Dq (s):wR H (.str s)=some (.int .i64 s.size,H):=Eq.trans rfl rfl
theorem Cd:(fun a b:Int=>if b>a then b else a)=max:=by funext a b;simp only[Int.max_def];split<;>split<;>omega
theorem Bu:(fun a b:Int=>if b<a then b else a)=min:=by funext a b;simp only[Int.min_def];split<;>split<;>omega
@[go_sem] theorem Hu (xs):ai rec e H (.nU xs)=(iV max (xs.map (ev e))).map (·,H):=by rw[←Cd];rfl
@[go_sem] theorem Ht (xs):ai rec e H (.qd xs)=(iV min (xs.map (ev e))).map (·,H):=by rw[←Bu];rfl
@[go_sem] theorem EA (f n xs):ai rec e H (.dL f n xs)=rec (.n8 f) (xs.map (ev e)) H:=Eq.trans rfl rfl
@[go_sem] theorem GU (y k i):pG y (.int k i)=bif decide (0≤i)&&decide (i≤(y:Int))then some i.toNat else none:=Eq.trans rfl rfl
@[go_sem] theorem Gs (y d):eZ y d none=some d:=Eq.trans rfl rfl
@[go_sem] theorem JV (y d k i):eZ y d (some (.int k i))=bif decide (0≤i)&&decide (i≤(y:Int))then some i.toNat else none:=Eq.trans rfl rfl
@[go_sem] theorem Ew (k neg x):ai rec e H (.isNil k neg x)=(eA H k (ev e x)).map fun b=>(.bool (neg ^^ b),H):=Eq.trans rfl rfl
@[go_sem] theorem CL:eA H .p .bF=some true:=Eq.trans rfl rfl
@[go_sem] theorem HK (b v i o):eA H .p (.ptr b v i o)=bif cur H (.ptr b v i o)then some false else none:=Eq.trans rfl rfl
@[go_sem] theorem HQ (z L f):uw H (.aB z L f)=some L.isEmpty:=Eq.trans rfl rfl
@[go_sem] theorem C7 (bg bytes s x):ai rec e H (.append bg bytes s x)=(kq bg H (ev e x)).bind (fy bg bytes H (ev e s)):=Eq.trans rfl rfl
@[go_sem] theorem Gl (f xs):ai rec e H (.call f xs)=jP rec (ev e f) (xs.map (ev e)) H:=Eq.trans rfl rfl
@[go_sem] theorem Ld (f cs xs):jP rec (.fn f cs) xs H=rec (.fn f) (xs++cs) H:=Eq.trans rfl rfl
@[go_sem] theorem I2 (f cs xs):jP rec (.oI f cs) xs H=rec (.fn f) (cs++xs) H:=Eq.trans rfl rfl
end
section
variable(k:IntKind)(a b:Int)
@[go_sem] theorem Is:bY .add (.int k a) (.int k b)=some (.int k (k.wrap (a+b))):=by simp[bY]
@[go_sem] theorem KV:bY .sub (.int k a) (.int k b)=some (.int k (k.wrap (a-b))):=by simp[bY]
@[go_sem] theorem Kc:bY .mul (.int k a) (.int k b)=some (.int k (k.wrap (a*b))):=by simp[bY]
@[go_sem] theorem Kw:bY .quo (.int k a) (.int k b)=bif !decide (b=0)then some (.int k (k.wrap (a.tdiv b)))else none:=by simp[bY]
@[go_sem] theorem Kn:bY .rem (.int k a) (.int k b)=bif !decide (b=0)then some (.int k (a.tmod b))else none:=by simp[bY]
@[go_sem] theorem KZ:bY .lss (.int k a) (.int k b)=some (.bool (decide (a<b))):=by simp[bY]
@[go_sem] theorem Jr:bY .leq (.int k a) (.int k b)=some (.bool (decide (a≤b))):=by simp[bY]
@[go_sem] theorem Kx:bY .gtr (.int k a) (.int k b)=some (.bool (decide (b<a))):=by simp[bY]
@[go_sem] theorem K4:bY .geq (.int k a) (.int k b)=some (.bool (decide (b≤a))):=by simp[bY]
@[go_sem] theorem JB:bY .eql (.int k a) (.int k b)=some (.bool (decide (a=b))):=by simp[bY]
@[go_sem] theorem KE:bY .neq (.int k a) (.int k b)=some (.bool (!decide (a=b))):=by simp[bY]
@[go_sem] theorem I4:bY .and (.int k a) (.int k b)=some (.int k (k.wrap ((BitVec.ofInt k.bits a&&&BitVec.ofInt k.bits b).toNat))):=by simp[bY]
@[go_sem] theorem LA:bY .or (.int k a) (.int k b)=some (.int k (k.wrap ((BitVec.ofInt k.bits a|||BitVec.ofInt k.bits b).toNat))):=by simp[bY]
@[go_sem] theorem Ic (k2):bY .shl (.int k a) (.int k2 b)=bif decide (0≤b)then some (.int k (k.wrap (a*2 ^ (min b.toNat k.bits))))else none:=by simp[bY]
@[go_sem] theorem KS (k2):bY .shr (.int k a) (.int k2 b)=bif decide (0≤b)then some (.int k (a.fdiv (2 ^ (min b.toNat k.bits))))else none:=by simp[bY]
@[go_sem] theorem G2 (a b:Bool):jJ .eql (.bool a) (.bool b)=some (.bool (a==b)):=by simp[jJ]
@[go_sem] theorem Gn (a b:Bool):jJ .neq (.bool a) (.bool b)=some (.bool (!(a==b))):=by simp[jJ]
@[go_sem] theorem C4 (c a b:Bool):iX (.bool c) (.bool a) (.bool b)=some (.bool (bif c then a else b)):=by simp[iX]
@[go_sem] theorem FI (x):iX (.bool false) .gJ x=some x:=by cases x<;>simp[iX]
@[go_sem] theorem CQ (x):iX (.bool true) x .gJ=some x:=by cases x<;>simp[iX]
@[go_sem] theorem Jf:aK [] [] []=some true:=by simp[aK]
@[go_sem] theorem Me (sh x y):aK (.i::sh) (.int k a::x) (.int k b::y)=(aK sh x y).map (fun r=>decide (a=b)&&r):=by simp[aK]
@[go_sem] theorem MW (sh x y)(a b:ByteArray):aK (.s::sh) (.str a::x) (.str b::y)=(aK sh x y).map (fun r=>decide (a=b)&&r):=by simp[aK]
@[go_sem] theorem Kg (cs):bV (.agg cs)=some cs:=by simp[bV]
@[go_sem] theorem HM:bV (.int k a)=some [.int k a]:=by simp[bV,SV.gU]
@[go_sem] theorem KO (b):bV (.str b)=some [.str b]:=by simp[bV,SV.gU]
@[go_sem] theorem Ia (z L f):bV (.aB z L f)=some [.aB z L f]:=by simp[bV,SV.gU]
@[go_sem] theorem KC (b v o n):bV (.bG b v o n)=some [.bG b v o n]:=by simp[bV,SV.gU]
@[go_sem] theorem KJ (b v o n):bV (.ptr b v o n)=some [.ptr b v o n]:=by simp[bV,SV.gU]
@[go_sem] theorem Lg (f cs):bV (.fn f cs)=some [.fn f cs]:=by simp[bV,SV.gU]
@[go_sem] theorem LP (b):bV (.mp b)=some [.mp b]:=by simp[bV,SV.gU]
@[go_sem] theorem H7 (n cs o):cG false n cs o=cs[o]?:=by simp[cG]
@[go_sem] theorem Ik (n cs o):cG true n cs o=bif decide (o+n≤cs.length)then some (.agg ((cs.drop o).take n))else none:=by simp[cG]
@[go_sem] theorem HF (ev z):fM ev z []=some z:=by simp[fM]
@[go_sem] theorem Hh (ev z off n x ps):fM ev z ((off,n,x)::ps)=(bV (ev x)).bind fun cs=>bif cs.length==n&&decide (off+n≤z.length)then fM ev (eL z off n cs) ps else none:=by simp[fM]
@[go_sem] theorem Iu (ev bg z):dU ev bg z []=some z:=by simp[dU]
@[go_sem] theorem Hl (ev bg z i x ps):dU ev bg z ((i,x)::ps)=(bV (ev x)).bind fun cs=>bif cs.length==bg&&decide (i<z.length)then dU ev bg (z.set i cs) ps else none:=by simp[dU]
attribute [go_sem] eL
@[go_sem] theorem Gu (f:Int→Int→Int)(r):iV f (.int k a::r)=foldI f a k r:=by simp[iV]
@[go_sem] theorem IF (f:Int→Int→Int):foldI f a k []=some (.int k a):=by simp[foldI]
@[go_sem] theorem Hj (f:Int→Int→Int)(r):foldI f a k (.int k b::r)=foldI f (f a b) k r:=by simp[foldI]
@[go_sem] theorem Kk (z L f):mv (.aB z L f)=some L.length:=by simp[mv]
@[go_sem] theorem Im (b v o n):mv (.bG b v o n)=some n:=by simp[mv]
@[go_sem] theorem Ki (H z L f):cur H (.aB z L f)=true:=by simp[cur]
@[go_sem] theorem GR (H L):cur H (.eS L)=true:=by simp[cur]
@[go_sem] theorem Kd (H z L f):de H z (.aB z L f)=true:=by simp[de]
@[go_sem] theorem Jz (off b v i o):eB off (.ptr b v i o)=some (.ptr b v i (o+off)):=by simp[eB]
@[go_sem] theorem Hn (off cs):eB off (.eS cs)=some (.eS (cs.drop off)):=by simp[eB]
@[go_sem] theorem G3 (ag n H cs):cw ag n H (.eS cs)=cG ag n cs 0:=by simp[cw]
@[go_sem] theorem KD (b v i o):jw (.ptr b v i o)=some (.ptr b v i o):=by simp[jw]
end
def BB(v:Nat):Option aj→Bool
 |some (.box _)=>true
 |some (.arr v' _ _ _)=>v==v'
 |_=>false
@[go_sem] theorem IS (H b v i o):cur H (.ptr b v i o)=BB v (az H b):=by
  simp only[cur,BB]
  cases az H b with
  |none=>rfl
  |some x=>cases x<;>rfl
@[go_sem] theorem FG (v cs):BB v (some (.box cs))=true:=Eq.trans rfl rfl
def BN(v:Nat):Option aj→Bool
 |some (.arr v' _ _ _)=>v==v'
 |_=>false
@[go_sem] theorem HG (H b v i o):cur H (.bG b v i o)=BN v (az H b):=by
  simp only[cur,BN]
  cases az H b with
  |none=>rfl
  |some x=>cases x<;>rfl
@[go_sem] theorem Fh (v v' z L x):BN v (some (.arr v' z L x))=(v==v'):=Eq.trans rfl rfl
def xh(v z:Nat):Option aj→Bool
 |some (.arr v' z' _ _)=>v==v'&&z'==z
 |_=>false
@[go_sem] theorem IA (H z b v i o):de H z (.bG b v i o)=xh v z (az H b):=by
  simp only[de,xh]
  cases az H b with
  |none=>rfl
  |some x=>cases x<;>rfl
@[go_sem] theorem CI (v z v' z' L x):xh v z (some (.arr v' z' L x))=(v==v'&&z'==z):=Eq.trans rfl rfl
def Df(ag:Bool)(n v i o:Nat):Option aj→Option SV
 |some (.box cs)=>bif i==0 then cG ag n cs o else none
 |some (.arr v' _ L _)=>bif v==v' then(L[i]?).bind fun cs=>cG ag n cs o else none
 |_=>none
@[go_sem] theorem Io (ag n H b v i o):cw ag n H (.ptr b v i o)=Df ag n v i o (az H b):=by
  simp only[cw,Df]
  cases az H b with
  |none=>rfl
  |some x=>
   cases x with
   |arr v' z L ex=>
    cases hv:(v==v')with
    |true=>simp only[hv,N6];cases L[i]?<;>rfl
    |false=>simp only[hv,Oa]
   |_=>rfl
@[go_sem] theorem GZ (ag n v o cs):Df ag n v 0 o (some (.box cs))=cG ag n cs o:=by simp[Df]
@[go_sem] theorem Hd (ag n v i o z L x):Df ag n v i o (some (.arr v z L x))=(L[i]?).bind fun cs=>cG ag n cs o:=by simp[Df]
def GJ(z v off n:Nat):Option aj→Option (List (List SV))
 |some (.arr v' z' L _)=>bif v==v'&&z'==z&&decide (off+n≤L.length)then some ((L.drop off).take n)else none
 |_=>none
@[go_sem] theorem HE (z H b v off n):kq z H (.bG b v off n)=GJ z v off n (az H b):=by
  simp only[kq,GJ]
  cases az H b with
  |none=>rfl
  |some x=>cases x<;>rfl
@[go_sem] theorem GL (z v off n L x):GJ z v off n (some (.arr v z L x))=bif decide (off+n≤L.length)then some ((L.drop off).take n)else none:=by simp[GJ]
@[go_sem] theorem I8 (z H L f):kq z H (.aB z L f)=some L:=by simp[kq]
@[go_sem] theorem Gi (z z' H f):kq z H (.aB z' [] f)=some []:=by simp[kq]
attribute [go_sem] az aV
def mh(bg:Nat)(zv:List SV)(H:ae)(b v off n:Nat):Option aj→Option (SV×ae)
 |some (.arr v' z' L e)=>bif v==v'&&z'==bg&&decide (off+n≤L.length)then
   (bT H b (.arr v z' (L.take off++List.replicate n zv++L.drop (off+n)) e) 0).map fun H=>(.undef,H)else none
 |_=>none
def C2(n v i o:Nat)(b:Nat)(H:ae)(xs:List SV)(refs:Nat):Option aj→Option ae
 |some (.box cs)=>bif i==0&&decide (o+n≤cs.length)then bT H b (.box (eL cs o n xs)) refs else none
 |some (.arr v' z L e)=>bif v==v' then(L[i]?).bind fun cs=>bif decide (o+n≤cs.length)then bT H b (.arr v z (L.set i (eL cs o n xs)) e) refs else none else none
 |_=>none
@[go_sem] theorem Iv (n H x b v i o):df n H x (.ptr b v i o)=(bV x).bind fun xs=>bif xs.length==n then C2 n v i o b H xs x.refs (az H b)else none:=by
  simp only[df,C2]
  congr 1
  funext xs
  cases(xs.length==n)with
  |false=>rfl
  |true=>
   simp only[N6]
   cases az H b with
   |none=>rfl
   |some y=>
    cases y with
    |arr v' z L ex=>
     cases hv:(v==v')with
     |true=>simp only[hv,N6];cases L[i]?<;>rfl
     |false=>simp only[hv,Oa]
    |_=>rfl
@[go_sem] theorem Hw (n v o b H xs r cs):C2 n v 0 o b H xs r (some (.box cs))=bif decide (o+n≤cs.length)then bT H b (.box (eL cs o n xs)) r else none:=by simp[C2]
@[go_sem] theorem GI (n v i o b H xs r z L e):C2 n v i o b H xs r (some (.arr v z L e))=(L[i]?).bind fun cs=>bif decide (o+n≤cs.length)then bT H b (.arr v z (L.set i (eL cs o n xs)) e) r else none:=by simp[C2]
@[go_sem] theorem Hp (bl bC ro b x r):bT ⟨bl,bC,ro⟩ b x r=bif decide (ro≤b)&&decide (b<bl.length)then some ⟨bl.set b x,bif decide (r≤b+1)then bC else(b,r)::bC,ro⟩else none:=by simp[bT]
@[go_sem] theorem DY (k n):(SV.int k n).refs=0:=by simp[SV.refs]
@[go_sem] theorem Eb (n):(SV.str n).refs=0:=by simp[SV.refs]
@[go_sem] theorem Gc (z L f):(SV.aB z L f).refs=0:=by simp[SV.refs]
@[go_sem] theorem Hm (b):(SV.mp b).refs=b+1:=by simp[SV.refs]
@[go_sem] theorem Ez (b v i o):(SV.ptr b v i o).refs=b+1:=by simp[SV.refs]
@[go_sem] theorem EV (b v i o):(SV.bG b v i o).refs=b+1:=by simp[SV.refs]
@[go_sem] theorem EM (cs):(SV.agg cs).refs=SV.refs.au cs:=by simp[SV.refs]
@[go_sem] theorem Gy (f cs):(SV.fn f cs).refs=SV.refs.au cs:=by simp[SV.refs]
@[go_sem] theorem Ej (f cs):(SV.oI f cs).refs=SV.refs.au cs:=by simp[SV.refs]
@[go_sem] theorem Dm:SV.refs.au []=0:=by simp[SV.refs.au]
@[go_sem] theorem Cr (v vs):SV.refs.au (v::vs)=max v.refs (SV.refs.au vs):=by simp[SV.refs.au]
section
variable{T:FuncId→Option aC}{f:FuncId}{F:aC}{xs:List SV}{n:Nat}{H:ae}
def px{R:Type}(rs:List rn)(k:SV→ae→Option R):mJ→Env→ae→Option R
 | .exit _,_,_=>none
 |_,e,H=>(results1 e H rs).bind fun v=>k v H
@[go_sem] theorem DQ {R:Type}(rs)(k:SV→ae→Option R)(e H):px rs k .ret e H=ay (results1 e H rs) (fun v=>k v H) ():=by
  show(results1 e H rs).bind _=_
  cases results1 e H rs<;>rfl
@[go_sem] theorem zU {R:Type}(rs)(k:SV→ae→Option R)(e H):px rs k .normal e H=ay (results1 e H rs) (fun v=>k v H) ():=by
  show(results1 e H rs).bind _=_
  cases results1 e H rs<;>rfl
theorem aw{v:SV}(hT:T f=some F)(hp:gT F xs=true)(h:runK (ab T n) (px F.res (fun v H'=>eg 0 H' dc v)) F.body [] (ef xs) av ()=some v):ab T (n+1) (.fn f) xs H=some (v,H):=by
 have hk:∀k:mJ→Env→ae→Option SV,k=px F.res (fun v H'=>eg 0 H' dc v)→run (ab T n) F.body (ef xs) av k ()=some v:=by
  intro k hk
  rw[hk,nH]
  exact h
 simp only[ab,hT,hp,N6]
 rw[hk _ (by funext x e H';cases x<;>rfl)]
 rfl
end
@[go_sem] theorem Hz (e H r):results1 e H [r]=dS e H r:=by
  unfold results1
  cases h:dS e H r<;>simp[bc,h]
@[go_sem] theorem GN (e H r s):results1 e H [r,s]=(dS e H r).bind fun a=>(dS e H s).map fun b=>.ax [a,b]:=by
  unfold results1
  cases h:dS e H r<;>cases h':dS e H s<;>simp[bc,h,h']
@[go_sem] theorem Dp (e H r s q):results1 e H [r,s,q]=(dS e H r).bind fun a=>(dS e H s).bind fun b=>(dS e H q).map fun c=>.ax [a,b,c]:=by
  unfold results1
  cases h1:dS e H r<;>cases h2:dS e H s<;>cases h3:dS e H q<;>simp[bc,h1,h2,h3]
@[go_sem] theorem Gm (e H):results1 e H []=some (.ax []):=by simp[results1,bc]
@[go_sem] theorem Jm (e H t):dS e H (.tmp t)=some (get e t):=Eq.trans rfl rfl
@[go_sem] theorem GC (e H t ag n):dS e H (.cell t ag n)=cw ag n H (get e t):=Eq.trans rfl rfl
@[go_sem] theorem Ko (N H d k n):eg N H (d+1) (.int k n)=some (.int k n):=by simp[eg]
@[go_sem] theorem He (N H d b):eg N H (d+1) (.bool b)=some (.bool b):=by simp[eg]
@[go_sem] theorem Ja (N H d z L f):eg N H (d+1) (.aB z L f)=some (.aB z L f):=by simp[eg]
@[go_sem] theorem Jl (N H d s):eg N H (d+1) (.str s)=some (.str s):=by simp[eg,SV.refs]
@[go_sem] theorem JK (N H d cs):eg N H (d+1) (.agg cs)=(bc (cs.map (eg N H d))).map .agg:=by simp[eg]
@[go_sem] theorem Iq (N H d cs):eg N H (d+1) (.ax cs)=(bc (cs.map (eg N H d))).map .ax:=by simp[eg]
@[go_sem] theorem IN {A:Type}:bc ([]:List (Option A))=some []:=Eq.trans rfl rfl
@[go_sem] theorem Gx {A:Type}(a:A)(r):bc (some a::r)=(bc r).map (a:: ·):=Eq.trans rfl rfl
attribute [go_sem] dc
theorem kj{f:Env×ae→Option Out}:∀(n m:Nat) (s:Env×ae) (o:Out),cJ f n s=some o→n≤m→cJ f m s=some o
 |0,_,s,o,h,_=>by cases h
 |n+1,0,s,o,h,hm=>by omega
 |n+1,m+1,s,o,h,hm=>by
  have e:∀n,cJ f (n+1) s=match f s with|some (.normal,s')=>cJ f n s'|r=>r:=fun n=>rfl
  rw[e]at h⊢
  cases hf:f s with
  |none=>rw[hf]at h;exact h
  |some r=>
   obtain⟨x,s'⟩:=r
   rw[hf]at h
   cases x with
   |normal=>exact kj n m s' o h (by omega)
   |exit id=>exact h
   |ret=>exact h
theorem mS{f:Env×ae→Option Out}{s:Env×ae}{o:Out}{n:Nat}(h:cJ f n s=some o):iG f s=some o:=by
 unfold iG
 have hex:∃n,(cJ f n s).isSome:=⟨n,by simp[h]⟩
 rw[dif_pos hex]
 have h1:=Qr hex
 generalize Classical.choose hex=m at h1
 obtain⟨o',ho'⟩:=Option.isSome_iff_exists.1 h1
 have h2:=kj _ (max n m) _ _ h (Nat.le_max_left _ _)
 have h3:=kj _ (max n m) _ _ ho' (Nat.le_max_right _ _)
 rw[h2]at h3
 rw[ho',h3]
theorem yf{R:Type}{f:Env×ae→Option Out}{s:Env×ae}{k:Out→Option R}{t:n6 k}{r:Option R}(o:Out)(h:iG f s=some o)(hk:k o=r):ay (iG f s) k t=r:=by
 rw[h];exact hk
theorem jr(p N H0 rec a e H):eT p N H0 rec a (e,H)=ay (eF p N H0 (e,H)) (fun s=>runK rec (fun x e H=>some (x,e,H)) a [] s.1 s.2 ()) ():=by
 unfold eT
 cases eF p N H0 (e,H)<;>rfl
attribute [go_sem] Oc Og PR Oy OS Ov PG List.getElem?_cons_zero QH Pl Pm
 List.take_succ_cons QC List.take_nil List.drop_succ_cons P8 List.drop_nil P2 PE Qx List.flatten_nil List.isEmpty_nil List.isEmpty_cons
 Oo Qb OV Option.bind_none decide_true decide_false Rt Q1 Rq Rh Bool.or_true Bool.true_or Q5 Pz Px Ro Bool.not_not
 O8 beq_true beq_false Ph OY Nat.max_self NV PO Nat.sub_zero N0 List.drop_length QO List.reverse_nil List.zip_cons_cons List.zip_nil_right
@[go_sem] theorem Dw {R:Type}(b:Bool)(x y:R)(t:n6 (x,y)):fork (!b) x y t=fork b y x ():=by cases b<;>rfl
@[go_sem] theorem min_zero (n:Nat):min 0 n=0:=Nat.zero_min n
@[go_sem] theorem AD {A R:Type}(f:A→Option R)(t:n6 f):ay none f t=none:=Eq.trans rfl rfl
@[go_sem] theorem CP (N l):cy N [] l=l:=Eq.trans rfl rfl
def bX(n:Int):Int:=IntKind.wrap .i64 n
@[go_sem] theorem Fb (n:Int):IntKind.wrap .i64 n=bX n:=rfl
theorem an{n:Int}(h1: -9223372036854775808≤n)(h2:n≤9223372036854775807):bX n=n:=by
 unfold bX
 simp only[IntKind.wrap,IntKind.bits,IntKind.signed,Q1,ge_iff_le,NY]
 split<;>omega
@[go_sem] theorem Kj (a b):bY .eql (.str a) (.str b)=some (.bool (decide (a=b))):=Eq.trans rfl rfl
@[go_sem] theorem J8 (a b):bY .neq (.str a) (.str b)=some (.bool (!decide (a=b))):=Eq.trans rfl rfl
@[go_sem] theorem G9 (a b):bY .add (.str a) (.str b)=bif decide (a.size+b.size≤4611686018427387904)then some (.str (a++b))else none:=Eq.trans rfl rfl
@[go_sem] theorem uy (bl b o n cs)(h:bl[b]?=some (.box cs)):iJ 1 bl [.pU b o n,.str .empty]=bif decide (n≤1048576)&&decide (o+n≤cs.length)then(fU ((cs.drop o).take n)).bind fun l=>bif decide (l.length≤1048576)then some (.str ⟨l.toArray⟩)else none else none:=by
  simp only[iJ,h];rfl
attribute [go_sem] Ov PG
section
variable(rec:Rec)(e:Env)(H:ae)
@[go_sem] theorem ET:ai rec e H .lY=some (.mp H.bl.length,aV H (.map [])):=Eq.trans rfl rfl
@[go_sem] theorem GD (t x k v):ai rec e H (.m6 t x k v)=nV t H (ev e k) (ev e v) (ev e x):=Eq.trans rfl rfl
@[go_sem] theorem Et (t ok z x k):ai rec e H (.l9 t ok z x k)=lS t ok z H (ev e k) (ev e x):=Eq.trans rfl rfl
def Aw(t:LK)(H:ae)(b:Nat)(k v:SV):Option aj→Option (SV×ae)
 |some (.map es)=>bif isKey k&&v.gU then(iH t k es 0).bind fun r=>(bT H b (.map (wI k v es r)) v.refs).map (.undef,·)else none
 |_=>none
def lE(t:LK)(ok:Bool)(z:SV)(H:ae)(k:SV):Option aj→Option (SV×ae)
 |some (.map es)=>bif isKey k then(iH t k es 0).map fun r=>(po ok z r,H)else none
 |_=>none
where po (ok:Bool) (z:SV):Option (Nat×SV)→SV
 |some (_,v)=>bif ok then .ax [v,.bool true]else v
 |none=>bif ok then .ax [z,.bool false]else z
@[go_sem] theorem Eo (t k v b):nV t H k v (.mp b)=Aw t H b k v (az H b):=by
  simp only[nV]
  generalize az H b=o
  cases o with
  |none=>rfl
  |some x=>cases x<;>rfl
@[go_sem] theorem CH (t ok z k b):lS t ok z H k (.mp b)=lE t ok z H k (az H b):=by
  simp only[lS]
  generalize az H b=o
  cases o with
  |none=>rfl
  |some x=>
   cases x with
   |map es=>
    simp only[lE]
    cases isKey k
    ·rfl
    ·simp only[N6]
     congr 1
   |_=>rfl
@[go_sem] theorem CY (t b k v es):Aw t H b k v (some (.map es))=bif isKey k&&v.gU then(iH t k es 0).bind fun r=>(bT H b (.map (wI k v es r)) v.refs).map (.undef,·)else none:=Eq.trans rfl rfl
@[go_sem] theorem Cc (t ok z k es):lE t ok z H k (some (.map es))=bif isKey k then(iH t k es 0).map fun r=>(lE.po ok z r,H)else none:=Eq.trans rfl rfl
@[go_sem] theorem Ar (ok z i v):lE.po ok z (some (i,v))=bif ok then .ax [v,.bool true]else v:=Eq.trans rfl rfl
@[go_sem] theorem Ag (ok z):lE.po ok z none=bif ok then .ax [z,.bool false]else z:=Eq.trans rfl rfl
@[go_sem] theorem Gk (x):ai rec e H (.ub x)=(oQ H (ev e x)).map (·,H):=Eq.trans rfl rfl
@[go_sem] theorem Dr (x):ai rec e H (.kg x)=jt H (ev e x):=Eq.trans rfl rfl
@[go_sem] theorem FT (x):ai rec e H (.oU x)=lL H (ev e x):=Eq.trans rfl rfl
@[go_sem] theorem CK (x):ai rec e H (.lM x)=(jk H (ev e x)).map (·,H):=Eq.trans rfl rfl
@[go_sem] theorem Cy (len x h):ai rec e H (.sliceB len x h)=(jB len H (ev e h) (ev e x)).map (·,H):=Eq.trans rfl rfl
def vV:Option aj→Option SV
 |some (.map es)=>some (.int .i64 es.length)
 |_=>none
def rA(H:ae)(b:Nat):Option aj→Option (SV×ae)
 |some (.map es)=>bif decide (es.length≤1)then some (.ptr H.bl.length 0 0 0,aV H (.iter b es.length 0))else none
 |_=>none
def tF(H:ae)(i:Nat):Option aj→Option (SV×ae)
 |some (.iter b n k)=>iu H i b n k (az H b)
 |_=>none
def rB(H:ae):Option aj→Option SV
 |some (.iter b n k)=>iR n k (az H b)
 |_=>none
def qK(len:Nat)(hi:SV)(b o:Nat):Option aj→Option SV
 |some (.box cs)=>bif decide (o+len≤cs.length)then(pG len hi).map (.pU b o ·)else none
 |_=>none
@[go_sem] theorem DV (b):oQ H (.mp b)=vV (az H b):=by
  simp only[oQ];generalize az H b=o;cases o with|none=>rfl|some x=>cases x<;>rfl
@[go_sem] theorem BH (b):jt H (.mp b)=rA H b (az H b):=by
  simp only[jt];generalize az H b=o;cases o with|none=>rfl|some x=>cases x<;>rfl
@[go_sem] theorem B9 (i):lL H (.ptr i 0 0 0)=tF H i (az H i):=by
  simp only[lL];generalize az H i=o;cases o with|none=>rfl|some x=>cases x<;>rfl
@[go_sem] theorem An (i):jk H (.ptr i 0 0 0)=rB H (az H i):=by
  simp only[jk];generalize az H i=o;cases o with|none=>rfl|some x=>cases x<;>rfl
@[go_sem] theorem z8 (len h b v o):jB len H h (.ptr b v 0 o)=qK len h b o (az H b):=by
  simp only[jB];generalize az H b=q;cases q with|none=>rfl|some x=>cases x<;>rfl
@[go_sem] theorem BU (es):vV (some (.map es))=some (.int .i64 es.length):=Eq.trans rfl rfl
@[go_sem] theorem yw (b es):rA H b (some (.map es))=bif decide (es.length≤1)then some (.ptr H.bl.length 0 0 0,aV H (.iter b es.length 0))else none:=Eq.trans rfl rfl
@[go_sem] theorem ze (i b n k):tF H i (some (.iter b n k))=iu H i b n k (az H b):=Eq.trans rfl rfl
@[go_sem] theorem xY (b n k):rB H (some (.iter b n k))=iR n k (az H b):=Eq.trans rfl rfl
@[go_sem] theorem zL (len h b o cs):qK len h b o (some (.box cs))=bif decide (o+len≤cs.length)then(pG len h).map (.pU b o ·)else none:=Eq.trans rfl rfl
@[go_sem] theorem Db (i b):iu H i b 0 0 (some (.map []))=some (.ax [.bool false],H):=Eq.trans rfl rfl
@[go_sem] theorem C8 (i b q v):iu H i b 1 0 (some (.map [(q,v)]))=(bT H i (.iter b 1 1) (b+1)).map fun H=>(.ax [.bool true,q,v],H):=Eq.trans rfl rfl
@[go_sem] theorem CC (i b q v):iu H i b 1 1 (some (.map [(q,v)]))=some (.ax [.bool false],H):=Eq.trans rfl rfl
@[go_sem] theorem BI (q v):iR 1 1 (some (.map [(q,v)]))=some (.ax [q,v]):=Eq.trans rfl rfl
@[go_sem] theorem Dg (t k i):iH t k [] i=some none:=Eq.trans rfl rfl
@[go_sem] theorem BC (t k q v es i):iH t k ((q,v)::es) i=(ov t k q).bind fun b=>bif b then some (some (i,v))else iH t k es (i+1):=Eq.trans rfl rfl
@[go_sem] theorem CA (k a b):ov .i (.int k a) (.int k b)=some (decide (a=b)):=by
  simp only[ov,O8,N6];rfl
@[go_sem] theorem CM (k n):isKey (.int k n)=true:=Eq.trans rfl rfl
@[go_sem] theorem Dd (k v es):wI k v es none=es++[(k,v)]:=Eq.trans rfl rfl
@[go_sem] theorem Ih (f cs):SV.gU (.fn f cs)=true:=Eq.trans rfl rfl
end
end
section
inductive DT where
 |bool|int (k:IntKind)|str|aB (es:List DT)
inductive Fits:DT→SV→Prop
 |bool (b:Bool):Fits .bool (.bool b)
 |int (k:IntKind) (n:Int) (h:(Lit.int k n).wf=true):Fits (.int k) (.int k n)
 |str (s:ByteArray) (h:s.size≤maxLen):Fits .str (.str s)
 |aB (es:List DT) (L:List (List SV)) (f:Bool) (hm:L.length≤maxLen) (hl:∀r∈L,r.length=es.length) (h:∀r∈L,∀(j:Nat) d c,es[j]?=some d→r[j]?=some c→Fits d c):Fits (.aB es) (.aB es.length L f)
def c9(es:List DT)(cs:List SV):Prop:=cs.length=es.length∧∀(j:Nat) d c,es[j]?=some d→cs[j]?=some c→Fits d c
theorem ot:c9 [] []:=⟨rfl,by simp⟩
theorem kr{es es':List DT}{cs cs':List SV}(h:c9 es cs)(h':c9 es' cs'):c9 (es++es') (cs++cs'):=by
 refine⟨by simp[h.1,h'.1],fun j d c hd hc=>?_⟩
 rw[Pa]at hd hc
 rw[h.1]at hc
 split at hd
 ·rename_i hlt
  rw[if_pos hlt]at hc
  exact h.2 j d c hd hc
 ·rename_i hlt
  rw[if_neg hlt]at hc
  exact h'.2 _ d c hd hc
theorem jY{d:DT}{es:List DT}{cs:List SV}(h:c9 (d::es) cs):∃c r,cs=c::r∧Fits d c∧c9 es r:=by
 cases cs with
 |nil=>have:=h.1;simp at this
 |cons c r=>exact⟨c,r,rfl,h.2 0 d c rfl rfl,by have:=h.1;simpa using this,fun j d c hd hc=>h.2 (j+1) d c hd hc⟩
theorem ic{cs:List SV}(h:c9 [] cs):cs=[]:=Pe h.1
theorem fits_int{k:IntKind}{c:SV}(h:Fits (.int k) c):∃n,c=.int k n∧(Lit.int k n).wf=true:=by cases h;exact⟨_,rfl,by assumption⟩
theorem xe{c:SV}(h:Fits .str c):∃n,c=.str n∧n.size≤maxLen:=by cases h;exact⟨_,rfl,by assumption⟩
theorem m7{es:List DT}{c:SV}(h:Fits (.aB es) c):∃L f,c=.aB es.length L f∧L.length≤maxLen∧∀r∈L,c9 es r:=by
 cases h with
 |aB _ L f hm hl h=>exact⟨L,f,rfl,hm,fun r hr=>⟨hl r hr,h r hr⟩⟩
section
variable(P:Program)
def iZ:Nat→TypeId→Option (List DT)
 |0,_=>none
 |d+1,t=>match P.underlying t with
  |some .bool=>some [.bool]
  |some (.int k)=>some [.int k]
  |some .string=>some [.str]
  |some (.slice e)=>(iZ d e).bind fun es=>bif P.cellsOf e==es.length&&!es.isEmpty then some [.aB es]else none
  |some (.struct fs)=>(fs.toList.foldlM (init:=[]) fun acc f=>bif f.offset==acc.length then(iZ d f.type).bind fun es=>bif P.cellsOf f.type==es.length then some (acc++es)else none else none).bind fun es=>
    bif P.cellsOf t==es.length then some es else none
  |some (.array n e)=>(iZ d e).bind fun es=>bif P.cellsOf e==es.length&&P.cellsOf t==(List.replicate n es).flatten.length then some (List.replicate n es).flatten else none
  |_=>none
end
def kU(w:World)(scs:List SV)(cs:List Value):Prop:=scs.length=cs.length∧∀(j:Nat) c v,scs[j]?=some c→cs[j]?=some v→VR w (· <w.heap.size) cO c v∧c.gU=true
theorem kF{w:World}{a b:List SV}{x y:List Value}(h:kU w a x)(h':kU w b y):kU w (a++b) (x++y):=by
 refine⟨by simp[h.1,h'.1],fun j c v hc hv=>?_⟩
 rw[Pa]at hc hv
 rw[←h.1]at hv
 split at hc
 ·rename_i hlt
  rw[if_pos hlt]at hv
  exact h.2 j c v hc hv
 ·rename_i hlt
  rw[if_neg hlt]at hv
  exact h'.2 _ c v hc hv
theorem gC{w:World}{c:SV}{v:Value}(h:VR w (· <w.heap.size) cO c v)(h1:c.gU=true):kU w [c] [v]:=by
 refine⟨rfl,fun j c' v' hc hv=>?_⟩
 cases j with
 |zero=>simp at hc hv;subst hc;subst hv;exact⟨h,h1⟩
 |succ j=>simp at hc
section
variable{H:Type}{enc:TypeId×Value→H}{P:Program}{w:World}{spare:Nat→Bool}{held:Bool}
def zQ(P:Program)(d:Nat)(acc:List DT)(f:Field):Option (List DT):=
 bif f.offset==acc.length then(iZ P d f.type).bind fun es=>bif P.cellsOf f.type==es.length then some (acc++es)else none else none
def pB(P:Program)(w:World)(t:TypeId)(es:List DT)(cs:List Value):Prop:=∃scs,kU w scs cs∧c9 es scs
theorem oX{n dd:Nat}(ih:∀(t:TypeId) (cs:List Value) x es,DataW.trod enc P w 0 spare held n t cs=some x→iZ P dd t=some es→pB P w t es cs)(cs:List Value):∀(fs:List Field) (acc tot:List DT),
 fs.foldlM (zQ P dd) acc=some tot→(∀f∈fs,∃x,DataW.trod enc P w 0 spare held n f.type ((cs.drop f.offset).take (P.cellsOf f.type))=some x)→tot.length≤cs.length→
 ∃rest,tot=acc++rest∧∃scs,kU w scs ((cs.drop acc.length).take rest.length)∧c9 rest scs
 |[],acc,tot,h,_,_=>by
  simp at h;subst h
  exact⟨[],by simp,[],⟨rfl,by simp⟩,ot⟩
 |f::fs,acc,tot,h,hf,hlen=>by
  rw[Ri]at h
  simp only[bind,NS]at h
  obtain⟨acc',h1,h2⟩:=h
  unfold zQ at h1
  replace h1:=af h1
  obtain⟨ho,h1⟩:=h1
  simp only[NS]at h1
  obtain⟨es,h3,h1⟩:=h1
  replace h1:=af h1
  obtain⟨h4,h1⟩:=h1
  cases h1
  have ho:f.offset=acc.length:=by simpa using ho
  have h4:P.cellsOf f.type=es.length:=by simpa using h4
  obtain⟨x,hx⟩:=hf f (by simp)
  obtain⟨s1,k1,k2⟩:=ih f.type _ x es hx h3
  obtain⟨rest,k3,s2,k4,k5⟩:=oX ih cs fs (acc++es) tot h2 (fun g hg=>hf g (by simp[hg])) hlen
  refine⟨es++rest,by rw[k3];simp,s1++s2,?_,kr k2 k5⟩
  rw[ho,h4]at k1
  have:=kF k1 k4
  have e:((cs.drop acc.length).take es.length)++((cs.drop (acc++es).length).take rest.length)=(cs.drop acc.length).take (es++rest).length:=by
   rw[NO,NO,←List.drop_drop,←List.take_add]
  rw[←e];exact this
theorem rj{n dd:Nat}{e:TypeId}{es:List DT}(ih:∀(cs:List Value) x,DataW.trod enc P w 0 spare held n e cs=some x→pB P w e es cs)(hc:P.cellsOf e=es.length)(cs:List Value):∀(m i:Nat),
 (∀k,i≤k→k<i+m→∃x,DataW.trod enc P w 0 spare held n e ((cs.drop (k*P.cellsOf e)).take (P.cellsOf e))=some x)→
 ∃scs,kU w scs ((cs.drop (i*es.length)).take (m*es.length))∧c9 (List.replicate m es).flatten scs
 |0,i,_=>⟨[],⟨by simp,by simp⟩,by simpa using ot⟩
 |m+1,i,h=>by
  obtain⟨x,hx⟩:=h i (by omega) (by omega)
  obtain⟨s1,k1,k2⟩:=ih _ x hx
  obtain⟨s2,k3,k4⟩:=rj (dd:=dd) ih hc cs m (i+1) (fun k h1 h2=>h k (by omega) (by omega))
  refine⟨s1++s2,?_,by rw[P2,Qx];exact kr k2 k4⟩
  rw[hc]at k1
  have:=kF k1 k3
  have e:((cs.drop (i*es.length)).take es.length)++((cs.drop ((i+1)*es.length)).take (m*es.length))=(cs.drop (i*es.length)).take ((m+1)*es.length):=by
   rw[Ox i 1,Pq,←List.drop_drop,Ox m 1,Pq,QR (m*es.length),←List.take_add]
  rw[←e];exact this
theorem uL{a:Addr}{n:Nat}{vs:List Value}(h:w.cells? 0 a n=some vs):vs.length=n∧∀j,j<n→w.cell? (a.add j)=vs[j]?:=by
 unfold World.cells? at h
 simp only[PO,if_true]at h
 exact⟨by simpa using mapM_some_length h,fun j hj=>mapM_some_get h j j (by simp[hj])⟩
theorem Bl{a:Addr}{v:Value}(h:w.cell? (a.add 0)=some v):a.spot=none∧a.block<w.heap.size:=by
 have:a.add 0=a:=by simp[Addr.add]
 rw[this]at h
 unfold World.cell? at h
 split at h
 ·rename_i c _ _ hb
  cases hs:a.spot with
  |none=>exact⟨rfl,(N8.1 hb).1⟩
  |some x=>rw[hs]at h;simp at h
 ·cases h
theorem yb:∀(n:Nat) (t:TypeId) (cs:List Value) (x:DataW H×List MemPlace) (dd:Nat) (es:List DT),DataW.trod enc P w 0 spare held n t cs=some x→iZ P dd t=some es→pB P w t es cs:=by
 intro n
 induction n with
 |zero=>intro t cs x dd es h;simp[DataW.trod]at h
 |succ n ih=>
  intro t cs x dd es h hd
  cases dd with
  |zero=>simp[iZ]at hd
  |succ dd=>
   unfold iZ at hd
   split at hd
   ·rename_i hu
    cases hd
    obtain⟨b,rfl,_⟩:=DataW.trod_bool hu h
    exact⟨[.bool b],gC (.bool b) rfl,rfl,fun j d c hd hc=>by cases j<;>simp at hd hc;subst hd;subst hc;exact .bool b⟩
   ·rename_i k hu
    cases hd
    obtain⟨b,rfl,_,hw⟩:=DataW.trod_int hu h
    exact⟨[.int k b],gC (.int k b) rfl,rfl,fun j d c hd hc=>by cases j<;>simp at hd hc;subst hd;subst hc;exact .int k b hw⟩
   ·rename_i hu
    cases hd
    obtain⟨b,rfl,_,hw⟩:=DataW.trod_string hu h
    exact⟨[.str b],gC (.str b) rfl,rfl,fun j d c hd hc=>by cases j<;>simp at hd hc;subst hd;subst hc;exact .str b hw⟩
   ·rename_i e hu
    simp only[NS]at hd
    obtain⟨ee,hd1,hd⟩:=hd
    replace hd:=af hd
    obtain⟨hd2,hd⟩:=hd
    cases hd
    simp only[NX,O1,Ot,List.isEmpty_eq_false_iff]at hd2
    obtain⟨hz,hne⟩:=hd2
    have hz0:0<ee.length:=Q6.2 hne
    rcases DataW.trod_slice hu h with⟨rfl,_⟩|⟨a,len,cap,elems,rest,m,hm,rfl,_,_,hlc,hcap,hel,az,_⟩
    ·refine⟨[.aB ee.length [] true],gC ?_ rfl,rfl,fun j d c hd hc=>?_⟩
     ·exact VR.aB (L:=[]) (fun _ _=>undef) (NV _) (fun _=>rfl) (by simp) (.inl rfl) (by simp) (by simp)
     ·cases j<;>simp at hd hc
      subst hd;subst hc
      exact .aB ee [] true (by simp) (by simp) (by simp)
    ·cases hm
     have key:∀i,i<len→∃(vs:List Value) (r:List SV),w.cells? 0 (a.add (i*ee.length)) ee.length=some vs∧kU w r vs∧c9 ee r:=by
      intro i hi
      have h1:=az i hi
      have h2:elems[i]?=some elems[i]:=N4 (by omega)
      rw[h2,hz,NS]at h1
      obtain⟨vs,h3,h4⟩:=h1
      obtain⟨r,h5,h6⟩:=ih e vs _ dd ee h4 hd1
      exact⟨vs,r,h3,h5,h6⟩
     have hch:∃g:Nat→List SV,∀i,i<len→∃vs:List Value,w.cells? 0 (a.add (i*ee.length)) ee.length=some vs∧kU w (g i) vs∧c9 ee (g i):=
      ⟨fun i=>if hi:i<len then Classical.choose (Qr (key i hi))else[],fun i hi=>by
       simp only[hi,dif_pos]
       exact⟨_,Qr (Qr (key i hi))⟩⟩
     obtain⟨g,hg⟩:=hch
     have hrow:∀(i:Nat) r,((List.range len).map g)[i]?=some r→i<len∧r=g i:=by
      intro i r hr
      simp only[Py,NP]at hr
      obtain⟨k,hk,rfl⟩:=hr
      have hlt:=(NT.1 hk).1
      simp at hlt
      rw[P1 hlt]at hk
      cases hk
      exact⟨hlt,rfl⟩
     have hcell:∀(i j:Nat),i<len→j<ee.length→∃v c,w.cell? ((a.add (i*ee.length)).add j)=some v∧(g i)[j]?=some c∧VR w (· <w.heap.size) cO c v∧c.gU=true:=by
      intro i j hi hj
      obtain⟨vs,h1,h2,h3⟩:=hg i hi
      obtain⟨h4,h5⟩:=uL h1
      have hv:vs[j]?=some vs[j]:=N4 (by omega)
      have hjl:j<(g i).length:=by have:=h2.1;omega
      have hc:(g i)[j]?=some (g i)[j]:=N4 hjl
      obtain⟨h6,h7⟩:=h2.2 j _ _ hc hv
      exact⟨_,_,(h5 j hj).trans hv,hc,h6,h7⟩
     refine⟨[.aB ee.length ((List.range len).map g) false],gC ?_ rfl,rfl,fun j d c hd hc=>?_⟩
     ·have hlen:((List.range len).map g).length=len:=by simp
      have hq:VR w (· <w.heap.size) cO (.aB ee.length ((List.range len).map g) false) (.slice (some a) ((List.range len).map g).length cap):=by
       refine .aB (fun i j=>(w.cell? ((a.add (i*ee.length)).add j)).getD undef) (by omega) (fun h=>by cases h) (fun i r hr=>?_) ?_ (fun i j r c hr hc=>?_) (fun i j r c hr hc=>?_)
       ·obtain⟨hi,rfl⟩:=hrow i r hr
        obtain⟨vs,h1,h2,h3⟩:=hg i hi
        exact h3.1
       ·by_cases h0:len=0
        ·left;subst h0;rfl
        ·right
         obtain⟨v,c,h1,_⟩:=hcell 0 0 (by omega) hz0
         rw[Qo]at h1
         have h2:=Bl (a:=a) (v:=v) (by have:(a.add 0).add 0=a.add 0:=by simp[Addr.add]
                                       rw[this]at h1;exact h1)
         refine⟨a.block,a.off,?_,h2.2,fun i j r c hr hc=>?_⟩
         ·obtain⟨b,o,sp⟩:=a;simp only at h2;rw[h2.1]
         ·obtain⟨hi,rfl⟩:=hrow i r hr
          obtain⟨vs,_,h3,h4⟩:=hg i hi
          have hj:j<ee.length:=by have:=(NT.1 hc).1;have:=h4.1;omega
          obtain⟨v,c',h5,_⟩:=hcell i j hi hj
          have ha:(a.add (i*ee.length)).add j=⟨a.block,a.off+i*ee.length+j,none⟩:=by
           obtain⟨b,o,sp⟩:=a;simp only at h2;rw[h2.1,cB,cB]
          rw[←ha,h5];rfl
       ·obtain⟨hi,rfl⟩:=hrow i r hr
        obtain⟨vs,_,h3,h4⟩:=hg i hi
        have hj:j<ee.length:=by have:=(NT.1 hc).1;have:=h4.1;omega
        obtain⟨v,c',_,h6,_,h7⟩:=hcell i j hi hj
        rw[hc]at h6;cases h6;exact h7
       ·obtain⟨hi,rfl⟩:=hrow i r hr
        obtain⟨vs,_,h3,h4⟩:=hg i hi
        have hj:j<ee.length:=by have:=(NT.1 hc).1;have:=h4.1;omega
        obtain⟨v,c',h5,h6,h7,_⟩:=hcell i j hi hj
        rw[hc]at h6;cases h6
        simp only[h5,O2];exact h7
      rw[hlen]at hq
      exact hq
     ·cases j<;>simp at hd hc
      subst hd;subst hc
      refine .aB ee _ false (by simp;omega) (fun r hr=>?_) (fun r hr j d c hd hc=>?_)
      ·obtain⟨i,hi⟩:=OD hr
       obtain⟨h1,rfl⟩:=hrow i r hi
       obtain⟨vs,_,_,h4⟩:=hg i h1
       exact h4.1
      ·obtain⟨i,hi⟩:=OD hr
       obtain⟨h1,rfl⟩:=hrow i r hi
       obtain⟨vs,_,_,h4⟩:=hg i h1
       exact h4.2 j d c hd hc
   ·rename_i fs hu
    simp only[NS]at hd
    obtain⟨tot,hd1,hd⟩:=hd
    replace hd:=af hd
    obtain⟨hd2,hd⟩:=hd
    cases hd
    have hd2:P.cellsOf t=es.length:=by simpa using hd2
    obtain⟨xs,m,hm,_,hl,hxl,az⟩:=DataW.trod_struct hu h
    cases hm
    obtain⟨rest,h1,scs,h2,h3⟩:=oX (dd:=dd) (fun t cs x es h1 h2=>ih t cs x dd es h1 h2) cs fs.toList [] es hd1 (fun f hf=>by
     obtain⟨i,hi⟩:=OD hf
     have hlt:=(NT.1 hi).1
     have h5:=az i f (by simpa using hi)
     exact⟨xs[i]'(by simp at hlt;omega),by rw[h5];simp⟩) (by omega)
    simp only[PR]at h1
    subst h1
    simp only[Oc,P8]at h2
    rw[OR (by omega)]at h2
    exact⟨scs,h2,h3⟩
   ·rename_i k e hu
    simp only[NS]at hd
    obtain⟨ee,hd1,hd⟩:=hd
    replace hd:=af hd
    obtain⟨hd2,hd⟩:=hd
    cases hd
    simp only[NX,O1]at hd2
    obtain⟨hz,ht⟩:=hd2
    obtain⟨xs,m,hm,_,hl,hxl,az⟩:=DataW.trod_array hu h
    cases hm
    obtain⟨scs,h2,h3⟩:=rj (dd:=dd) (fun cs x h1=>ih e cs x dd ee h1 hd1) hz cs k 0 (fun i _ hi=>⟨xs[i]'(by omega),by rw[az i (by omega)];simp⟩)
    have hfl:(List.replicate k ee).flatten.length=k*ee.length:=by simp
    rw[Qo,P8,OR (by omega)]at h2
    exact⟨scs,h2,h3⟩
   ·cases hd
def rm(d:Bool×List DT)(x:SV):Prop:=match d.1 with
 |true=>∃cs,x=.agg cs∧c9 d.2 cs
 |false=>∃e,d.2=[e]∧Fits e x
def yv(P:Program)(t:TypeId):Option (Bool×List DT):=match gZ P t,iZ P 8 t with
 |some ag,some es=>some (ag,es)
 |_,_=>none
theorem sF{r:Reach}{base:Nat}{t:TypeId}{v:Value}(h:Value.okWide P w r base t v)(hag:gZ P t=some true):∃cs,v=.agg cs:=by
 unfold Value.okWide at h
 unfold gZ at hag
 split at h
 ·obtain⟨cs,h,_⟩:=h;exact⟨cs,h⟩
 ·obtain⟨cs,h,_⟩:=h;exact⟨cs,h⟩
 ·rename_i h1 h2
  split at hag
  ·rename_i fs hu;exact absurd hu (h1 fs)
  ·rename_i n e hu;exact absurd hu (h2 n e)
  ·cases hag
  ·cases hag
theorem sg{r:Reach}{base:Nat}{t:TypeId}{v:Value}{es:List DT}(h:Value.okWide P w r base t v)(hag:gZ P t=some false)(hd:iZ P 8 t=some es):ig v=true∧es.length=1:=by
 unfold iZ at hd
 unfold Value.okWide at h
 split at hd
 ·rename_i hu
  simp only[hu,Cell.okWide,Cell.ok]at h
  cases hd
  cases v<;>simp_all [ig]
 ·rename_i k hu
  simp only[hu,Cell.okWide,Cell.ok]at h
  cases hd
  cases v<;>simp_all [ig]
 ·rename_i hu
  simp only[hu,Cell.okWide,Cell.ok]at h
  cases hd
  cases v<;>simp_all [ig]
 ·rename_i e hu
  simp only[hu,Cell.okWide,Cell.ok]at h
  simp only[NS]at hd
  obtain⟨ee,_,hd⟩:=hd
  replace hd:=af hd
  cases hd.2
  cases v<;>simp_all [ig]
 ·rename_i fs hu;simp[gZ,hu]at hag
 ·rename_i k e hu;simp[gZ,hu]at hag
 ·cases hd
theorem A9{r:Reach}{base:Nat}{t:TypeId}{v:Value}{d:DataW H}{ps:List MemPlace}{a:Bool×List DT}(h:DataW.Trod enc P w 0 spare held t v d ps)(hok:Value.okWide P w r base t v)(ha:yv P t=some a) :
 ∃x,VR w (· <w.heap.size) cO x v∧rm a x:=by
 unfold yv at ha
 split at ha
 rotate_left
 ·cases ha
 rename_i ag es hag hd
 cases ha
 obtain⟨n,hn⟩:=h
 obtain⟨scs,h1,h2⟩:=yb n t _ _ 8 es hn hd
 cases ag with
 |true=>
  obtain⟨cs,rfl⟩:=sF hok hag
  refine⟨.agg scs,.agg (by simpa[Value.cells]using h1.1) (fun j c hc=>?_) (fun j c v hc hv=>(h1.2 j c v hc (by simpa[Value.cells]using hv)).1),scs,rfl,h2⟩
  have hlt:=(NT.1 hc).1
  have hl:=h1.1
  simp only[Value.cells,P0]at hl
  exact(h1.2 j c cs[j] hc (by simp[Value.cells])).2
 |false=>
  obtain⟨h3,h4⟩:=sg hok hag hd
  have hc:v.cells= #[v]:=by cases v<;>simp_all [Value.cells,ig]
  rw[hc]at h1
  obtain⟨c,rfl⟩:∃c,scs=[c]:=Qh.1 (by simpa using h1.1)
  obtain⟨e,rfl⟩:∃e,es=[e]:=Qh.1 h4
  exact⟨c,(h1.2 0 c v rfl rfl).1,e,rfl,h2.2 0 e c rfl rfl⟩
def jv(as1:List (Bool×List DT))(xs:List SV):Prop:=xs.length=as1.length∧∀(j:Nat) a x,as1[j]?=some a→xs[j]?=some x→rm a x
theorem tg{r:Reach}{base:Nat}:∀(ts:List TypeId) (vs:List Value) (ds:List (DataW H)) (ps:List MemPlace) (as1:List (Bool×List DT)),DataW.TrodAll enc P w 0 spare held ts vs ds ps→ts.map (yv P)=as1.map some→
 (∀(j:Nat) t v,ts[j]?=some t→vs[j]?=some v→Value.okWide P w r base t v)→∃xs:List SV,xs.length=vs.length∧(∀(j:Nat) c v,xs[j]?=some c→vs[j]?=some v→VR w (· <w.heap.size) cO c v)∧jv as1 xs∧ds.length=ts.length
 |[],[],[],ps,as1,h,ha,_=>by
  have:as1=[]:=by simpa using ha.symm
  subst this
  exact⟨[],rfl,by simp,⟨rfl,by simp⟩,rfl⟩
 |t::ts,v::vs,d::ds,ps,as1,h,ha,hok=>by
  obtain⟨p,q,h1,h2,_⟩:=h
  cases as1 with
  |nil=>simp at ha
  |cons a as1=>
   simp only[Ov,Q8]at ha
   obtain⟨x,k1,k2⟩:=A9 h1 (hok 0 t v rfl rfl) ha.1
   obtain⟨xs,k3,k4,k5,k6⟩:=tg ts vs ds q as1 h2 ha.2 (fun j t v ht hv=>hok (j+1) t v ht hv)
   refine⟨x::xs,by simp[k3],fun j c v hc hv=>?_,⟨by simp[k5.1],fun j a x ha hx=>?_⟩,by simp[k6]⟩
   ·cases j with
    |zero=>simp at hc hv;subst hc;subst hv;exact k1
    |succ j=>exact k4 j c v (by simpa using hc) (by simpa using hv)
   ·cases j with
    |zero=>simp at ha hx;subst ha;subst hx;exact k2
    |succ j=>exact k5.2 j a x (by simpa using ha) (by simpa using hx)
 |[],_::_,_,_,_,h,_,_=>by simp[DataW.TrodAll]at h
 |[],[],_::_,_,_,h,_,_=>by simp[DataW.TrodAll]at h
 |_::_,[],_,_,_,h,_,_=>by simp[DataW.TrodAll]at h
 |_::_,_::_,[],_,_,h,_,_=>by simp[DataW.TrodAll]at h
end
end
section
section
variable{H:Type}{enc:TypeId×Value→H}{P:Program}{w w':World}
theorem jM{base:Nat}{spare:Nat→Bool}{held:Bool}:∀{ts:List TypeId} {vs:List Value} {ds:List (DataW H)} {ps:List MemPlace},DataW.TrodAll enc P w base spare held ts vs ds ps→(∀p∈ps,w.sameAt w' p)→DataW.TrodAll enc P w' base spare held ts vs ds ps
 |[],[],[],_,h,_=>h
 |_::_,_::_,_::_,_,⟨p,q,⟨n,h1⟩,h2,e⟩,hs=>⟨p,q,⟨n,DataW.trod_carry n _ _ _ h1 (fun x hx=>hs x (by rw[e];exact Pj _ hx))⟩,jM h2 (fun x hx=>hs x (by rw[e];exact P6 _ hx)),e⟩
 |[],_::_,_,_,h,_=>by simp[DataW.TrodAll]at h
 |[],[],_::_,_,h,_=>by simp[DataW.TrodAll]at h
 |_::_,[],_,_,h,_=>by simp[DataW.TrodAll]at h
 |_::_,_::_,[],_,h,_=>by simp[DataW.TrodAll]at h
theorem uE(hh:∀B,B<w.heap.size→w'.heap[B]?=w.heap[B]?){p:MemPlace}(hp:p.block<w.heap.size):w.sameAt w' p:=by
 cases p with
 |cell b off=>simp only[World.sameAt,World.cell?,hh b hp]
 |map b=>exact hh b hp
theorem zi(hh:∀B,B<w.heap.size→w'.heap[B]?=w.heap[B]?)(ho:w'.os=w.os∧w'.output=w.output)(may:MemPlace→Prop):w.keptBut w' may:=by
 refine⟨ho.1,ho.2,fun i hi=>?_⟩
 rw[hh i hi]
 cases hq:w.heap[i]? with
 |none=>simp
 |some o=>cases o<;>simp
end
theorem qj{Ck:Checked}(cU:vg)(hext:nw ⟨Ck.prog,cU⟩){os:Os}{f:FuncId}{fn:Func}{s:ChangeSpec}{conds:List PathCond}{apart fresh handsOn:Bool}{ads:List (Bool×List DT)}{tb:TypeId}{H:Type}{enc:TypeId×Value→H}
 (own:ownKnob Ck.prog.godebug=none) (started:os.Started) (noInit:Ck.prog.inits.idxOf? f=none) (hfn:Ck.prog.funcs[f]?=some fn)
 (witness:∃(w:World) (tape:Tape) (i:Input),w.os=os∧(w.forCall tape i).Shaped Ck.prog∧i.vars=[]∧Input.okWide Ck.prog (w.forCall tape i) .any w.heap.size f i∧
  s.pre6 enc Ck.prog fn conds apart (w.forCall tape i).memory i.args∧({}:Assume).holds Ck.prog (lone (Frame.enter Ck.prog f i.args .normal) [] (w.forCall tape i)))
 (hmix:Ck.prog.follows .mixedOrders=true) (hlaid:laidOutB Ck.prog=true) (hmaps:mapsRowed Ck.prog=true)
 (hfull:((List.range Ck.prog.types.size).all fun t=>match Ck.prog.underlying t with|some (.slice e)=>decide (0<Ck.prog.cellsOf e)|_=>true)=true)
 (hpar:∀t∈fn.params.toList,t<Ck.prog.types.size)
 (hargs:fn.params.toList.map (yv Ck.prog)=ads.map some) (hres:fn.resultTypes= #[tb]) (hb:Ck.prog.underlying tb=some .bool) (hvars:s.vars=[])
 (hspec:∀(H:Type) (ds:List (DataW H)),ds.length=fn.params.toList.length→s.fn H ds={results:=[.lit (.bool true)],args:=ds})
 (hlaw:∀xs,jv ads xs→∃m,ab (se Ck.prog cU) m (.fn f) xs av=some (.bool true,av)) :
 ReturnsInHanded {} Ck os f .any (s.pre6 enc Ck.prog fn conds apart) (s.post enc Ck.prog fn apart fresh handsOn false):=by
 refine returnsInHanded_of_change own started noInit hfn witness ?_
 intro W base args ds gs before hval hW hcnd _
 have hW':=hW
 obtain⟨p,q,hA,hV,rfl,hfz,hnd⟩:=hW
 rw[hvars]at hV
 have hgs:gs=[]∧q=[]:=by
  cases gs with
  |nil=>exact⟨rfl,hV⟩
  |cons g gs=>simp[DataW.TrodVars]at hV
 obtain⟨rfl,rfl⟩:=hgs
 obtain⟨xs,h1,h2,h3,h4⟩:=tg (spare:=fun _=>true) (held:=true) fn.params.toList args.toList ds p ads hA hargs (fun j t v ht hv=>hval j t v (by simpa using ht) (by simpa using hv))
 obtain⟨m,hm⟩:=hlaw xs h3
 have hHR:HR ⟨Ck.prog,cU⟩ cO (· <W.heap.size) av W:=⟨(fun b l h=>by cases h),(fun b x h=>by simp[av]at h),(fun b b' l l' h=>by cases h.2.1),(fun b l h=>by cases h.2.1),fun B hB=>hB⟩
 have hcall:=((pk (C:=⟨Ck.prog,cU⟩) hmix hext (fun _ _ h=>h) m).call f xs av (.bool true) av hm cO (· <W.heap.size) W args hHR ⟨by simpa using h1,fun j c v hc hv=>h2 j c v hc (by simpa using hv)⟩).2 0
 refine(callsIn_wide.1 hcall).mono (fun e W' he=>?_)
 obtain⟨val,rfl,ρ',F',d1,d2,d3⟩:=he
 have hv:=dC d1
 subst hv
 have hno:∀b l,¬Own cO av b l:=fun b l h=>by cases h.2.1
 have hh:∀B,B<W.heap.size→W'.heap[B]?=W.heap[B]?:=fun B hB=>d3.frame B hB (fun b l ho=>absurd ho (hno b l))
 have hlt:∀x∈p,x.block<W.heap.size:=fun x hx=>hW'.lt x (by simpa using hx)
 refine⟨_,rfl,ds,[],p++[],[],p,[],hW',?_,?_,?_,zi hh d3.out _,fun h=>by cases h⟩
 ·rw[hres,hspec H (ds++[]) (by simpa using h4)]
  simp only[List.size_toArray,Og,Oc,Value.resultList]
  exact⟨[],[],RowKit.shut_bool hb true,rfl,rfl⟩
 ·rw[hspec H (ds++[]) (by simpa using h4)]
  simp only[OS]
  refine jM ?_ (fun x hx=>uE hh (hlt x hx))
  exact DataW.TrodAll.respare (kids_rows hlaid hmaps) (fun t e ht hu=>slices_full_of Ck.prog hfull t e ht hu) hpar hA (fun x hx=>by simpa using hlt x hx)
 ·rw[hspec H (ds++[]) (by simpa using h4),hvars]
  rfl
end
end Go.Sh
