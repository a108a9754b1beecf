/- A part of the proof: texts ShEw, ShIn, ShLaw, ShFu, ShLp, ShStd, ShAb. -/
import Derived.OpenShut
import Derived.WalkKit
import Derived.ProofKit
import Derived.ReadAgain
import Derived.Handed
import Derived.JoinedOf
import Derived.Test.YtcfgikdpokjhpaaGreatB2
namespace Go.Sh
set_option linter.unusedSectionVars false
set_option linter.unnecessarySimpa false
set_option linter.unusedSimpArgs false
set_option linter.unusedVariables false
set_option maxRecDepth 100000
set_option maxHeartbeats 4000000
section
section
variable(rec:Rec)(e:Env)(H:ab)
@[go_sem] theorem Ya (x):au rec e H (.dY x)=some (ev e x,H):=Eq.trans rfl rfl
@[go_sem] theorem QN (c a b):au rec e H (.pick c a b)=(ld (ev e c) (ev e a) (ev e b)).map (·,H):=Eq.trans rfl rfl
@[go_sem] theorem X8 (x):au rec e H (.box x)=(cq (ev e x)).map fun cs=>(.ptr H.bl.length 0 0 0,bJ H (.box cs)):=Eq.trans rfl rfl
@[go_sem] theorem Lx (z):au rec e H (.alloc z)=some (.ptr H.bl.length 0 0 0,bJ H (.box z)):=Eq.trans rfl rfl
@[go_sem] theorem Ql (z ps):au rec e H (.build z ps)=(ir (ev e) z ps).map (.agg ·,H):=Eq.trans rfl rfl
@[go_sem] theorem KR (bP z n ps):au rec e H (.gl bP z n ps)=(fc (ev e) bP (List.replicate n z) ps).map fun L=>(.bn H.bl.length 0 0 n,bJ H (.arr 0 bP L true)):=Eq.trans rfl rfl
@[go_sem] theorem LL (bP z n ps):au rec e H (.dT bP z n ps)=aN (fc (ev e) bP (List.replicate n z) ps) (fun L=>bif SV.refs.av L.flatten==0 then some (.ao bP L true,H)else none) ():=by
  simp only[au,cb]
  cases fc (ev e) bP (List.replicate n z) ps with
  |none=>rfl
  |some L=>simp only[adq,aN];cases(SV.refs.av L.flatten==0)<;>rfl
@[go_sem] theorem RW (ag n a):au rec e H (.load ag n a)=(dg ag n H (ev e a)).map (·,H):=Eq.trans rfl rfl
@[go_sem] theorem Qe (n a x):au rec e H (.store n a x)=(ej n H (ev e x) (ev e a)).map (.undef,·):=Eq.trans rfl rfl
@[go_sem] theorem K9 (x):au rec e H (.eh x)=bif cur H (ev e x)then(lZ (ev e x)).map (·,H)else none:=Eq.trans rfl rfl
@[go_sem] theorem VS (op x y):au rec e H (.bin op x y)=(cW op (ev e x) (ev e y)).map (·,H):=Eq.trans rfl rfl
@[go_sem] theorem Q1 (op x y):au rec e H (.rF op x y)=(mH op (ev e x) (ev e y)).map (·,H):=Eq.trans rfl rfl
def y5(neg:Bool)(sh:List LK)(H:ab):SV→SV→Option (SV×ab)
 | .agg a,.agg b=>(bz sh a b).map fun r=>(.bool (neg ^^ r),H)
 |_,_=>none
@[go_sem] theorem OY (neg sh x y):au rec e H (.dU neg sh x y)=y5 neg sh H (ev e x) (ev e y):=by
  simp only[au,cb,y5]
  split<;>simp_all
@[go_sem] theorem JQ (neg sh a b):y5 neg sh H (.agg a) (.agg b)=(bz sh a b).map fun r=>(.bool (neg ^^ r),H):=Eq.trans rfl rfl
def EX(H:ab):SV→Option (SV×ab)
 | .bool b=>some (.bool (!b),H)
 |_=>none
@[go_sem] theorem QM (x):au rec e H (.dI x)=EX H (ev e x):=by simp only[au,cb,EX];split<;>simp_all
@[go_sem] theorem Ko (b):EX H (.bool b)=some (.bool (!b),H):=Eq.trans rfl rfl
def Ep(H:ab):SV→Option (SV×ab)
 | .int k n=>some (.int k (k.wrap (0-n)),H)
 |_=>none
@[go_sem] theorem QR (x):au rec e H (.vt x)=Ep H (ev e x):=by simp only[au,cb,Ep];split<;>simp_all
@[go_sem] theorem Lh (k n):Ep H (.int k n)=some (.int k (k.wrap (0-n)),H):=Eq.trans rfl rfl
def yh(k:IntKind)(H:ab):SV→Option (SV×ab)
 | .int _ n=>some (.int k (k.wrap n),H)
 |_=>none
@[go_sem] theorem NB (k x):au rec e H (.cB k x)=yh k H (ev e x):=by simp only[au,cb,yh];split<;>simp_all
@[go_sem] theorem Km (k k2 n):yh k H (.int k2 n)=some (.int k (k.wrap n),H):=Eq.trans rfl rfl
@[go_sem] theorem Re (f cs):au rec e H (.iL f cs)=some (.fn f (cs.map (ev e)),H):=Eq.trans rfl rfl
@[go_sem] theorem Qy (f cs):au rec e H (.mB f cs)=some (.pO f (cs.map (ev e)),H):=Eq.trans rfl rfl
@[go_sem] theorem IA (bP z bytes l c):au rec e H (.eO bP z bytes l c)=kK bP z bytes H (ev e l) (ev e c):=Eq.trans rfl rfl
@[go_sem] theorem Ll (bP x lo hi mx):au rec e H (.eV bP x lo hi mx)=bif ew H bP (ev e x)then((lj (ev e x) (lo.map (ev e)) (hi.map (ev e)) (mx.map (ev e))).orElse fun _=>gr H (ev e x) (lo.map (ev e)) (hi.map (ev e)) (mx.map (ev e))).map (·,H)else none:=Eq.trans rfl rfl
@[go_sem] theorem Mz (off x):au rec e H (.af off x)=bif cur H (ev e x)then(fK off (ev e x)).map (·,H)else none:=Eq.trans rfl rfl
def yJ(ag:Bool)(n off:Nat)(H:ab):SV→Option (SV×ab)
 | .agg cs=>(dc ag n cs off).map (·,H)
 |_=>none
@[go_sem] theorem O7 (ag n off x):au rec e H (.field ag n off x)=yJ ag n off H (ev e x):=by simp only[au,cb,yJ];split<;>simp_all
@[go_sem] theorem JK (ag n off cs):yJ ag n off H (.agg cs)=(dc ag n cs off).map (·,H):=Eq.trans rfl rfl
@[go_sem] theorem Lf (bP x ix):au rec e H (.bw bP x ix)=bif ew H bP (ev e x)then(ja (ev e x) (ev e ix)).map (·,H)else none:=Eq.trans rfl rfl
@[go_sem] theorem Ku (len bP x ix):au rec e H (.gP len bP x ix)=bif cur H (ev e x)then(jG len (ev e ix)).bind fun i=>(fK (i*bP) (ev e x)).map (·,H)else none:=Eq.trans rfl rfl
def CR(i:Nat)(H:ab):SV→Option (SV×ab)
 | .bc vs=>(vs[i]?).map (·,H)
 |_=>none
@[go_sem] theorem Ju (x i):au rec e H (.extract x i)=CR i H (ev e x):=by simp only[au,cb,CR];split<;>simp_all
@[go_sem] theorem Le (i vs):CR i H (.bc vs)=(vs[i]?).map (·,H):=Eq.trans rfl rfl
@[go_sem] theorem XH (x):au rec e H (.len x)=bif cur H (ev e x)then(pY (ev e x)).map fun(n:Nat)=>(.int .i64 n,H)else none:=Eq.trans rfl rfl
def u9(H:ab)(ix:SV):SV→Option (SV×ab)
 | .str s=>(jG s.size ix).bind fun i=>(s.data[i]?).map fun b=>(.int .u8 b.toNat,H)
 |_=>none
@[go_sem] theorem KY (x ix):au rec e H (.gk x ix)=u9 H (ev e ix) (ev e x):=by simp only[au,cb,u9];split<;>simp_all
@[go_sem] theorem Ia (ix s):u9 H ix (.str s)=(jG s.size ix).bind fun i=>(s.data[i]?).map fun b=>(.int .u8 b.toNat,H):=Eq.trans rfl rfl
@[go_sem] theorem Kw (x):au rec e H (.jM x)=(nq 1 H (ev e x)).bind fun L=>(toBytes L).map fun l=>(.str ⟨l.toArray⟩,H):=Eq.trans rfl rfl
def DY(H:ab):SV→Option (SV×ab)
 | .str s=>some (.int .i64 s.size,H)
 |_=>none
@[go_sem] theorem Rp (x):au rec e H (.fO x)=DY H (ev e x):=by simp only[au,cb,DY];split<;>simp_all
@[go_sem] theorem KF (s):DY H (.str s)=some (.int .i64 s.size,H):=Eq.trans rfl rfl
theorem J1:(fun a b:Int=>if b>a then b else a)=max:=by funext a b;simp only[Int.max_def];split<;>split<;>omega
theorem Kf:(fun a b:Int=>if b<a then b else a)=min:=by funext a b;simp only[Int.min_def];split<;>split<;>omega
@[go_sem] theorem R1 (xs):au rec e H (.jb xs)=(kV max (xs.map (ev e))).map (·,H):=by rw[←J1];rfl
@[go_sem] theorem R7 (xs):au rec e H (.mh xs)=(kV min (xs.map (ev e))).map (·,H):=by rw[←Kf];rfl
@[go_sem] theorem Nb (f xs):au rec e H (.lu f xs)=aN (bR ((xs.map (ev e)).map (ez 0 H cG))) (fun vs=>aN (rec (.fn f) vs ⟨[],[],0⟩) (fun r=>bif zn r.1 then some (r.1,H)else none) ()) ():=by
  simp only[au,sX]
  cases bR ((xs.map (ev e)).map (ez 0 H cG))with
  |none=>rfl
  |some vs=>simp only[adq,aN];cases rec (.fn f) vs ⟨[],[],0⟩<;>rfl
@[go_sem] theorem Vz (vs):zn (.bc vs)=vs.all kg:=Eq.trans rfl rfl
@[go_sem] theorem Sb (k n):kg (.int k n)=true:=Eq.trans rfl rfl
@[go_sem] theorem O1 (b):kg (.bool b)=true:=Eq.trans rfl rfl
@[go_sem] theorem O2 (f n xs):au rec e H (.eL f n xs)=rec (.se f) (xs.map (ev e)) H:=Eq.trans rfl rfl
@[go_sem] theorem R6 (b v off n lo hi):lj (.bn b v off n) lo hi none=(fC n n hi).bind fun h=>(fC h 0 lo).map fun l=>.bn b v (off+l) (h-l):=Eq.trans rfl rfl
@[go_sem] theorem or_some {A:Type}(x:A)(f:Unit→Option A):(some x).orElse f=some x:=Eq.trans rfl rfl
def UY(off b v:Nat)(hv:SV)(lo:Option SV):Option aC→Option SV
 |some (.arr _ _ L _)=>(vJ (L.length-off) hv).bind fun h=>(fC h 0 lo).map fun l=>.bn b v (off+l) (h-l)
 |_=>none
@[go_sem] theorem Rg (H b v off n lo hv):gr H (.bn b v off n) lo (some hv) none=UY off b v hv lo (bk H b):=by
  simp only[gr,UY]
  cases bk H b with
  |none=>rfl
  |some y=>cases y<;>rfl
@[go_sem] theorem Sa (off b v hv lo v' z L e):UY off b v hv lo (some (.arr v' z L e))=(vJ (L.length-off) hv).bind fun h=>(fC h 0 lo).map fun l=>.bn b v (off+l) (h-l):=Eq.trans rfl rfl
@[go_sem] theorem RE (y k i):vJ y (.int k i)=bif decide (0≤i)&&decide (i≤(y:Int))then some i.toNat else none:=Eq.trans rfl rfl
@[go_sem] theorem RI (z L f lo hi):lj (.ao z L f) lo hi none=(fC L.length L.length hi).bind fun h=>(fC h 0 lo).map fun l=>.ao z ((L.take h).drop l) (f&&h==L.length):=Eq.trans rfl rfl
@[go_sem] theorem Q5 (y d):fC y d none=some d:=Eq.trans rfl rfl
@[go_sem] theorem Wf (y d k i):fC y d (some (.int k i))=bif decide (0≤i)&&decide (i≤(y:Int))then some i.toNat else none:=Eq.trans rfl rfl
@[go_sem] theorem Ms (k neg x):au rec e H (.isNil k neg x)=(gg H k (ev e x)).map fun b=>(.bool (neg ^^ b),H):=Eq.trans rfl rfl
@[go_sem] theorem Md (bP z x):au rec e H (.clear bP z x)=oJ bP z H (ev e x):=Eq.trans rfl rfl
@[go_sem] theorem Ua (b v i o):gg H .p (.ptr b v i o)=bif cur H (.ptr b v i o)then some false else none:=Eq.trans rfl rfl
@[go_sem] theorem V5 (z L f):AT H (.ao z L f)=some L.isEmpty:=Eq.trans rfl rfl
@[go_sem] theorem La (bP bytes s x):au rec e H (.append bP bytes s x)=(nq bP H (ev e x)).bind (gZ bP bytes H (ev e s)):=Eq.trans rfl rfl
@[go_sem] theorem QQ (f xs):au rec e H (.call f xs)=kY rec (ev e f) (xs.map (ev e)) H:=Eq.trans rfl rfl
@[go_sem] theorem YJ (f cs xs):kY rec (.fn f cs) xs H=rec (.fn f) (xs++cs) H:=Eq.trans rfl rfl
@[go_sem] theorem Va (f cs xs):kY rec (.pO f cs) xs H=rec (.fn f) (cs++xs) H:=Eq.trans rfl rfl
@[go_sem] theorem TL (b xs):kY rec (.fP b) xs H=rec (.fP b) xs H:=Eq.trans rfl rfl
@[go_sem] theorem Yt (f cs xs):pI rec (.fn f cs) xs H=rec (.fn f) (xs++cs) H:=Eq.trans rfl rfl
end
section
variable(k:IntKind)(a b:Int)
@[go_sem] theorem TS:cW .add (.int k a) (.int k b)=some (.int k (k.wrap (a+b))):=by simp[cW]
@[go_sem] theorem V9:cW .sub (.int k a) (.int k b)=some (.int k (k.wrap (a-b))):=by simp[cW]
@[go_sem] theorem WB:cW .mul (.int k a) (.int k b)=some (.int k (k.wrap (a*b))):=by simp[cW]
@[go_sem] theorem Ym:cW .quo (.int k a) (.int k b)=bif !decide (b=0)then some (.int k (k.wrap (a.tdiv b)))else none:=by simp[cW]
@[go_sem] theorem UQ:cW .rem (.int k a) (.int k b)=bif !decide (b=0)then some (.int k (a.tmod b))else none:=by simp[cW]
@[go_sem] theorem Xz:cW .lss (.int k a) (.int k b)=some (.bool (decide (a<b))):=by simp[cW]
@[go_sem] theorem Ug:cW .leq (.int k a) (.int k b)=some (.bool (decide (a≤b))):=by simp[cW]
@[go_sem] theorem Ve:cW .gtr (.int k a) (.int k b)=some (.bool (decide (b<a))):=by simp[cW]
@[go_sem] theorem UO:cW .geq (.int k a) (.int k b)=some (.bool (decide (b≤a))):=by simp[cW]
@[go_sem] theorem TW:cW .eql (.int k a) (.int k b)=some (.bool (decide (a=b))):=by simp[cW]
@[go_sem] theorem Xw:cW .neq (.int k a) (.int k b)=some (.bool (!decide (a=b))):=by simp[cW]
@[go_sem] theorem WI:cW .and (.int k a) (.int k b)=some (.int k (k.wrap ((BitVec.ofInt k.bits a&&&BitVec.ofInt k.bits b).toNat))):=by simp[cW]
@[go_sem] theorem Yq:cW .or (.int k a) (.int k b)=some (.int k (k.wrap ((BitVec.ofInt k.bits a|||BitVec.ofInt k.bits b).toNat))):=by simp[cW]
@[go_sem] theorem Ti (k2):cW .shl (.int k a) (.int k2 b)=bif decide (0≤b)then some (.int k (k.wrap (a*2 ^ (min b.toNat k.bits))))else none:=by simp[cW]
@[go_sem] theorem WU (k2):cW .shr (.int k a) (.int k2 b)=bif decide (0≤b)then some (.int k (a.fdiv (2 ^ (min b.toNat k.bits))))else none:=by simp[cW]
@[go_sem] theorem QG (a b:Bool):mH .eql (.bool a) (.bool b)=some (.bool (a==b)):=by simp[mH]
@[go_sem] theorem QZ (a b:Bool):mH .neq (.bool a) (.bool b)=some (.bool (!(a==b))):=by simp[mH]
@[go_sem] theorem Lj (c a b:Bool):ld (.bool c) (.bool a) (.bool b)=some (.bool (bif c then a else b)):=by simp[ld]
@[go_sem] theorem Nz (x):ld (.bool false) .jy x=some x:=by cases x<;>simp[ld]
@[go_sem] theorem KK (x):ld (.bool true) x .jy=some x:=by cases x<;>simp[ld]
@[go_sem] theorem Vq:bz [] [] []=some true:=by simp[bz]
@[go_sem] theorem abt (sh x y):bz (.i::sh) (.int k a::x) (.int k b::y)=(bz sh x y).map (fun r=>decide (a=b)&&r):=by simp[bz]
@[go_sem] theorem Z6 (sh x y)(a b:Bool):bz (.b::sh) (.bool a::x) (.bool b::y)=(bz sh x y).map (fun r=>(a==b)&&r):=by simp[bz]
@[go_sem] theorem abo (sh x y)(a b:ByteArray):bz (.s::sh) (.str a::x) (.str b::y)=(bz sh x y).map (fun r=>decide (a=b)&&r):=by simp[bz]
@[go_sem] theorem Tv (cs):cq (.agg cs)=some cs:=by simp[cq]
@[go_sem] theorem Vf:cq (.int k a)=some [.int k a]:=by simp[cq,SV.je]
@[go_sem] theorem Sk (b):cq (.bool b)=some [.bool b]:=by simp[cq,SV.je]
@[go_sem] theorem Vo (b):cq (.str b)=some [.str b]:=by simp[cq,SV.je]
@[go_sem] theorem TO (z L f):cq (.ao z L f)=some [.ao z L f]:=by simp[cq,SV.je]
@[go_sem] theorem SY (b v o n):cq (.bn b v o n)=some [.bn b v o n]:=by simp[cq,SV.je]
@[go_sem] theorem XX (b v o n):cq (.ptr b v o n)=some [.ptr b v o n]:=by simp[cq,SV.je]
@[go_sem] theorem Y6 (f cs):cq (.fn f cs)=some [.fn f cs]:=by simp[cq,SV.je]
@[go_sem] theorem U0 (n cs o):dc false n cs o=cs[o]?:=by simp[dc]
@[go_sem] theorem WM (n cs o):dc true n cs o=bif decide (o+n≤cs.length)then some (.agg ((cs.drop o).take n))else none:=by simp[dc]
@[go_sem] theorem Vc (ev z):ir ev z []=some z:=by simp[ir]
@[go_sem] theorem Rd (ev z off n x ps):ir ev z ((off,n,x)::ps)=(cq (ev x)).bind fun cs=>bif cs.length==n&&decide (off+n≤z.length)then ir ev (fJ z off n cs) ps else none:=by simp[ir]
@[go_sem] theorem UT (ev bP z):fc ev bP z []=some z:=by simp[fc]
@[go_sem] theorem QV (ev bP z i x ps):fc ev bP z ((i,x)::ps)=(cq (ev x)).bind fun cs=>bif cs.length==bP&&decide (i<z.length)then fc ev bP (z.set i cs) ps else none:=by simp[fc]
attribute [go_sem] fJ
@[go_sem] theorem QT (f:Int→Int→Int)(r):kV f (.int k a::r)=foldI f a k r:=by simp[kV]
@[go_sem] theorem U8 (f:Int→Int→Int):foldI f a k []=some (.int k a):=by simp[foldI]
@[go_sem] theorem RL (f:Int→Int→Int)(r):foldI f a k (.int k b::r)=foldI f (f a b) k r:=by simp[foldI]
@[go_sem] theorem WJ (z L f):pY (.ao z L f)=some L.length:=by simp[pY]
@[go_sem] theorem Vx (b v o n):pY (.bn b v o n)=some n:=by simp[pY]
@[go_sem] theorem S9 (H z L f):cur H (.ao z L f)=true:=by simp[cur]
@[go_sem] theorem RQ (H L):cur H (.fY L)=true:=by simp[cur]
@[go_sem] theorem Uu (H z L f):ew H z (.ao z L f)=true:=by simp[ew]
@[go_sem] theorem Wv (off b v i o):fK off (.ptr b v i o)=some (.ptr b v i (o+off)):=by simp[fK]
@[go_sem] theorem Q0 (off cs):fK off (.fY cs)=some (.fY (cs.drop off)):=by simp[fK]
@[go_sem] theorem RA (ag n H cs):dg ag n H (.fY cs)=dc ag n cs 0:=by simp[dg]
@[go_sem] theorem Vt (b v i o):lZ (.ptr b v i o)=some (.ptr b v i o):=by simp[lZ]
end
def Gz(v:Nat):Option aC→Bool
 |some (.box _)=>true
 |some (.arr v' _ _ _)=>v==v'
 |_=>false
@[go_sem] theorem Wo (H b v i o):cur H (.ptr b v i o)=Gz v (bk H b):=by
  simp only[cur,Gz]
  cases bk H b with
  |none=>rfl
  |some x=>cases x<;>rfl
@[go_sem] theorem O5 (v cs):Gz v (some (.box cs))=true:=Eq.trans rfl rfl
@[go_sem] theorem Mt (v v' z L x):Gz v (some (.arr v' z L x))=(v==v'):=Eq.trans rfl rfl
def IV(v:Nat):Option aC→Bool
 |some (.arr v' _ _ _)=>v==v'
 |_=>false
@[go_sem] theorem Xs (H b v i o):cur H (.bn b v i o)=IV v (bk H b):=by
  simp only[cur,IV]
  cases bk H b with
  |none=>rfl
  |some x=>cases x<;>rfl
@[go_sem] theorem N7 (v v' z L x):IV v (some (.arr v' z L x))=(v==v'):=Eq.trans rfl rfl
def Ff(v z:Nat):Option aC→Bool
 |some (.arr v' z' _ _)=>v==v'&&z'==z
 |_=>false
@[go_sem] theorem Xe (H z b v i o):ew H z (.bn b v i o)=Ff v z (bk H b):=by
  simp only[ew,Ff]
  cases bk H b with
  |none=>rfl
  |some x=>cases x<;>rfl
@[go_sem] theorem K0 (v z v' z' L x):Ff v z (some (.arr v' z' L x))=(v==v'&&z'==z):=Eq.trans rfl rfl
def Ln(ag:Bool)(n v i o:Nat):Option aC→Option SV
 |some (.box cs)=>bif i==0 then dc ag n cs o else none
 |some (.arr v' _ L _)=>bif v==v' then(L[i]?).bind fun cs=>dc ag n cs o else none
 |_=>none
@[go_sem] theorem Xl (ag n H b v i o):dg ag n H (.ptr b v i o)=Ln ag n v i o (bk H b):=by
  simp only[dg,Ln]
  cases bk H b with
  |none=>rfl
  |some x=>
   cases x with
   |arr v' z L ex=>
    cases hv:(v==v')with
    |true=>simp only[hv,acG];cases L[i]?<;>rfl
    |false=>simp only[hv,acJ]
   |_=>rfl
@[go_sem] theorem Rv (ag n v o cs):Ln ag n v 0 o (some (.box cs))=dc ag n cs o:=by simp[Ln]
@[go_sem] theorem Rl (ag n v i o z L x):Ln ag n v i o (some (.arr v z L x))=(L[i]?).bind fun cs=>dc ag n cs o:=by simp[Ln]
def RS(z v off n:Nat):Option aC→Option (List (List SV))
 |some (.arr v' z' L _)=>bif v==v'&&z'==z&&decide (off+n≤L.length)then some ((L.drop off).take n)else none
 |_=>none
@[go_sem] theorem SZ (z H b v off n):nq z H (.bn b v off n)=RS z v off n (bk H b):=by
  simp only[nq,RS]
  cases bk H b with
  |none=>rfl
  |some x=>cases x<;>rfl
@[go_sem] theorem QL (z v off n L x):RS z v off n (some (.arr v z L x))=bif decide (off+n≤L.length)then some ((L.drop off).take n)else none:=by simp[RS]
@[go_sem] theorem Tc (z H L f):nq z H (.ao z L f)=some L:=by simp[nq]
@[go_sem] theorem QO (z z' H f):nq z H (.ao z' [] f)=some []:=by simp[nq]
attribute [go_sem] bk bJ
def QB(bP:Nat)(zv:List SV)(H:ab)(b v off n:Nat):Option aC→Option (SV×ab)
 |some (.arr v' z' L e)=>bif v==v'&&z'==bP&&decide (off+n≤L.length)then
   (ca H b (.arr v z' (L.take off++List.replicate n zv++L.drop (off+n)) e) 0).map fun H=>(.undef,H)else none
 |_=>none
@[go_sem] theorem Tz (bP zv H b v off n):oJ bP zv H (.bn b v off n)=QB bP zv H b v off n (bk H b):=by
  simp only[oJ,QB]
  cases bk H b with
  |none=>rfl
  |some y=>cases y<;>rfl
@[go_sem] theorem QF (bP zv H b v off n L e):QB bP zv H b v off n (some (.arr v bP L e))=bif decide (off+n≤L.length)then
 (ca H b (.arr v bP (L.take off++List.replicate n zv++L.drop (off+n)) e) 0).map fun H=>(.undef,H)else none:=by simp[QB]
def Li(n v i o:Nat)(b:Nat)(H:ab)(xs:List SV)(refs:Nat):Option aC→Option ab
 |some (.box cs)=>bif i==0&&decide (o+n≤cs.length)then ca H b (.box (fJ cs o n xs)) refs else none
 |some (.arr v' z L e)=>bif v==v' then(L[i]?).bind fun cs=>bif decide (o+n≤cs.length)then ca H b (.arr v z (L.set i (fJ cs o n xs)) e) refs else none else none
 |_=>none
@[go_sem] theorem Xb (n H x b v i o):ej n H x (.ptr b v i o)=(cq x).bind fun xs=>bif xs.length==n then Li n v i o b H xs x.refs (bk H b)else none:=by
  simp only[ej,Li]
  congr 1
  funext xs
  cases(xs.length==n)with
  |false=>rfl
  |true=>
   simp only[acG]
   cases bk H b with
   |none=>rfl
   |some y=>
    cases y with
    |arr v' z L ex=>
     cases hv:(v==v')with
     |true=>simp only[hv,acG];cases L[i]?<;>rfl
     |false=>simp only[hv,acJ]
    |_=>rfl
@[go_sem] theorem QI (n v o b H xs r cs):Li n v 0 o b H xs r (some (.box cs))=bif decide (o+n≤cs.length)then ca H b (.box (fJ cs o n xs)) r else none:=by simp[Li]
@[go_sem] theorem Rz (n v i o b H xs r z L e):Li n v i o b H xs r (some (.arr v z L e))=(L[i]?).bind fun cs=>bif decide (o+n≤cs.length)then ca H b (.arr v z (L.set i (fJ cs o n xs)) e) r else none:=by simp[Li]
@[go_sem] theorem Rm (bl bT ro b x r):ca ⟨bl,bT,ro⟩ b x r=bif decide (ro≤b)&&decide (b<bl.length)then some ⟨bl.set b x,bif decide (r≤b+1)then bT else(b,r)::bT,ro⟩else none:=by simp[ca]
@[go_sem] theorem Qs (k n):(SV.int k n).refs=0:=by simp[SV.refs]
@[go_sem] theorem Lm (n):(SV.bool n).refs=0:=by simp[SV.refs]
@[go_sem] theorem ML (n):(SV.str n).refs=0:=by simp[SV.refs]
@[go_sem] theorem Om (z L f):(SV.ao z L f).refs=0:=by simp[SV.refs]
@[go_sem] theorem Lr (b v i o):(SV.ptr b v i o).refs=b+1:=by simp[SV.refs]
@[go_sem] theorem NR (b v i o):(SV.bn b v i o).refs=b+1:=by simp[SV.refs]
@[go_sem] theorem P8 (b):(SV.fP b).refs=b+1:=by simp[SV.refs]
@[go_sem] theorem PA (cs):(SV.agg cs).refs=SV.refs.av cs:=by simp[SV.refs]
@[go_sem] theorem RZ (f cs):(SV.fn f cs).refs=SV.refs.av cs:=by simp[SV.refs]
@[go_sem] theorem Mj (f cs):(SV.pO f cs).refs=SV.refs.av cs:=by simp[SV.refs]
@[go_sem] theorem K7:SV.refs.av []=0:=by simp[SV.refs.av]
@[go_sem] theorem Jd (v vs):SV.refs.av (v::vs)=max v.refs (SV.refs.av vs):=by simp[SV.refs.av]
section
variable{T:FuncId→Option aB}{f:FuncId}{F:aB}{xs:List SV}{n:Nat}{H:ab}
def pZ{R:Type}(rs:List wL)(k:SV→ab→Option R):mA→Env→ab→Option R
 | .exit _,_,_=>none
 |_,e,H=>(results1 e H rs).bind fun v=>k v H
@[go_sem] theorem Pj {R:Type}(rs)(k:SV→ab→Option R)(e H):pZ rs k .ret e H=aN (results1 e H rs) (fun v=>k v H) ():=by
  show(results1 e H rs).bind _=_
  cases results1 e H rs<;>rfl
@[go_sem] theorem HD {R:Type}(rs)(k:SV→ab→Option R)(e H):pZ rs k .normal e H=aN (results1 e H rs) (fun v=>k v H) ():=by
  show(results1 e H rs).bind _=_
  cases results1 e H rs<;>rfl
theorem ae{v:SV}(hT:T f=some F)(hp:eI F xs=true)(h:runK (aa T n) (pZ F.res (fun v H'=>ez 0 H' cG v)) F.body [] (eo xs) ah ()=some v):aa T (n+1) (.fn f) xs H=some (v,H):=by
 have hk:∀k:mA→Env→ab→Option SV,k=pZ F.res (fun v H'=>ez 0 H' cG v)→run (aa T n) F.body (eo xs) ah k ()=some v:=by
  intro k hk
  rw[hk,kP]
  exact h
 simp only[aa,hT,hp,acG]
 rw[hk _ (by funext x e H';cases x<;>rfl)]
 rfl
end
@[go_sem] theorem QC (e H r):results1 e H [r]=dR e H r:=by
  unfold results1
  cases h:dR e H r<;>simp[bR,h]
@[go_sem] theorem QP (e H r s):results1 e H [r,s]=(dR e H r).bind fun a=>(dR e H s).map fun b=>.bc [a,b]:=by
  unfold results1
  cases h:dR e H r<;>cases h':dR e H s<;>simp[bR,h,h']
@[go_sem] theorem AY (e H r s q):results1 e H [r,s,q]=(dR e H r).bind fun a=>(dR e H s).bind fun b=>(dR e H q).map fun c=>.bc [a,b,c]:=by
  unfold results1
  cases h1:dR e H r<;>cases h2:dR e H s<;>cases h3:dR e H q<;>simp[bR,h1,h2,h3]
@[go_sem] theorem Sd (e H):results1 e H []=some (.bc []):=by simp[results1,bR]
@[go_sem] theorem Xx (e H t):dR e H (.tmp t)=some (get e t):=Eq.trans rfl rfl
@[go_sem] theorem RV (e H t ag n):dR e H (.cell t ag n)=dg ag n H (get e t):=Eq.trans rfl rfl
@[go_sem] theorem VJ (N H d k n):ez N H (d+1) (.int k n)=some (.int k n):=by simp[ez]
@[go_sem] theorem QJ (N H d b):ez N H (d+1) (.bool b)=some (.bool b):=by simp[ez]
@[go_sem] theorem V7 (N H d z L f):ez N H (d+1) (.ao z L f)=some (.ao z L f):=by simp[ez]
@[go_sem] theorem UG (N H d s):ez N H (d+1) (.str s)=some (.str s):=by simp[ez,SV.refs]
@[go_sem] theorem UK (N H d cs):ez N H (d+1) (.agg cs)=(bR (cs.map (ez N H d))).map .agg:=by simp[ez]
@[go_sem] theorem VK (N H d cs):ez N H (d+1) (.bc cs)=(bR (cs.map (ez N H d))).map .bc:=by simp[ez]
@[go_sem] theorem UJ {A:Type}:bR ([]:List (Option A))=some []:=Eq.trans rfl rfl
@[go_sem] theorem Sj {A:Type}(a:A)(r):bR (some a::r)=(bR r).map (a:: ·):=Eq.trans rfl rfl
attribute [go_sem] cG
theorem nh{f:Env×ab→Option Out}:∀(n m:Nat) (s:Env×ab) (o:Out),cP f n s=some o→n≤m→cP f m s=some o
 |0,_,s,o,h,_=>by cases h
 |n+1,0,s,o,h,hm=>by omega
 |n+1,m+1,s,o,h,hm=>by
  have e:∀n,cP f (n+1) s=match f s with|some (.normal,s')=>cP f n s'|r=>r:=fun n=>rfl
  rw[e]at h⊢
  cases hf:f s with
  |none=>rw[hf]at h;exact h
  |some r=>
   obtain⟨x,s'⟩:=r
   rw[hf]at h
   cases x with
   |normal=>exact nh n m s' o h (by omega)
   |exit id=>exact h
   |ret=>exact h
theorem oC{f:Env×ab→Option Out}{s:Env×ab}{o:Out}{n:Nat}(h:cP f n s=some o):kR f s=some o:=by
 unfold kR
 have hex:∃n,(cP f n s).isSome:=⟨n,by simp[h]⟩
 rw[dif_pos hex]
 have h1:=ae2 hex
 generalize Classical.choose hex=m at h1
 obtain⟨o',ho'⟩:=Option.isSome_iff_exists.1 h1
 have h2:=nh _ (max n m) _ _ h (Nat.le_max_left _ _)
 have h3:=nh _ (max n m) _ _ ho' (Nat.le_max_right _ _)
 rw[h2]at h3
 rw[ho',h3]
theorem Gq{R:Type}{f:Env×ab→Option Out}{s:Env×ab}{k:Out→Option R}{t:oH k}{r:Option R}(o:Out)(h:kR f s=some o)(hk:k o=r):aN (kR f s) k t=r:=by
 rw[h];exact hk
theorem hU(p N H0 rec a e H):fo p N H0 rec a (e,H)=aN (eu p N H0 (e,H)) (fun s=>runK rec (fun x e H=>some (x,e,H)) a [] s.1 s.2 ()) ():=by
 unfold fo
 cases eu p N H0 (e,H)<;>rfl
attribute [go_sem] acV acR adu adE adn ada aeK List.getElem?_cons_zero aeE afL List.set_cons_succ
 afI aeV List.take_nil List.drop_succ_cons aev List.drop_nil aek aej afp List.flatten_nil List.isEmpty_nil List.isEmpty_cons
 adm ae0 adq Option.bind_none decide_true aeS aeq ac9 adk ac3 aeT aeM aer ad0 adp adU Bool.not_not
 adL beq_true beq_false ad9 adr Nat.max_self acH aei Nat.sub_zero adl List.drop_length afq List.reverse_nil List.zip_cons_cons List.zip_nil_right
@[go_sem] theorem Mh {R:Type}(b:Bool)(x y:R)(t:oH (x,y)):fork (!b) x y t=fork b y x ():=by cases b<;>rfl
@[go_sem] theorem min_zero (n:Nat):min 0 n=0:=Nat.zero_min n
@[go_sem] theorem HN {A R:Type}(f:A→Option R)(t:oH f):aN none f t=none:=Eq.trans rfl rfl
@[go_sem] theorem KC (N l):cE N [] l=l:=Eq.trans rfl rfl
def bb(n:Int):Int:=IntKind.wrap .i64 n
@[go_sem] theorem P7 (n:Int):IntKind.wrap .i64 n=bb n:=rfl
theorem al{n:Int}(h1: -9223372036854775808≤n)(h2:n≤9223372036854775807):bb n=n:=by
 unfold bb
 simp only[IntKind.wrap,IntKind.bits,IntKind.signed,ac9,ge_iff_le,acr]
 split<;>omega
@[go_sem] theorem Xy (a b):cW .neq (.str a) (.str b)=some (.bool (!decide (a=b))):=Eq.trans rfl rfl
@[go_sem] theorem RT (a b):cW .add (.str a) (.str b)=bif decide (a.size+b.size≤4611686018427387904)then some (.str (a++b))else none:=Eq.trans rfl rfl
attribute [go_sem] ada aeK
section
variable(rec:Rec)(e:Env)(H:ab)
@[go_sem] theorem NV:au rec e H .oD=some (.mp H.bl.length,bJ H (.map [])):=Eq.trans rfl rfl
@[go_sem] theorem RR (t x k v):au rec e H (.nZ t x k v)=qI t H (ev e k) (ev e v) (ev e x):=Eq.trans rfl rfl
@[go_sem] theorem Lq (t ok z x k):au rec e H (.kD t ok z x k)=jR t ok z H (ev e k) (ev e x):=Eq.trans rfl rfl
def Hz(t:LK)(H:ab)(b:Nat)(k v:SV):Option aC→Option (SV×ab)
 |some (.map es)=>bif isKey k&&v.je then(gT t k es 0).bind fun r=>(ca H b (.map (yd k v es r)) v.refs).map (.undef,·)else none
 |_=>none
def oM(t:LK)(ok:Bool)(z:SV)(H:ab)(k:SV):Option aC→Option (SV×ab)
 |some (.map es)=>bif isKey k then(gT t k es 0).map fun r=>(va ok z r,H)else none
 |_=>none
where va (ok:Bool) (z:SV):Option (Nat×SV)→SV
 |some (_,v)=>bif ok then .bc [v,.bool true]else v
 |none=>bif ok then .bc [z,.bool false]else z
@[go_sem] theorem Qz (t k v b):qI t H k v (.mp b)=Hz t H b k v (bk H b):=by
  simp only[qI]
  generalize bk H b=o
  cases o with
  |none=>rfl
  |some x=>cases x<;>rfl
@[go_sem] theorem Lp (t ok z k b):jR t ok z H k (.mp b)=oM t ok z H k (bk H b):=by
  simp only[jR]
  generalize bk H b=o
  cases o with
  |none=>rfl
  |some x=>
   cases x with
   |map es=>
    simp only[oM]
    cases isKey k
    ·rfl
    ·simp only[acG]
     congr 1
   |_=>rfl
@[go_sem] theorem Ld (t b k v es):Hz t H b k v (some (.map es))=bif isKey k&&v.je then(gT t k es 0).bind fun r=>(ca H b (.map (yd k v es r)) v.refs).map (.undef,·)else none:=Eq.trans rfl rfl
@[go_sem] theorem Jc (t ok z k es):oM t ok z H k (some (.map es))=bif isKey k then(gT t k es 0).map fun r=>(oM.va ok z r,H)else none:=Eq.trans rfl rfl
@[go_sem] theorem vY (ok z i v):oM.va ok z (some (i,v))=bif ok then .bc [v,.bool true]else v:=Eq.trans rfl rfl
@[go_sem] theorem xi (ok z):oM.va ok z none=bif ok then .bc [z,.bool false]else z:=Eq.trans rfl rfl
@[go_sem] theorem K6 (t k i):gT t k [] i=some none:=Eq.trans rfl rfl
@[go_sem] theorem qU (t k q v es i):gT t k ((q,v)::es) i=(sH t k q).bind fun b=>bif b then some (some (i,v))else gT t k es (i+1):=Eq.trans rfl rfl
@[go_sem] theorem tI (k a b):sH .i (.int k a) (.int k b)=some (decide (a=b)):=by
  simp only[sH,adL,acG];rfl
@[go_sem] theorem KN (k n):isKey (.int k n)=true:=Eq.trans rfl rfl
@[go_sem] theorem Lg (k v es):yd k v es none=es++[(k,v)]:=Eq.trans rfl rfl
@[go_sem] theorem LR (b):SV.je (.bool b)=true:=Eq.trans rfl rfl
@[go_sem] theorem XN (f cs):SV.je (.fn f cs)=true:=Eq.trans rfl rfl
@[go_sem] theorem Se (f cs):SV.je (.pO f cs)=true:=Eq.trans rfl rfl
end
end
section
inductive DT where
 |bool|int (k:IntKind)|str|ao (es:List DT)
inductive Fits:DT→SV→Prop
 |bool (b:Bool):Fits .bool (.bool b)
 |int (k:IntKind) (n:Int) (h:(Lit.int k n).wf=true):Fits (.int k) (.int k n)
 |str (s:ByteArray) (h:s.size≤maxLen):Fits .str (.str s)
 |ao (es:List DT) (L:List (List SV)) (f:Bool) (hm:L.length≤maxLen) (hl:∀r∈L,r.length=es.length) (h:∀r∈L,∀(j:Nat) d c,es[j]?=some d→r[j]?=some c→Fits d c):Fits (.ao es) (.ao es.length L f)
def cJ(es:List DT)(cs:List SV):Prop:=cs.length=es.length∧∀(j:Nat) d c,es[j]?=some d→cs[j]?=some c→Fits d c
theorem sM:cJ [] []:=⟨rfl,by simp⟩
theorem ov{es es':List DT}{cs cs':List SV}(h:cJ es cs)(h':cJ es' cs'):cJ (es++es') (cs++cs'):=by
 refine⟨by simp[h.1,h'.1],fun j d c hd hc=>?_⟩
 rw[adV]at hd hc
 rw[h.1]at hc
 split at hd
 ·rename_i hlt
  rw[if_pos hlt]at hc
  exact h.2 j d c hd hc
 ·rename_i hlt
  rw[if_neg hlt]at hc
  exact h'.2 _ d c hd hc
theorem nj{d:DT}{es:List DT}{cs:List SV}(h:cJ (d::es) cs):∃c r,cs=c::r∧Fits d c∧cJ es r:=by
 cases cs with
 |nil=>have:=h.1;simp at this
 |cons c r=>exact⟨c,r,rfl,h.2 0 d c rfl rfl,by have:=h.1;simpa using this,fun j d c hd hc=>h.2 (j+1) d c hd hc⟩
theorem cA{cs:List SV}(h:cJ [] cs):cs=[]:=adR h.1
theorem fits_int{k:IntKind}{c:SV}(h:Fits (.int k) c):∃n,c=.int k n∧(Lit.int k n).wf=true:=by cases h;exact⟨_,rfl,by assumption⟩
theorem Cc{c:SV}(h:Fits .str c):∃n,c=.str n∧n.size≤maxLen:=by cases h;exact⟨_,rfl,by assumption⟩
theorem DV{es:List DT}{c:SV}(h:Fits (.ao es) c):∃L f,c=.ao es.length L f∧L.length≤maxLen∧∀r∈L,cJ es r:=by
 cases h with
 |ao _ L f hm hl h=>exact⟨L,f,rfl,hm,fun r hr=>⟨hl r hr,h r hr⟩⟩
section
variable(P:Program)
def lH:Nat→TypeId→Option (List DT)
 |0,_=>none
 |d+1,t=>match P.underlying t with
  |some .bool=>some [.bool]
  |some (.int k)=>some [.int k]
  |some .string=>some [.str]
  |some (.slice e)=>(lH d e).bind fun es=>bif P.cellsOf e==es.length&&!es.isEmpty then some [.ao es]else none
  |some (.struct fs)=>(fs.toList.foldlM (init:=[]) fun acc f=>bif f.offset==acc.length then(lH d f.type).bind fun es=>bif P.cellsOf f.type==es.length then some (acc++es)else none else none).bind fun es=>
    bif P.cellsOf t==es.length then some es else none
  |some (.array n e)=>(lH d e).bind fun es=>bif P.cellsOf e==es.length&&P.cellsOf t==(List.replicate n es).flatten.length then some (List.replicate n es).flatten else none
  |_=>none
end
def nC(w:World)(scs:List SV)(cs:List Value):Prop:=scs.length=cs.length∧∀(j:Nat) c v,scs[j]?=some c→cs[j]?=some v→VR w (· <w.heap.size) dH c v∧c.je=true
theorem nw{w:World}{a b:List SV}{x y:List Value}(h:nC w a x)(h':nC w b y):nC w (a++b) (x++y):=by
 refine⟨by simp[h.1,h'.1],fun j c v hc hv=>?_⟩
 rw[adV]at hc hv
 rw[←h.1]at hv
 split at hc
 ·rename_i hlt
  rw[if_pos hlt]at hv
  exact h.2 j c v hc hv
 ·rename_i hlt
  rw[if_neg hlt]at hv
  exact h'.2 _ c v hc hv
theorem jH{w:World}{c:SV}{v:Value}(h:VR w (· <w.heap.size) dH c v)(h1:c.je=true):nC w [c] [v]:=by
 refine⟨rfl,fun j c' v' hc hv=>?_⟩
 cases j with
 |zero=>simp at hc hv;subst hc;subst hv;exact⟨h,h1⟩
 |succ j=>simp at hc
section
variable{H:Type}{enc:TypeId×Value→H}{P:Program}{w:World}{spare:Nat→Bool}{held:Bool}
def HA(P:Program)(d:Nat)(acc:List DT)(f:Field):Option (List DT):=
 bif f.offset==acc.length then(lH P d f.type).bind fun es=>bif P.cellsOf f.type==es.length then some (acc++es)else none else none
def uT(P:Program)(w:World)(t:TypeId)(es:List DT)(cs:List Value):Prop:=∃scs,nC w scs cs∧cJ es scs
theorem sV{n dd:Nat}(ih:∀(t:TypeId) (cs:List Value) x es,DataW.trod enc P w 0 spare held n t cs=some x→lH P dd t=some es→uT P w t es cs)(cs:List Value):∀(fs:List Field) (acc tot:List DT),
 fs.foldlM (HA P dd) acc=some tot→(∀f∈fs,∃x,DataW.trod enc P w 0 spare held n f.type ((cs.drop f.offset).take (P.cellsOf f.type))=some x)→tot.length≤cs.length→
 ∃rest,tot=acc++rest∧∃scs,nC w scs ((cs.drop acc.length).take rest.length)∧cJ rest scs
 |[],acc,tot,h,_,_=>by
  simp at h;subst h
  exact⟨[],by simp,[],⟨rfl,by simp⟩,sM⟩
 |f::fs,acc,tot,h,hf,hlen=>by
  rw[afU]at h
  simp only[bind,acu]at h
  obtain⟨acc',h1,h2⟩:=h
  unfold HA at h1
  replace h1:=aj h1
  obtain⟨ho,h1⟩:=h1
  simp only[acu]at h1
  obtain⟨es,h3,h1⟩:=h1
  replace h1:=aj h1
  obtain⟨h4,h1⟩:=h1
  cases h1
  have ho:f.offset=acc.length:=by simpa using ho
  have h4:P.cellsOf f.type=es.length:=by simpa using h4
  obtain⟨x,hx⟩:=hf f (by simp)
  obtain⟨s1,k1,k2⟩:=ih f.type _ x es hx h3
  obtain⟨rest,k3,s2,k4,k5⟩:=sV ih cs fs (acc++es) tot h2 (fun g hg=>hf g (by simp[hg])) hlen
  refine⟨es++rest,by rw[k3];simp,s1++s2,?_,ov k2 k5⟩
  rw[ho,h4]at k1
  have:=nw k1 k4
  have e:((cs.drop acc.length).take es.length)++((cs.drop (acc++es).length).take rest.length)=(cs.drop acc.length).take (es++rest).length:=by
   rw[acn,acn,←List.drop_drop,←List.take_add]
  rw[←e];exact this
theorem wy{n dd:Nat}{e:TypeId}{es:List DT}(ih:∀(cs:List Value) x,DataW.trod enc P w 0 spare held n e cs=some x→uT P w e es cs)(hc:P.cellsOf e=es.length)(cs:List Value):∀(m i:Nat),
 (∀k,i≤k→k<i+m→∃x,DataW.trod enc P w 0 spare held n e ((cs.drop (k*P.cellsOf e)).take (P.cellsOf e))=some x)→
 ∃scs,nC w scs ((cs.drop (i*es.length)).take (m*es.length))∧cJ (List.replicate m es).flatten scs
 |0,i,_=>⟨[],⟨by simp,by simp⟩,by simpa using sM⟩
 |m+1,i,h=>by
  obtain⟨x,hx⟩:=h i (by omega) (by omega)
  obtain⟨s1,k1,k2⟩:=ih _ x hx
  obtain⟨s2,k3,k4⟩:=wy (dd:=dd) ih hc cs m (i+1) (fun k h1 h2=>h k (by omega) (by omega))
  refine⟨s1++s2,?_,by rw[aek,afp];exact ov k2 k4⟩
  rw[hc]at k1
  have:=nw k1 k3
  have e:((cs.drop (i*es.length)).take es.length)++((cs.drop ((i+1)*es.length)).take (m*es.length))=(cs.drop (i*es.length)).take ((m+1)*es.length):=by
   rw[adI i 1,aep,←List.drop_drop,adI m 1,aep,afZ (m*es.length),←List.take_add]
  rw[←e];exact this
theorem BK{a:Addr}{n:Nat}{vs:List Value}(h:w.cells? 0 a n=some vs):vs.length=n∧∀j,j<n→w.cell? (a.add j)=vs[j]?:=by
 unfold World.cells? at h
 simp only[aei,if_true]at h
 exact⟨by simpa using mapM_some_length h,fun j hj=>mapM_some_get h j j (by simp[hj])⟩
theorem Jl{a:Addr}{v:Value}(h:w.cell? (a.add 0)=some v):a.spot=none∧a.block<w.heap.size:=by
 have:a.add 0=a:=by simp[Addr.add]
 rw[this]at h
 unfold World.cell? at h
 split at h
 ·rename_i c _ _ hb
  cases hs:a.spot with
  |none=>exact⟨rfl,(ac6.1 hb).1⟩
  |some x=>rw[hs]at h;simp at h
 ·cases h
theorem Gw:∀(n:Nat) (t:TypeId) (cs:List Value) (x:DataW H×List MemPlace) (dd:Nat) (es:List DT),DataW.trod enc P w 0 spare held n t cs=some x→lH P dd t=some es→uT P w t es cs:=by
 intro n
 induction n with
 |zero=>intro t cs x dd es h;simp[DataW.trod]at h
 |succ n ih=>
  intro t cs x dd es h hd
  cases dd with
  |zero=>simp[lH]at hd
  |succ dd=>
   unfold lH at hd
   split at hd
   ·rename_i hu
    cases hd
    obtain⟨b,rfl,_⟩:=DataW.trod_bool hu h
    exact⟨[.bool b],jH (.bool b) rfl,rfl,fun j d c hd hc=>by cases j<;>simp at hd hc;subst hd;subst hc;exact .bool b⟩
   ·rename_i k hu
    cases hd
    obtain⟨b,rfl,_,hw⟩:=DataW.trod_int hu h
    exact⟨[.int k b],jH (.int k b) rfl,rfl,fun j d c hd hc=>by cases j<;>simp at hd hc;subst hd;subst hc;exact .int k b hw⟩
   ·rename_i hu
    cases hd
    obtain⟨b,rfl,_,hw⟩:=DataW.trod_string hu h
    exact⟨[.str b],jH (.str b) rfl,rfl,fun j d c hd hc=>by cases j<;>simp at hd hc;subst hd;subst hc;exact .str b hw⟩
   ·rename_i e hu
    simp only[acu]at hd
    obtain⟨ee,hd1,hd⟩:=hd
    replace hd:=aj hd
    obtain⟨hd2,hd⟩:=hd
    cases hd
    simp only[acw,adK,ac8,List.isEmpty_eq_false_iff]at hd2
    obtain⟨hz,hne⟩:=hd2
    have hz0:0<ee.length:=afG.2 hne
    rcases DataW.trod_slice hu h with⟨rfl,_⟩|⟨a,len,cap,elems,rest,m,hm,rfl,_,_,hlc,hcap,hel,bk,_⟩
    ·refine⟨[.ao ee.length [] true],jH ?_ rfl,rfl,fun j d c hd hc=>?_⟩
     ·exact VR.ao (L:=[]) (fun _ _=>undef) (acH _) (fun _=>rfl) (by simp) (.inl rfl) (by simp) (by simp)
     ·cases j<;>simp at hd hc
      subst hd;subst hc
      exact .ao ee [] true (by simp) (by simp) (by simp)
    ·cases hm
     have key:∀i,i<len→∃(vs:List Value) (r:List SV),w.cells? 0 (a.add (i*ee.length)) ee.length=some vs∧nC w r vs∧cJ ee r:=by
      intro i hi
      have h1:=bk i hi
      have h2:elems[i]?=some elems[i]:=acK (by omega)
      rw[h2,hz,acu]at h1
      obtain⟨vs,h3,h4⟩:=h1
      obtain⟨r,h5,h6⟩:=ih e vs _ dd ee h4 hd1
      exact⟨vs,r,h3,h5,h6⟩
     have hch:∃g:Nat→List SV,∀i,i<len→∃vs:List Value,w.cells? 0 (a.add (i*ee.length)) ee.length=some vs∧nC w (g i) vs∧cJ ee (g i):=
      ⟨fun i=>if hi:i<len then Classical.choose (ae2 (key i hi))else[],fun i hi=>by
       simp only[hi,dif_pos]
       exact⟨_,ae2 (ae2 (key i hi))⟩⟩
     obtain⟨g,hg⟩:=hch
     have hrow:∀(i:Nat) r,((List.range len).map g)[i]?=some r→i<len∧r=g i:=by
      intro i r hr
      simp only[ad2,acq]at hr
      obtain⟨k,hk,rfl⟩:=hr
      have hlt:=(acm.1 hk).1
      simp at hlt
      rw[aeu hlt]at hk
      cases hk
      exact⟨hlt,rfl⟩
     have hcell:∀(i j:Nat),i<len→j<ee.length→∃v c,w.cell? ((a.add (i*ee.length)).add j)=some v∧(g i)[j]?=some c∧VR w (· <w.heap.size) dH c v∧c.je=true:=by
      intro i j hi hj
      obtain⟨vs,h1,h2,h3⟩:=hg i hi
      obtain⟨h4,h5⟩:=BK h1
      have hv:vs[j]?=some vs[j]:=acK (by omega)
      have hjl:j<(g i).length:=by have:=h2.1;omega
      have hc:(g i)[j]?=some (g i)[j]:=acK hjl
      obtain⟨h6,h7⟩:=h2.2 j _ _ hc hv
      exact⟨_,_,(h5 j hj).trans hv,hc,h6,h7⟩
     refine⟨[.ao ee.length ((List.range len).map g) false],jH ?_ rfl,rfl,fun j d c hd hc=>?_⟩
     ·have hlen:((List.range len).map g).length=len:=by simp
      have hq:VR w (· <w.heap.size) dH (.ao ee.length ((List.range len).map g) false) (.slice (some a) ((List.range len).map g).length cap):=by
       refine .ao (fun i j=>(w.cell? ((a.add (i*ee.length)).add j)).getD undef) (by omega) (fun h=>by cases h) (fun i r hr=>?_) ?_ (fun i j r c hr hc=>?_) (fun i j r c hr hc=>?_)
       ·obtain⟨hi,rfl⟩:=hrow i r hr
        obtain⟨vs,h1,h2,h3⟩:=hg i hi
        exact h3.1
       ·by_cases h0:len=0
        ·left;subst h0;rfl
        ·right
         obtain⟨v,c,h1,_⟩:=hcell 0 0 (by omega) hz0
         rw[ae1]at h1
         have h2:=Jl (a:=a) (v:=v) (by have:(a.add 0).add 0=a.add 0:=by simp[Addr.add]
                                       rw[this]at h1;exact h1)
         refine⟨a.block,a.off,?_,h2.2,fun i j r c hr hc=>?_⟩
         ·obtain⟨b,o,sp⟩:=a;simp only at h2;rw[h2.1]
         ·obtain⟨hi,rfl⟩:=hrow i r hr
          obtain⟨vs,_,h3,h4⟩:=hg i hi
          have hj:j<ee.length:=by have:=(acm.1 hc).1;have:=h4.1;omega
          obtain⟨v,c',h5,_⟩:=hcell i j hi hj
          have ha:(a.add (i*ee.length)).add j=⟨a.block,a.off+i*ee.length+j,none⟩:=by
           obtain⟨b,o,sp⟩:=a;simp only at h2;rw[h2.1,dz,dz]
          rw[←ha,h5];rfl
       ·obtain⟨hi,rfl⟩:=hrow i r hr
        obtain⟨vs,_,h3,h4⟩:=hg i hi
        have hj:j<ee.length:=by have:=(acm.1 hc).1;have:=h4.1;omega
        obtain⟨v,c',_,h6,_,h7⟩:=hcell i j hi hj
        rw[hc]at h6;cases h6;exact h7
       ·obtain⟨hi,rfl⟩:=hrow i r hr
        obtain⟨vs,_,h3,h4⟩:=hg i hi
        have hj:j<ee.length:=by have:=(acm.1 hc).1;have:=h4.1;omega
        obtain⟨v,c',h5,h6,h7,_⟩:=hcell i j hi hj
        rw[hc]at h6;cases h6
        simp only[h5,ad3];exact h7
      rw[hlen]at hq
      exact hq
     ·cases j<;>simp at hd hc
      subst hd;subst hc
      refine .ao ee _ false (by simp;omega) (fun r hr=>?_) (fun r hr j d c hd hc=>?_)
      ·obtain⟨i,hi⟩:=ac4 hr
       obtain⟨h1,rfl⟩:=hrow i r hi
       obtain⟨vs,_,_,h4⟩:=hg i h1
       exact h4.1
      ·obtain⟨i,hi⟩:=ac4 hr
       obtain⟨h1,rfl⟩:=hrow i r hi
       obtain⟨vs,_,_,h4⟩:=hg i h1
       exact h4.2 j d c hd hc
   ·rename_i fs hu
    simp only[acu]at hd
    obtain⟨tot,hd1,hd⟩:=hd
    replace hd:=aj hd
    obtain⟨hd2,hd⟩:=hd
    cases hd
    have hd2:P.cellsOf t=es.length:=by simpa using hd2
    obtain⟨xs,m,hm,_,hl,hxl,bk⟩:=DataW.trod_struct hu h
    cases hm
    obtain⟨rest,h1,scs,h2,h3⟩:=sV (dd:=dd) (fun t cs x es h1 h2=>ih t cs x dd es h1 h2) cs fs.toList [] es hd1 (fun f hf=>by
     obtain⟨i,hi⟩:=ac4 hf
     have hlt:=(acm.1 hi).1
     have h5:=bk i f (by simpa using hi)
     exact⟨xs[i]'(by simp at hlt;omega),by rw[h5];simp⟩) (by omega)
    simp only[adu]at h1
    subst h1
    simp only[acV,aev]at h2
    rw[ac1 (by omega)]at h2
    exact⟨scs,h2,h3⟩
   ·rename_i k e hu
    simp only[acu]at hd
    obtain⟨ee,hd1,hd⟩:=hd
    replace hd:=aj hd
    obtain⟨hd2,hd⟩:=hd
    cases hd
    simp only[acw,adK]at hd2
    obtain⟨hz,ht⟩:=hd2
    obtain⟨xs,m,hm,_,hl,hxl,bk⟩:=DataW.trod_array hu h
    cases hm
    obtain⟨scs,h2,h3⟩:=wy (dd:=dd) (fun cs x h1=>ih e cs x dd ee h1 hd1) hz cs k 0 (fun i _ hi=>⟨xs[i]'(by omega),by rw[bk i (by omega)];simp⟩)
    have hfl:(List.replicate k ee).flatten.length=k*ee.length:=by simp
    rw[ae1,aev,ac1 (by omega)]at h2
    exact⟨scs,h2,h3⟩
   ·cases hd
def sZ(d:Bool×List DT)(x:SV):Prop:=match d.1 with
 |true=>∃cs,x=.agg cs∧cJ d.2 cs
 |false=>∃e,d.2=[e]∧Fits e x
def Cb(P:Program)(t:TypeId):Option (Bool×List DT):=match jL P t,lH P 8 t with
 |some ag,some es=>some (ag,es)
 |_,_=>none
theorem ye{r:Reach}{base:Nat}{t:TypeId}{v:Value}(h:Value.okWide P w r base t v)(hag:jL P t=some true):∃cs,v=.agg cs:=by
 unfold Value.okWide at h
 unfold jL at hag
 split at h
 ·obtain⟨cs,h,_⟩:=h;exact⟨cs,h⟩
 ·obtain⟨cs,h,_⟩:=h;exact⟨cs,h⟩
 ·rename_i h1 h2
  split at hag
  ·rename_i fs hu;exact absurd hu (h1 fs)
  ·rename_i n e hu;exact absurd hu (h2 n e)
  ·cases hag
  ·cases hag
theorem yF{r:Reach}{base:Nat}{t:TypeId}{v:Value}{es:List DT}(h:Value.okWide P w r base t v)(hag:jL P t=some false)(hd:lH P 8 t=some es):jX v=true∧es.length=1:=by
 unfold lH at hd
 unfold Value.okWide at h
 split at hd
 ·rename_i hu
  simp only[hu,Cell.okWide,Cell.ok]at h
  cases hd
  cases v<;>simp_all [jX]
 ·rename_i k hu
  simp only[hu,Cell.okWide,Cell.ok]at h
  cases hd
  cases v<;>simp_all [jX]
 ·rename_i hu
  simp only[hu,Cell.okWide,Cell.ok]at h
  cases hd
  cases v<;>simp_all [jX]
 ·rename_i e hu
  simp only[hu,Cell.okWide,Cell.ok]at h
  simp only[acu]at hd
  obtain⟨ee,_,hd⟩:=hd
  replace hd:=aj hd
  cases hd.2
  cases v<;>simp_all [jX]
 ·rename_i fs hu;simp[jL,hu]at hag
 ·rename_i k e hu;simp[jL,hu]at hag
 ·cases hd
theorem Jx{r:Reach}{base:Nat}{t:TypeId}{v:Value}{d:DataW H}{ps:List MemPlace}{a:Bool×List DT}(h:DataW.Trod enc P w 0 spare held t v d ps)(hok:Value.okWide P w r base t v)(ha:Cb P t=some a) :
 ∃x,VR w (· <w.heap.size) dH x v∧sZ a x:=by
 unfold Cb at ha
 split at ha
 rotate_left
 ·cases ha
 rename_i ag es hag hd
 cases ha
 obtain⟨n,hn⟩:=h
 obtain⟨scs,h1,h2⟩:=Gw n t _ _ 8 es hn hd
 cases ag with
 |true=>
  obtain⟨cs,rfl⟩:=ye hok hag
  refine⟨.agg scs,.agg (by simpa[Value.cells]using h1.1) (fun j c hc=>?_) (fun j c v hc hv=>(h1.2 j c v hc (by simpa[Value.cells]using hv)).1),scs,rfl,h2⟩
  have hlt:=(acm.1 hc).1
  have hl:=h1.1
  simp only[Value.cells,aeG]at hl
  exact(h1.2 j c cs[j] hc (by simp[Value.cells])).2
 |false=>
  obtain⟨h3,h4⟩:=yF hok hag hd
  have hc:v.cells= #[v]:=by cases v<;>simp_all [Value.cells,jX]
  rw[hc]at h1
  obtain⟨c,rfl⟩:∃c,scs=[c]:=aet.1 (by simpa using h1.1)
  obtain⟨e,rfl⟩:∃e,es=[e]:=aet.1 h4
  exact⟨c,(h1.2 0 c v rfl rfl).1,e,rfl,h2.2 0 e c rfl rfl⟩
def iY(as1:List (Bool×List DT))(xs:List SV):Prop:=xs.length=as1.length∧∀(j:Nat) a x,as1[j]?=some a→xs[j]?=some x→sZ a x
theorem z5{r:Reach}{base:Nat}:∀(ts:List TypeId) (vs:List Value) (ds:List (DataW H)) (ps:List MemPlace) (as1:List (Bool×List DT)),DataW.TrodAll enc P w 0 spare held ts vs ds ps→ts.map (Cb P)=as1.map some→
 (∀(j:Nat) t v,ts[j]?=some t→vs[j]?=some v→Value.okWide P w r base t v)→∃xs:List SV,xs.length=vs.length∧(∀(j:Nat) c v,xs[j]?=some c→vs[j]?=some v→VR w (· <w.heap.size) dH c v)∧iY as1 xs∧ds.length=ts.length
 |[],[],[],ps,as1,h,ha,_=>by
  have:as1=[]:=by simpa using ha.symm
  subst this
  exact⟨[],rfl,by simp,⟨rfl,by simp⟩,rfl⟩
 |t::ts,v::vs,d::ds,ps,as1,h,ha,hok=>by
  obtain⟨p,q,h1,h2,_⟩:=h
  cases as1 with
  |nil=>simp at ha
  |cons a as1=>
   simp only[ada,afH]at ha
   obtain⟨x,k1,k2⟩:=Jx h1 (hok 0 t v rfl rfl) ha.1
   obtain⟨xs,k3,k4,k5,k6⟩:=z5 ts vs ds q as1 h2 ha.2 (fun j t v ht hv=>hok (j+1) t v ht hv)
   refine⟨x::xs,by simp[k3],fun j c v hc hv=>?_,⟨by simp[k5.1],fun j a x ha hx=>?_⟩,by simp[k6]⟩
   ·cases j with
    |zero=>simp at hc hv;subst hc;subst hv;exact k1
    |succ j=>exact k4 j c v (by simpa using hc) (by simpa using hv)
   ·cases j with
    |zero=>simp at ha hx;subst ha;subst hx;exact k2
    |succ j=>exact k5.2 j a x (by simpa using ha) (by simpa using hx)
 |[],_::_,_,_,_,h,_,_=>by simp[DataW.TrodAll]at h
 |[],[],_::_,_,_,h,_,_=>by simp[DataW.TrodAll]at h
 |_::_,[],_,_,_,h,_,_=>by simp[DataW.TrodAll]at h
 |_::_,_::_,[],_,_,h,_,_=>by simp[DataW.TrodAll]at h
end
end
section
section
variable{H:Type}{enc:TypeId×Value→H}{P:Program}{w w':World}
theorem mE{base:Nat}{spare:Nat→Bool}{held:Bool}:∀{ts:List TypeId} {vs:List Value} {ds:List (DataW H)} {ps:List MemPlace},DataW.TrodAll enc P w base spare held ts vs ds ps→(∀p∈ps,w.sameAt w' p)→DataW.TrodAll enc P w' base spare held ts vs ds ps
 |[],[],[],_,h,_=>h
 |_::_,_::_,_::_,_,⟨p,q,⟨n,h1⟩,h2,e⟩,hs=>⟨p,q,⟨n,DataW.trod_carry n _ _ _ h1 (fun x hx=>hs x (by rw[e];exact adW _ hx))⟩,mE h2 (fun x hx=>hs x (by rw[e];exact aex _ hx)),e⟩
 |[],_::_,_,_,h,_=>by simp[DataW.TrodAll]at h
 |[],[],_::_,_,h,_=>by simp[DataW.TrodAll]at h
 |_::_,[],_,_,h,_=>by simp[DataW.TrodAll]at h
 |_::_,_::_,[],_,h,_=>by simp[DataW.TrodAll]at h
theorem BE(hh:∀B,B<w.heap.size→w'.heap[B]?=w.heap[B]?){p:MemPlace}(hp:p.block<w.heap.size):w.sameAt w' p:=by
 cases p with
 |cell b off=>simp only[World.sameAt,World.cell?,hh b hp]
 |map b=>exact hh b hp
theorem FX(hh:∀B,B<w.heap.size→w'.heap[B]?=w.heap[B]?)(ho:w'.os=w.os∧w'.output=w.output)(may:MemPlace→Prop):w.keptBut w' may:=by
 refine⟨ho.1,ho.2,fun i hi=>?_⟩
 rw[hh i hi]
 cases hq:w.heap[i]? with
 |none=>simp
 |some o=>cases o<;>simp
end
theorem vq{Ck:Checked}(dL:Bw)(hext:uP ⟨Ck.prog,dL⟩){os:Os}{f:FuncId}{fn:Func}{s:ChangeSpec}{conds:List PathCond}{apart fresh handsOn:Bool}{ads:List (Bool×List DT)}{tb:TypeId}{H:Type}{enc:TypeId×Value→H}
 (own:ownKnob Ck.prog.godebug=none) (started:os.Started) (noInit:Ck.prog.inits.idxOf? f=none) (hfn:Ck.prog.funcs[f]?=some fn)
 (witness:∃(w:World) (tape:Tape) (i:Input),w.os=os∧(w.forCall tape i).Shaped Ck.prog∧i.vars=[]∧Input.okWide Ck.prog (w.forCall tape i) .any w.heap.size f i∧
  s.pre6 enc Ck.prog fn conds apart (w.forCall tape i).memory i.args∧({}:Assume).holds Ck.prog (lone (Frame.enter Ck.prog f i.args .normal) [] (w.forCall tape i)))
 (hmix:Ck.prog.follows .mixedOrders=true) (hlaid:laidOutB Ck.prog=true) (hmaps:mapsRowed Ck.prog=true)
 (hfull:((List.range Ck.prog.types.size).all fun t=>match Ck.prog.underlying t with|some (.slice e)=>decide (0<Ck.prog.cellsOf e)|_=>true)=true)
 (hpar:∀t∈fn.params.toList,t<Ck.prog.types.size)
 (hargs:fn.params.toList.map (Cb Ck.prog)=ads.map some) (hres:fn.resultTypes= #[tb]) (hb:Ck.prog.underlying tb=some .bool) (hvars:s.vars=[])
 (hspec:∀(H:Type) (ds:List (DataW H)),ds.length=fn.params.toList.length→s.fn H ds={results:=[.lit (.bool true)],args:=ds})
 (hlaw:∀xs,iY ads xs→∃m,aa (wk Ck.prog dL) m (.fn f) xs ah=some (.bool true,ah)) :
 ReturnsInHanded {} Ck os f .any (s.pre6 enc Ck.prog fn conds apart) (s.post enc Ck.prog fn apart fresh handsOn false):=by
 refine returnsInHanded_of_change own started noInit hfn witness ?_
 intro W base args ds gs before hval hW hcnd _
 have hW':=hW
 obtain⟨p,q,hA,hV,rfl,hfz,hnd⟩:=hW
 rw[hvars]at hV
 have hgs:gs=[]∧q=[]:=by
  cases gs with
  |nil=>exact⟨rfl,hV⟩
  |cons g gs=>simp[DataW.TrodVars]at hV
 obtain⟨rfl,rfl⟩:=hgs
 obtain⟨xs,h1,h2,h3,h4⟩:=z5 (spare:=fun _=>true) (held:=true) fn.params.toList args.toList ds p ads hA hargs (fun j t v ht hv=>hval j t v (by simpa using ht) (by simpa using hv))
 obtain⟨m,hm⟩:=hlaw xs h3
 have hHR:HR ⟨Ck.prog,dL⟩ dH (· <W.heap.size) ah W:=⟨(fun b l h=>by cases h),(fun b x h=>by simp[ah]at h),(fun b b' l l' h=>by cases h.2.1),(fun b l h=>by cases h.2.1),fun B hB=>hB⟩
 have hcall:=((vc (C:=⟨Ck.prog,dL⟩) hmix hext (fun _ _ h=>h) m).call f xs ah (.bool true) ah hm dH (· <W.heap.size) W args hHR ⟨by simpa using h1,fun j c v hc hv=>h2 j c v hc (by simpa using hv)⟩).2 0
 refine(callsIn_wide.1 hcall).mono (fun e W' he=>?_)
 obtain⟨val,rfl,ρ',F',d1,d2,d3⟩:=he
 have hv:=eQ d1
 subst hv
 have hno:∀b l,¬Own dH ah b l:=fun b l h=>by cases h.2.1
 have hh:∀B,B<W.heap.size→W'.heap[B]?=W.heap[B]?:=fun B hB=>d3.frame B hB (fun b l ho=>absurd ho (hno b l))
 have hlt:∀x∈p,x.block<W.heap.size:=fun x hx=>hW'.lt x (by simpa using hx)
 refine⟨_,rfl,ds,[],p++[],[],p,[],hW',?_,?_,?_,FX hh d3.out _,fun h=>by cases h⟩
 ·rw[hres,hspec H (ds++[]) (by simpa using h4)]
  simp only[List.size_toArray,acR,acV,Value.resultList]
  exact⟨[],[],RowKit.shut_bool hb true,rfl,rfl⟩
 ·rw[hspec H (ds++[]) (by simpa using h4)]
  simp only[adn]
  refine mE ?_ (fun x hx=>BE hh (hlt x hx))
  exact DataW.TrodAll.respare (kids_rows hlaid hmaps) (fun t e ht hu=>slices_full_of Ck.prog hfull t e ht hu) hpar hA (fun x hx=>by simpa using hlt x hx)
 ·rw[hspec H (ds++[]) (by simpa using h4),hvars]
  rfl
theorem AE{Ck:Checked}(dL:Bw){os:Os}{f:FuncId}{fn:Func}{s:ChangeSpec}{conds:List PathCond}{apart fresh handsOn:Bool}{ads:List (Bool×List DT)}{tb:TypeId}{H:Type}{enc:TypeId×Value→H}
 (own:ownKnob Ck.prog.godebug=none) (started:os.Started) (noInit:Ck.prog.inits.idxOf? f=none) (hfn:Ck.prog.funcs[f]?=some fn)
 (witness:∃(w:World) (tape:Tape) (i:Input),w.os=os∧(w.forCall tape i).Shaped Ck.prog∧i.vars=[]∧Input.okWide Ck.prog (w.forCall tape i) .any w.heap.size f i∧
  s.pre6 enc Ck.prog fn conds apart (w.forCall tape i).memory i.args∧({}:Assume).holds Ck.prog (lone (Frame.enter Ck.prog f i.args .normal) [] (w.forCall tape i)))
 (hmix:Ck.prog.follows .mixedOrders=true) (hlaid:laidOutB Ck.prog=true) (hmaps:mapsRowed Ck.prog=true)
 (hfull:((List.range Ck.prog.types.size).all fun t=>match Ck.prog.underlying t with|some (.slice e)=>decide (0<Ck.prog.cellsOf e)|_=>true)=true)
 (hpar:∀t∈fn.params.toList,t<Ck.prog.types.size)
 (hargs:fn.params.toList.map (Cb Ck.prog)=ads.map some) (hres:fn.resultTypes= #[tb]) (hb:Ck.prog.underlying tb=some .bool) (hvars:s.vars=[])
 (hspec:∀(H:Type) (ds:List (DataW H)),ds.length=fn.params.toList.length→s.fn H ds={results:=[.lit (.bool true)],args:=ds})
 (hlaw:∀xs,iY ads xs→∃m,aa (wk Ck.prog dL) m (.fn f) xs ah=some (.bool true,ah)) (hnone:∀f,dL.ext f=none:=by intro f;rfl) :
 ReturnsInHanded {} Ck os f .any (s.pre6 enc Ck.prog fn conds apart) (s.post enc Ck.prog fn apart fresh handsOn false):=
 vq dL (fun f k h=>by rw[show dL.ext f=none from hnone f]at h;cases h) own started noInit hfn witness hmix hlaid hmaps hfull hpar hargs hres hb hvars hspec hlaw
end
section
mutual
def gY:SV→SV→Bool
 | .undef,.undef=>true
 | .jy,.jy=>true
 | .bool a,.bool b=>a==b
 | .int k a,.int k' b=>decide (k=k')&&decide (a=b)
 | .str a,.str b=>decide (a=b)
 | .dj,.dj=>true
 | .ptr a b c d,.ptr a' b' c' d'=>decide (a=a')&&decide (b=b')&&decide (c=c')&&decide (d=d')
 | .fY a,.fY b=>BV a b
 | .ao z L f,.ao z' L' f'=>decide (z=z')&&xM L L'&&f==f'
 | .bn a b c d,.bn a' b' c' d'=>decide (a=a')&&decide (b=b')&&decide (c=c')&&decide (d=d')
 | .agg a,.agg b=>BV a b
 | .bc a,.bc b=>BV a b
 | .fn f a,.fn g b=>decide (f=g)&&BV a b
 | .pO f a,.pO g b=>decide (f=g)&&BV a b
 | .dy,.dy=>true
 | .fP a,.fP b=>decide (a=b)
 | .mp a,.mp b=>decide (a=b)
 |_,_=>false
def BV:List SV→List SV→Bool
 |[],[]=>true
 |a::r,b::r'=>gY a b&&BV r r'
 |_,_=>false
def xM:List (List SV)→List (List SV)→Bool
 |[],[]=>true
 |a::r,b::r'=>BV a b&&xM r r'
 |_,_=>false
end
mutual
theorem oA:∀a b:SV,gY a b=true→a=b
 | .undef,b,h=>by cases b<;>first|rfl|(simp[gY]at h;done)
 | .jy,b,h=>by cases b<;>first|rfl|(simp[gY]at h;done)
 | .bool a,b,h=>by cases b<;>simp[gY]at h⊢ <;>exact h
 | .int k a,b,h=>by cases b<;>simp[gY]at h⊢ <;>exact h
 | .str a,b,h=>by cases b<;>simp[gY]at h⊢ <;>exact h
 | .dj,b,h=>by cases b<;>first|rfl|(simp[gY]at h;done)
 | .ptr ..,b,h=>by cases b<;>simp[gY]at h⊢ <;>exact⟨h.1.1.1,h.1.1.2,h.1.2,h.2⟩
 | .fY a,b,h=>by cases b<;>simp[gY]at h⊢ <;>exact lr _ _ h
 | .ao z L f,b,h=>by cases b<;>simp[gY]at h⊢ <;>exact⟨h.1.1,uI _ _ h.1.2,h.2⟩
 | .bn ..,b,h=>by cases b<;>simp[gY]at h⊢ <;>exact⟨h.1.1.1,h.1.1.2,h.1.2,h.2⟩
 | .agg a,b,h=>by cases b<;>simp[gY]at h⊢ <;>exact lr _ _ h
 | .bc a,b,h=>by cases b<;>simp[gY]at h⊢ <;>exact lr _ _ h
 | .fn f a,b,h=>by cases b<;>simp[gY]at h⊢ <;>exact⟨h.1,lr _ _ h.2⟩
 | .pO f a,b,h=>by cases b<;>simp[gY]at h⊢ <;>exact⟨h.1,lr _ _ h.2⟩
 | .dy,b,h=>by cases b<;>first|rfl|(simp[gY]at h;done)
 | .fP a,b,h=>by cases b<;>simp[gY]at h⊢ <;>exact h
 | .mp a,b,h=>by cases b<;>simp[gY]at h⊢ <;>exact h
theorem lr:∀a b:List SV,BV a b=true→a=b
 |[],[],_=>rfl
 |[],_::_,h=>by simp[BV]at h
 |_::_,[],h=>by simp[BV]at h
 |a::r,b::r',h=>by
  simp only[BV,acw]at h
  rw[oA a b h.1,lr r r' h.2]
theorem uI:∀a b:List (List SV),xM a b=true→a=b
 |[],[],_=>rfl
 |[],_::_,h=>by simp[xM]at h
 |_::_,[],h=>by simp[xM]at h
 |a::r,b::r',h=>by
  simp only[xM,acw]at h
  rw[lr a b h.1,uI r r' h.2]
end
def Bn:List (SV×SV)→List (SV×SV)→Bool
 |[],[]=>true
 |a::r,b::r'=>gY a.1 b.1&&gY a.2 b.2&&Bn r r'
 |_,_=>false
theorem zp:∀a b:List (SV×SV),Bn a b=true→a=b
 |[],[],_=>rfl
 |[],_::_,h=>by simp[Bn]at h
 |_::_,[],h=>by simp[Bn]at h
 |(a1,a2)::r,(b1,b2)::r',h=>by
  simp only[Bn,acw]at h
  rw[oA a1 b1 h.1.1,oA a2 b2 h.1.2,zp r r' h.2]
def sE:Env→Env→Bool
 |[],[]=>true
 |a::r,b::r'=>decide (a.1=b.1)&&gY a.2 b.2&&sE r r'
 |_,_=>false
theorem vS:∀a b:Env,sE a b=true→a=b
 |[],[],_=>rfl
 |[],_::_,h=>by simp[sE]at h
 |_::_,[],h=>by simp[sE]at h
 |(a1,a2)::r,(b1,b2)::r',h=>by
  simp only[sE,acw,acr]at h
  rw[h.1.1,oA a2 b2 h.1.2,vS r r' h.2]
def qE:aC→aC→Bool
 | .dead,.dead=>true
 | .box a,.box b=>BV a b
 | .arr v z L x,.arr v' z' L' x'=>decide (v=v')&&decide (z=z')&&xM L L'&&x==x'
 | .map a,.map b=>Bn a b
 |_,_=>false
theorem Dg:∀a b:aC,qE a b=true→a=b
 | .dead,b,h=>by cases b<;>first|rfl|(simp[qE]at h;done)
 | .box a,b,h=>by cases b<;>simp[qE]at h⊢ <;>exact lr _ _ h
 | .arr ..,b,h=>by cases b<;>simp[qE]at h⊢ <;>exact⟨h.1.1.1,h.1.1.2,uI _ _ h.1.2,h.2⟩
 | .map a,b,h=>by cases b<;>simp[qE]at h⊢ <;>exact zp _ _ h
 | .loop ..,b,h=>by cases b<;>simp[qE]at h
def A0:List aC→List aC→Bool
 |[],[]=>true
 |a::r,b::r'=>qE a b&&A0 r r'
 |_,_=>false
theorem zD:∀a b:List aC,A0 a b=true→a=b
 |[],[],_=>rfl
 |[],_::_,h=>by simp[A0]at h
 |_::_,[],h=>by simp[A0]at h
 |a::r,b::r',h=>by
  simp only[A0,acw]at h
  rw[Dg a b h.1,zD r r' h.2]
def IS(a b:Env×ab):Bool:=sE a.1 b.1&&A0 a.2.bl b.2.bl&&decide (a.2.bT=b.2.bT)&&decide (a.2.ro=b.2.ro)
theorem FJ{a b:Env×ab}(h:IS a b=true):a=b:=by
 obtain⟨e,bl,es,ro⟩:=a
 obtain⟨e',bl',es',ro'⟩:=b
 simp only[IS,acw,acr]at h
 obtain⟨⟨⟨h1,h2⟩,rfl⟩,rfl⟩:=h
 rw[vS _ _ h1,zD _ _ h2]
def rT:List (Option (Env×ab))→Option (Env×ab)
 |[]=>none
 |[a]=>a
 |some a::some b::r=>bif IS a b then rT (some b::r)else none
 |_=>none
theorem v8:∀(l:List (Option (Env×ab))) {s},rT l=some s→jq l=some s∧∀x∈l,x=some s
 |[],s,h=>by simp[rT]at h
 |[a],s,h=>⟨h,fun x hx=>by simp only[adH]at hx;subst hx;exact h⟩
 |some a::some b::r,s,h=>by
  simp only[rT]at h
  replace h:=aj h
  obtain⟨h1,h2⟩:=h
  have:=FJ h1
  subst this
  obtain⟨h3,h4⟩:=v8 (some a::r) h2
  exact⟨by rw[jq,if_pos rfl];exact h3,fun x hx=>by
   rcases adj.1 hx with rfl|hx
   ·exact h4 _ (ac5 ..)
   ·exact h4 x hx⟩
 |none::b::r,s,h=>by simp[rT]at h
 |some a::none::r,s,h=>by simp[rT]at h
def eW(rec:Rec)(fu:Nat):ct→Env→ab→Option Out
 | .skip,e,H=>some (.normal,e,H)
 | .ops l,e,H=>(cg rec l e H (fun e H=>some (e,H)) ()).map fun s=>(.normal,s)
 | .drawn l,e,H=>(bZ rec l H.bl.length e H (fun e H=>some (e,H)) ()).map fun s=>(.normal,s)
 | .perm l os,e,H=>(rT (os.map (jY rec l e H))).map fun s=>(.normal,s.1,s.2)
 | .seq a b,e,H=>match eW rec fu a e H with
   |some (.normal,e,H)=>eW rec fu b e H
   |r=>r
 | .cond c a b,e,H=>match ev e c with
   | .bool t=>bif t then eW rec fu a e H else eW rec fu b e H
   |_=>none
 | .block id a,e,H=>match eW rec fu a e H with
   |some (.exit j,e,H)=>some (bif j==id then .normal else .exit j,e,H)
   |r=>r
 | .freeze t,e,H=>(tZ H (get e t)).map fun r=>(.normal,(t,r.1)::e,r.2)
 | .bC vs,e,H=>(fF vs e H).map fun s=>(.normal,s.1,s.2)
 | .G6 d neg x c,e,H=>match AT H (ev e x)with
   |some false=>eW rec fu c ((d,.bool neg)::e) H
   |_=>none
 | .loop p a,e,H=>(fF p.bC e H).bind fun s=>(cP (fun s'=>(eu p s.2.bl.length {s.2 with bT:=[]} s').bind fun s'=>eW rec fu a s'.1 s'.2) fu (s.1,{s.2 with bT:=[]})).map
    fun o=>(o.1,o.2.1,{o.2.2 with bT:=s.2.bT++o.2.2.bT})
 | .iE f ps x y,e,H=>(pI rec (ev e f) [.fP H.bl.length] (bJ H (.loop ⟨e,ps,x,y⟩ .ready .normal))).bind fun r=>
    match bk r.2 H.bl.length with
    |some (.loop q st pend)=>match st with
     | .busy=>none
     |_=>(ca r.2 H.bl.length (.loop q .exhausted pend) 0).map fun H=>(pend,e,H)
    |_=>none
 | .ext n,e,H=>(su n (e.map (·.2))).map fun v=>(.ret,(0,v)::e,H)
 | .exit id,e,H=>some (.exit id,e,H)
 | .ret,e,H=>some (.ret,e,H)
def mz(T:FuncId→Option aB)(fu:Nat):Nat→Rec
 |0,_,_,_=>none
 |n+1,.fn f,xs,H=>match T f with
  |none=>none
  |some F=>bif eI F xs then
    ((eW (mz T fu n) fu F.body (eo xs) ah).bind fun o=>match o.1 with
      | .exit _=>none
      |_=>(results1 o.2.1 o.2.2 F.res).bind fun v=>ez 0 o.2.2 cG v).map fun v=>(v,H)
   else(eW (mz T fu n) fu F.body (eo xs) {bl:=H.bl,bT:=[],ro:=min H.ro H.bl.length}).bind fun o=>match o.1 with
    | .exit _=>none
    |_=>(results1 o.2.1 o.2.2 F.res).bind fun v=>da F.keep H v o.2.2
 |n+1,.se f,xs,H=>match T f with
  |none=>none
  |some F=>(eW (mz T fu n) fu F.body (eo xs) {bl:=H.bl,bT:=[],ro:=min H.ro H.bl.length}).bind fun o=>match o.1 with
    | .exit _=>none
    |_=>(results1 o.2.1 o.2.2 F.res).bind fun v=>da true H v o.2.2
 |n+1,.fP b,xs,H=>match bk H b with
  |some (.loop q .ready _)=>
   bif q.ps.length==xs.length then
    (eW (mz T fu n) fu q.assign ((q.ps.zip xs).reverse++q.env) {bl:=H.bl,bT:=[],ro:=min H.ro H.bl.length}).bind fun o=>match o.1 with
     | .normal=>(eR b o.2.2).bind fun H'=>(eW (mz T fu n) fu q.body o.2.1 H').bind fun o=>
        (fM b (match o.1 with| .normal=>.ready|_=>.done) o.1 o.2.2).bind fun H'=>
         (di H.bl.length H H').map fun H'=>(.bool (match o.1 with| .normal=>true|_=>false),H')
     |_=>none
   else none
  |_=>none
section
variable{rec rec':Rec}(hrec:∀f xs H r,rec f xs H=some r→rec' f xs H=some r)
include hrec
theorem EI{f xs H r}(h:kY rec f xs H=some r):kY rec' f xs H=some r:=by
 unfold kY at h⊢
 split at h
 ·exact hrec _ _ _ _ h
 ·exact hrec _ _ _ _ h
 ·exact hrec _ _ _ _ h
 ·cases h
theorem C0{f xs H r}(h:pI rec f xs H=some r):pI rec' f xs H=some r:=by
 unfold pI at h⊢
 split at h
 ·exact hrec _ _ _ _ h
 ·cases h
theorem ot{e H o r}(h:au rec e H o=some r):au rec' e H o=some r:=by
 unfold au at h⊢
 split at h
 ·exact EI hrec h
 ·exact hrec _ _ _ _ h
 ·unfold sX at h⊢
  obtain⟨vs,h1,h2⟩:=acu.1 h
  obtain⟨r1,h3,h4⟩:=acu.1 h2
  exact acu.2 ⟨vs,h1,acu.2 ⟨r1,hrec _ _ _ _ h3,h4⟩⟩
 ·exact h
theorem A4{N d e H o r}(h:b9 rec N d e H o=some r):b9 rec' N d e H o=some r:=by
 unfold b9 at h⊢
 split at h
 ·exact ot hrec h
 ·obtain⟨a,h1,h2⟩:=acu.1 h
  exact acu.2 ⟨a,ot hrec h1,h2⟩
 ·obtain⟨a,h1,h2⟩:=acu.1 h
  exact acu.2 ⟨a,ot hrec h1,h2⟩
 ·unfold yU at h ⊢;exact h
theorem tN{R:Type}(k:Env→ab→Option R):∀l e H o,cg rec l e H (fun e H=>some (e,H)) ()=some o→cg rec' l e H k ()=k o.1 o.2:=by
 intro l
 induction l with
 |nil=>intro e H o h;simp only[cg,acN]at h ⊢;rw[←h]
 |cons a l ih=>
  intro e H o h
  have key:∀o,aN (au rec e H a.op) (fun r=>cg rec l (cf e a.dst r.1) r.2 (fun e H=>some (e,H)) ()) ()=some o→aN (au rec' e H a.op) (fun r=>cg rec' l (cf e a.dst r.1) r.2 k ()) ()=k o.1 o.2:=by
   intro o h
   unfold aN at h
   split at h
   ·rename_i v hv
    rw[ot hrec hv]
    exact ih _ _ _ h
   ·cases h
  simp only[cg]at h⊢
  split at h
  ·exact key _ h
  ·rename_i t w _
   unfold fI at h⊢
   split at h
   ·unfold fork at h⊢
    dsimp only at h⊢
    rename_i b _
    cases hb:(b==w)with
    |true=>rw[hb]at h;exact key _ h
    |false=>rw[hb]at h;exact ih _ _ _ h
   ·unfold fork at h⊢
    exact ih _ _ _ h
   ·cases h
theorem v7{R:Type}(k:Env→ab→Option R):∀l N e H o,bZ rec l N e H (fun e H=>some (e,H)) ()=some o→bZ rec' l N e H k ()=k o.1 o.2:=by
 intro l
 induction l with
 |nil=>intro N e H o h;simp only[bZ,acN]at h ⊢;rw[←h]
 |cons a l ih=>
  intro N e H o h
  obtain⟨a,d⟩:=a
  have key:∀o,aN (b9 rec N d e H a.op) (fun r=>bZ rec l (fS d N r.2) (cf e a.dst r.1) r.2 (fun e H=>some (e,H)) ()) ()=some o→
   aN (b9 rec' N d e H a.op) (fun r=>bZ rec' l (fS d N r.2) (cf e a.dst r.1) r.2 k ()) ()=k o.1 o.2:=by
   intro o h
   unfold aN at h
   split at h
   ·rename_i v hv
    rw[A4 hrec hv]
    exact ih _ _ _ _ h
   ·cases h
  have key2:∀o,(bif iZ d then bZ rec l (fS d N H) (cf e a.dst .jy) H (fun e H=>some (e,H)) ()else none)=some o→
   (bif iZ d then bZ rec' l (fS d N H) (cf e a.dst .jy) H k ()else none)=k o.1 o.2:=by
   intro o h
   cases hs:iZ d with
   |true=>rw[hs]at h;exact ih _ _ _ _ h
   |false=>rw[hs]at h;cases h
  simp only[bZ]at h⊢
  split at h
  ·exact key _ h
  ·rename_i t w _
   unfold fI at h⊢
   split at h
   ·unfold fork at h⊢
    dsimp only at h⊢
    rename_i b _
    cases hb:(b==w)with
    |true=>rw[hb]at h;exact key _ h
    |false=>rw[hb]at h;exact key2 _ h
   ·unfold fork at h⊢
    exact key2 _ h
   ·cases h
theorem Eu{f g:Env×ab→Option Out}(hfg:∀s o,f s=some o→g s=some o):∀n s o,cP f n s=some o→cP g n s=some o:=by
 intro n
 induction n with
 |zero=>intro s o h;cases h
 |succ n ih=>
  intro s o h
  simp only[cP]at h⊢
  cases hf:f s with
  |none=>rw[hf]at h;cases h
  |some r=>
   rw[hfg _ _ hf]
   rw[hf]at h
   obtain⟨x,s'⟩:=r
   cases x with
   |normal=>exact ih _ _ h
   |exit j=>exact h
   |ret=>exact h
theorem gw(fu:Nat):∀(c:ct) (e:Env) (H:ab) (o:Out),eW rec fu c e H=some o→∀{R:Type} (k:mA→Env→ab→Option R),run rec' c e H k ()=k o.1 o.2.1 o.2.2:=by
 intro c
 induction c with
 |skip=>intro e H o h R k;simp only[eW,acN]at h;subst h;rfl
 |ops l=>
  intro e H o h R k
  simp only[eW,acq]at h
  obtain⟨s,hs,rfl⟩:=h
  exact tN hrec _ _ _ _ _ hs
 |drawn l=>
  intro e H o h R k
  simp only[eW,acq]at h
  obtain⟨s,hs,rfl⟩:=h
  exact v7 hrec _ _ _ _ _ _ hs
 |perm l os=>
  intro e H o h R k
  simp only[eW,acq]at h
  obtain⟨s,hs,rfl⟩:=h
  obtain⟨h1,h2⟩:=v8 _ hs
  have hmap:os.map (jY rec' l e H)=os.map (jY rec l e H):=by
   apply List.map_congr_left
   intro x hx
   have h3:=h2 _ (adt.2 ⟨x,hx,rfl⟩)
   rw[h3]
   unfold jY at h3⊢
   rw[nP]at h3
   obtain⟨s2,h4,h5⟩:=acu.1 h3
   have h6:cg rec (cH l x) e H (fun e H=>some (e,H)) ()=some s2:=by rw[nP,h4];rfl
   rw[tN hrec _ _ _ _ _ h6]
   exact h5
  simp only[run,hmap,h1,aN]
 |seq a b iha ihb=>
  intro e H o h R k
  simp only[eW]at h
  simp only[run]
  split at h
  ·rename_i e' H' ha
   rw[iha _ _ _ ha]
   exact ihb _ _ _ h k
  ·rename_i hn
   rw[iha _ _ _ h]
   obtain⟨x,e',H'⟩:=o
   cases x with
   |normal=>exact absurd h (hn _ _)
   |exit j=>rfl
   |ret=>rfl
 |cond c a b iha ihb=>
  intro e H o h R k
  simp only[eW]at h
  simp only[run]
  split at h
  ·rename_i t ht
   rw[ht]
   simp only[rW,fork]
   cases t with
   |true=>exact iha _ _ _ h k
   |false=>exact ihb _ _ _ h k
  ·cases h
 |block id a ih=>
  intro e H o h R k
  simp only[eW]at h
  simp only[run]
  split at h
  ·rename_i j e' H' ha
   rw[ih _ _ _ ha]
   cases h
   dsimp only
   cases j==id<;>rfl
  ·rename_i hn
   rw[ih _ _ _ h]
   obtain⟨x,e',H'⟩:=o
   cases x with
   |normal=>rfl
   |exit j=>exact absurd h (hn _ _ _)
   |ret=>rfl
 |freeze t=>
  intro e H o h R k
  simp only[eW,acq]at h
  obtain⟨s,hs,rfl⟩:=h
  simp only[run,hs,aN]
 |bC vs=>
  intro e H o h R k
  simp only[eW,acq]at h
  obtain⟨s,hs,rfl⟩:=h
  simp only[run,hs,aN]
 |G6 d neg x c ih=>
  intro e H o h R k
  simp only[eW]at h
  split at h
  ·rename_i hem
   simp only[run,hem,qx]
   exact ih _ _ _ h k
  ·cases h
 |loop p a ih=>
  intro e H o h R k
  simp only[eW]at h
  obtain⟨s,h1,h2⟩:=acu.1 h
  obtain⟨o',h3,rfl⟩:=acq.1 h2
  simp only[run,h1,aN]
  have h4:=Eu hrec (g:=fun s'=>(eu p s.2.bl.length {s.2 with bT:=[]} s').bind fun s'=>run rec' a s'.1 s'.2 (fun x e H=>some (x,e,H)) ()) (fun s' o hs=>by
   obtain⟨q,g1,g2⟩:=acu.1 hs
   exact acu.2 ⟨q,g1,ih _ _ _ g2 _⟩) _ _ _ h3
  rw[oC h4]
 |iE f ps x y ihx ihy=>
  intro e H o h R k
  simp only[eW]at h
  obtain⟨s,h1,h2⟩:=acu.1 h
  simp only[run,C0 hrec h1,aN]
  split at h2
  ·rename_i q st pend hg
   rw[hg]
   cases st with
   |busy=>cases h2
   |ready=>obtain⟨o',h3,rfl⟩:=acq.1 h2;simp only[h3]
   |done=>obtain⟨o',h3,rfl⟩:=acq.1 h2;simp only[h3]
   |exhausted=>obtain⟨o',h3,rfl⟩:=acq.1 h2;simp only[h3]
  ·cases h2
 |ext n=>
  intro e H o h R k
  simp only[eW,acq]at h
  obtain⟨s,hs,rfl⟩:=h
  simp only[run,hs,aN]
 |exit id=>intro e H o h R k;simp only[eW,acN]at h;subst h;rfl
 |ret=>intro e H o h R k;simp only[eW,acN]at h;subst h;rfl
end
theorem im{T:FuncId→Option aB}(fu:Nat):∀n f xs H r,mz T fu n f xs H=some r→aa T n f xs H=some r:=by
 intro n
 induction n with
 |zero=>intro f xs H r h;simp[mz]at h
 |succ n ih=>
  intro f xs H r h
  cases f with
  |fn f=>
   simp only[mz]at h
   simp only[aa]
   split at h
   ·cases h
   ·rename_i F hF
    rw[hF]
    dsimp only
    cases hp:eI F xs with
    |true=>
     rw[hp]at h
     simp only[acG]at h⊢
     obtain⟨v,hv,rfl⟩:=acq.1 h
     obtain⟨o,h1,h2⟩:=acu.1 hv
     rw[gw ih fu _ _ _ _ h1]
     obtain⟨x,e',H'⟩:=o
     cases x with
     |exit j=>cases h2
     |normal=>simp only at h2;simp only[h2,adm]
     |ret=>simp only at h2;simp only[h2,adm]
    |false=>
     rw[hp]at h
     simp only[acJ]at h⊢
     obtain⟨o,h1,h2⟩:=acu.1 h
     rw[gw ih fu _ _ _ _ h1]
     obtain⟨x,e',H'⟩:=o
     cases x with
     |exit j=>cases h2
     |normal=>exact h2
     |ret=>exact h2
  |se f=>
   simp only[mz]at h
   simp only[aa]
   split at h
   ·cases h
   ·rename_i F hF
    rw[hF]
    dsimp only
    obtain⟨o,h1,h2⟩:=acu.1 h
    rw[gw ih fu _ _ _ _ h1]
    obtain⟨x,e',H'⟩:=o
    cases x with
    |exit j=>cases h2
    |normal=>exact h2
    |ret=>exact h2
  |fP b=>
   simp only[mz]at h
   simp only[aa]
   split at h
   ·rename_i q pend hg
    rw[hg]
    dsimp only
    cases hp:q.ps.length==xs.length with
    |false=>rw[hp]at h;cases h
    |true=>
     rw[hp]at h
     simp only[acG]at h⊢
     obtain⟨o,h1,h2⟩:=acu.1 h
     rw[gw ih fu _ _ _ _ h1]
     obtain⟨x,e',H'⟩:=o
     cases x with
     |exit j=>cases h2
     |ret=>cases h2
     |normal=>
      simp only at h2⊢
      obtain⟨H1,h3,h4⟩:=acu.1 h2
      rw[h3]
      simp only[adq]
      obtain⟨o,h5,h6⟩:=acu.1 h4
      rw[gw ih fu _ _ _ _ h5]
      exact h6
   ·cases h
end
def post{A:Type}(v:Option A)(Q:A→Prop):Prop:=∃o,v=some o∧Q o
theorem oO{A:Type}{b:Bool}{x y:Option A}{t:oH (x,y)}{Q:A→Prop}(h1:b=true→post x Q)(h2:b=false→post y Q):post (fork b x y t) Q:=by
 cases b
 ·exact h2 rfl
 ·exact h1 rfl
@[go_sem] theorem KS {A:Type}(o:A)(Q:A→Prop):post (some o) Q=Q o:=by
  apply propext
  exact⟨fun⟨o',h1,h2⟩=>by cases h1;exact h2,fun h=>⟨o,rfl,h⟩⟩
@[go_sem] theorem Ov (e H):fF [] e H=some (e,H):=Eq.trans rfl rfl
def wG(r:List (Nat×Nat))(t z:Nat)(e:Env)(H:ab):SV→Option (Env×ab)
 | .ao _ [] true=>fF r ((t,.bn H.bl.length 0 0 0)::e) (bJ H (.arr 0 z [] false))
 | .ptr b _ _ _=>(qN H b z (bk H b)).bind fun H=>fF r e H
 | .ao _ (_::_) true=>fF r e (bJ H (.arr 0 z [] false))
 |_=>none
@[go_sem] theorem KV (t z r e H):fF ((t,z)::r) e H=wG r t z e H (get e t):=by
  simp only[fF,wG]
  generalize get e t=v
  cases v<;>rfl
@[go_sem] theorem KB (t z z' r e H):wG r t z e H (.ao z' [] true)=fF r ((t,.bn H.bl.length 0 0 0)::e) (bJ H (.arr 0 z [] false)):=Eq.trans rfl rfl
@[go_sem] theorem Kz (t z r e H b v i o):wG r t z e H (.ptr b v i o)=aN (qN H b z (bk H b)) (fun H=>fF r e H) ():=by
  simp only[wG]
  cases qN H b z (bk H b)<;>rfl
@[go_sem] theorem K3 (H b z c d cs):qN H b z (some (.box (c::d::cs)))=Ao H b (z%1000) (z/1000) (c::d::cs) ((c::d::cs)[z/1000]?):=by
  simp only[qN]
@[go_sem] theorem KM (H b z j cs z'):Ao H b z j cs (some (.ao z' [] true))=ca (bJ H (.arr 0 z [] false)) b (.box (cs.set j (.bn H.bl.length 0 0 0))) (H.bl.length+1):=Eq.trans rfl rfl
@[go_sem] theorem qG (p N H0 e H):eu p N H0 (e,H)=aN (dV p.bC (N-p.bC.length) N e H) (fun s=>vR p N H0 s) ():=by
  show(dV p.bC (N-p.bC.length) N e H).bind (vR p N H0)=_
  cases dV p.bC (N-p.bC.length) N e H<;>rfl
@[go_sem] theorem JT (i l):ko (i::l)=(i==999999):=Eq.trans rfl rfl
@[go_sem] theorem rJ (p N H0 e H):vR p N H0 (e,H)=bif ko p.live then some (dM p.live.tail e,H)else bif decide (SV.refs.av ((dM p.live e).map (·.2))≤N)then(di N H0 H).map (fun H=>(dM p.live e,H))else none:=Eq.trans rfl rfl
def uz(r:List (Nat×Nat))(t z h N:Nat)(e:Env)(H:ab):SV→Option (Env×ab)
 | .bn b v 0 n=>bif decide (N≤b)then(bif decide (h<N)then aN (r0 H t h z b v n e (bk H h) (bk H b)) (fun s=>dV r (h+1) N s.1 s.2) ()else dV r (h+1) N e H)else dV r (h+1) N e H
 |_=>dV r (h+1) N e H
@[go_sem] theorem mP (h N e H):dV [] h N e H=some (e,H):=Eq.trans rfl rfl
@[go_sem] theorem HI (t z r h N e H):dV ((t,z)::r) h N e H=uz r t z h N e H (get e t):=by
  simp only[dV,uz]
  generalize get e t=v
  cases v<;>try rfl
  rename_i b v off n
  cases off with
  |succ k=>rfl
  |zero=>
   simp only
   cases decide (N≤b)<;>cases decide (h<N)<;>try rfl
   show Option.bind _ _=aN _ _ ()
   cases r0 H t h z b v n e (bk H h) (bk H b)<;>rfl
@[go_sem] theorem HX (r t z h N e H b v n):uz r t z h N e H (.bn b v 0 n)=bif decide (N≤b)then(bif decide (h<N)then aN (r0 H t h z b v n e (bk H h) (bk H b)) (fun s=>dV r (h+1) N s.1 s.2) ()else dV r (h+1) N e H)else dV r (h+1) N e H:=Eq.trans rfl rfl
@[go_sem] theorem KT (H t h z b v n e z0 ex0 v' z' L ex):r0 H t h z b v n e (some (.arr 0 z0 [] ex0)) (some (.arr v' z' L ex))=bif z'==z&&v==v'&&n==L.length&&decide (H.ro≤h)&&!(h==b)&&SV.refs.av L.flatten==0 then
 some ((t,.bn h (v+1) 0 n)::e,{bl:=(H.bl.set h (.arr (v+1) z L ex)).set b .dead,bT:=H.bT,ro:=H.ro})else none:=Eq.trans rfl rfl
@[go_sem] theorem O9 (e):dM [] e=[]:=Eq.trans rfl rfl
@[go_sem] theorem KW (i l e):dM (i::l) e=(i,get e i)::dM l e:=Eq.trans rfl rfl
@[go_sem] theorem Br (N r bl r' es):di N ⟨r,es,r'⟩ ⟨bl,[],0⟩=bif decide (N≤bl.length)then some ⟨bl.take N,es,r'⟩else none:=by
  unfold di
  simp
@[go_sem] theorem v3 (N H0 H):di N H0 H=bif decide (N≤H.bl.length)&&H.bT.all (fun p=>!(decide (p.1<N)&&decide (N<p.2)))then some {bl:=H.bl.take N,bT:=H0.bT++H.bT.filter (fun p=>decide (p.1<N)),ro:=H0.ro} else none:=Eq.trans rfl rfl
attribute [go_sem] List.all_nil List.all_cons List.filter_nil aeF adF
@[go_sem] theorem Tx (z L f ix):ja (.ao z L f) ix=(jG L.length ix).bind fun i=>(L[i]?).map .fY:=Eq.trans rfl rfl
@[go_sem] theorem Vb (b v off n ix):ja (.bn b v off n) ix=(jG n ix).map fun i=>.ptr b v (off+i) 0:=Eq.trans rfl rfl
@[go_sem] theorem SN (n k i):jG n (.int k i)=bif decide (0≤i)&&decide (i<(n:Int))then some i.toNat else none:=Eq.trans rfl rfl
@[go_sem] theorem Ww (i:Nat):decide ((0:Int)≤(i:Int))=true:=by simp
@[go_sem] theorem We (i n:Nat):decide ((i:Int)<(n:Int))=decide (i<n):=by simp
theorem fG{T:FuncId→Option aB}{f:FuncId}{F:aB}{xs:List SV}{n:Nat}{H H0 H1:ab}{v:SV}(hT:T f=some F)(hp:eI F xs=true)
 (h:aa T (n+1) (.fn f) xs H0=some (v,H1)):aa T (n+1) (.fn f) xs H=some (v,H):=by
 simp only[aa,hT,hp,acG,acq]at h⊢
 obtain⟨a,h1,h2⟩:=h
 cases h2
 exact⟨_,h1,rfl⟩
theorem bm{T:FuncId→Option aB}{f:FuncId}{F:aB}{xs:List SV}{n:Nat}{H:ab}{r:SV×ab}(hT:T f=some F)(hp:eI F xs=false)
 (h:runK (aa T n) (pZ F.res (fun v H'=>da F.keep H v H')) F.body [] (eo xs) ⟨H.bl,[],min H.ro H.bl.length⟩ ()=some r):aa T (n+1) (.fn f) xs H=some r:=by
 have hk:∀k:mA→Env→ab→Option (SV×ab),k=pZ F.res (fun v H'=>da F.keep H v H')→run (aa T n) F.body (eo xs) ⟨H.bl,[],min H.ro H.bl.length⟩ k ()=some r:=by
  intro k hk
  rw[hk,kP]
  exact h
 simp only[aa,hT,hp,acJ]
 exact hk _ (by funext x e H';cases x<;>rfl)
theorem eJ{T:FuncId→Option aB}{f:FuncId}{F:aB}{xs:List SV}{n:Nat}{H:ab}{r:SV×ab}(hT:T f=some F)
 (h:runK (aa T n) (pZ F.res (fun v H'=>da true H v H')) F.body [] (eo xs) ⟨H.bl,[],min H.ro H.bl.length⟩ ()=some r):aa T (n+1) (.se f) xs H=some r:=by
 have hk:∀k:mA→Env→ab→Option (SV×ab),k=pZ F.res (fun v H'=>da true H v H')→run (aa T n) F.body (eo xs) ⟨H.bl,[],min H.ro H.bl.length⟩ k ()=some r:=by
  intro k hk
  rw[hk,kP]
  exact h
 simp only[aa,hT]
 exact hk _ (by funext x e H';cases x<;>rfl)
@[go_sem] theorem JA (H0 v H):da true H0 v H=some (v,⟨H.bl,H0.bT++H.bT,H0.ro⟩):=Eq.trans rfl rfl
@[go_sem] theorem pq (H0 v H):da false H0 v H=(ez H0.bl.length H cG v).bind fun v=>(di H0.bl.length H0 H).map fun H=>(v,H):=Eq.trans rfl rfl
def sb(b:Nat)(H:ab)(x:mA)(_:Env)(H':ab):Option (SV×ab):=aN (fM b (match x with| .normal=>.ready|_=>.done) x H') (fun H'=>(di H.bl.length H H').map fun H'=>(.bool (match x with| .normal=>true|_=>false),H')) ()
noncomputable def xc (rec:Rec) (body:ct) (b:Nat) (H:ab) (x:mA) (e:Env) (H':ab):Option (SV×ab):=match x with
 | .normal=>aN (eR b H') (fun H'=>runK rec (sb b H) body [] e H' ()) ()
 |_=>none
@[go_sem] theorem QU (rec body b H e H'):xc rec body b H .normal e H'=aN (eR b H') (fun H'=>runK rec (sb b H) body [] e H' ()) ():=Eq.trans rfl rfl
@[go_sem] theorem Rk (b H e H'):sb b H .normal e H'=aN (fM b .ready .normal H') (fun H'=>(di H.bl.length H H').map fun H'=>(.bool true,H')) ():=Eq.trans rfl rfl
@[go_sem] theorem Sf (b H j e H'):sb b H (.exit j) e H'=aN (fM b .done (.exit j) H') (fun H'=>(di H.bl.length H H').map fun H'=>(.bool false,H')) ():=Eq.trans rfl rfl
def xS(b:Nat)(H:ab):Option aC→Option ab
 |some (.loop q .ready pend)=>ca H b (.loop q .busy pend) 0
 |_=>none
@[go_sem] theorem Pg (b H):eR b H=xS b H (bk H b):=by
  unfold eR xS
  cases bk H b with
  |none=>rfl
  |some x=>cases x<;>rfl
@[go_sem] theorem Gf (b H q pend):xS b H (some (.loop q .ready pend))=ca H b (.loop q .busy pend) 0:=Eq.trans rfl rfl
def qT(b:Nat)(st:LoopState)(pend:mA)(H:ab):Option aC→Option ab
 |some (.loop q _ _)=>ca H b (.loop q st pend) 0
 |_=>none
@[go_sem] theorem Jk (b st pend H):fM b st pend H=qT b st pend H (bk H b):=by
  unfold fM qT
  cases bk H b with
  |none=>rfl
  |some x=>cases x<;>rfl
@[go_sem] theorem Fm (b st pend H q s p):qT b st pend H (some (.loop q s p))=ca H b (.loop q st pend) 0:=Eq.trans rfl rfl
theorem pd{T:FuncId→Option aB}{b n:Nat}{xs:List SV}{H:ab}{q:fj}{pend:mA}{r:SV×ab}(hg:bk H b=some (.loop q .ready pend))(hl:(q.ps.length==xs.length)=true)
 (h:runK (aa T n) (xc (aa T n) q.body b H) q.assign [] ((q.ps.zip xs).reverse++q.env) ⟨H.bl,[],min H.ro H.bl.length⟩ ()=some r):aa T (n+1) (.fP b) xs H=some r:=by
 have hk2:∀(k:mA→Env→ab→Option (SV×ab)),k=sb b H→∀e H',run (aa T n) q.body e H' k ()=runK (aa T n) (sb b H) q.body [] e H' ():=by
  intro k hk e H'
  rw[hk,kP]
 have hk:∀k:mA→Env→ab→Option (SV×ab),k=xc (aa T n) q.body b H→run (aa T n) q.assign ((q.ps.zip xs).reverse++q.env) ⟨H.bl,[],min H.ro H.bl.length⟩ k ()=some r:=by
  intro k hk
  rw[hk,kP]
  exact h
 simp only[aa,hg,hl,acG]
 refine hk _ ?_
 funext x e H'
 cases x with
 |ret=>rfl
 |exit j=>rfl
 |normal=>
  simp only[xc]
  cases hb:eR b H' with
  |none=>rfl
  |some H1=>
   simp only[adq,aN]
   exact hk2 _ (by funext x e H';unfold sb;cases x<;>(simp only[aN];cases fM b _ _ H'<;>rfl)) _ _
def Round{R:Type}(p:cu)(N:Nat)(H0:ab)(σ:Nat→Env×ab)(P:Nat→Prop)(m i:Nat)(k:Out→Option R)(r:Option R)(o:Out):Prop:=match o with
 |(.normal,s')=>i<m∧eu p N H0 s'=some (σ (i+1))∧P (i+1)
 |o=>k o=r
@[go_sem] theorem R5 {R:Type}(p N H0 σ P m i)(k:Out→Option R)(r s):Round p N H0 σ P m i k r (.normal,s)=(i<m∧eu p N H0 s=some (σ (i+1))∧P (i+1)):=Eq.trans rfl rfl
@[go_sem] theorem QY {R:Type}(p N H0 σ P m i)(k:Out→Option R)(r j s):Round p N H0 σ P m i k r (.exit j,s)=(k (.exit j,s)=r):=Eq.trans rfl rfl
@[go_sem] theorem Q6 {R:Type}(p N H0 σ P m i)(k:Out→Option R)(r s):Round p N H0 σ P m i k r (.ret,s)=(k (.ret,s)=r):=Eq.trans rfl rfl
theorem ba{R:Type}{p:cu}{N:Nat}{H0:ab}{rec:Rec}{a:ct}{s0:Env×ab}{k:Out→Option R}{r:Option R}
 (σ:Nat→Env×ab) (P:Nat→Prop) (m:Nat) (h0:eu p N H0 s0=some (σ 0)) (hP:P 0)
 (h:∀i,i≤m→P i→post (runK rec (fun x e H=>some (x,e,H)) a [] (σ i).1 (σ i).2 ()) (Round p N H0 σ P m i k r)) :
 aN (kR (fo p N H0 rec a) s0) k ()=r:=by
 have key:∀(j i:Nat) (s:Env×ab),i+j=m→P i→eu p N H0 s=some (σ i)→∃n o,cP (fo p N H0 rec a) n s=some o∧k o=r:=by
  intro j
  induction j with
  |zero=>
   intro i s hi hPi hs
   obtain⟨o,h1,h2⟩:=h i (by omega) hPi
   have hf:fo p N H0 rec a s=some o:=by rw[hU,hs];exact h1
   obtain⟨x,s'⟩:=o
   cases x with
   |normal=>exact absurd h2.1 (by omega)
   |exit id=>exact⟨1,_,by simp only[cP,hf],h2⟩
   |ret=>exact⟨1,_,by simp only[cP,hf],h2⟩
  |succ j ih=>
   intro i s hi hPi hs
   obtain⟨o,h1,h2⟩:=h i (by omega) hPi
   have hf:fo p N H0 rec a s=some o:=by rw[hU,hs];exact h1
   obtain⟨x,s'⟩:=o
   cases x with
   |normal=>
    obtain⟨n,o,h3,h4⟩:=ih (i+1) s' (by omega) h2.2.2 h2.2.1
    exact⟨n+1,o,by simp only[cP,hf];exact h3,h4⟩
   |exit id=>exact⟨1,_,by simp only[cP,hf],h2⟩
   |ret=>exact⟨1,_,by simp only[cP,hf],h2⟩
 obtain⟨n,o,h1,h2⟩:=key m 0 s0 (by omega) hP h0
 exact Gq o (oC h1) h2
def uU{R:Type}(p:cu)(N:Nat)(H0:ab)(σ:Nat→Env×ab)(P:Nat→Prop)(m i:Nat)(k:Out→Option R)(Q:R→Prop)(o:Out):Prop:=match o with
 |(.normal,s')=>i<m∧eu p N H0 s'=some (σ (i+1))∧P (i+1)
 |o=>post (k o) Q
@[go_sem] theorem Qf {R:Type}(p N H0 σ P m i)(k:Out→Option R)(Q s):uU p N H0 σ P m i k Q (.normal,s)=(i<m∧eu p N H0 s=some (σ (i+1))∧P (i+1)):=Eq.trans rfl rfl
@[go_sem] theorem Pv {R:Type}(p N H0 σ P m i)(k:Out→Option R)(Q j s):uU p N H0 σ P m i k Q (.exit j,s)=post (k (.exit j,s)) Q:=Eq.trans rfl rfl
@[go_sem] theorem Nh {R:Type}(p N H0 σ P m i)(k:Out→Option R)(Q s):uU p N H0 σ P m i k Q (.ret,s)=post (k (.ret,s)) Q:=Eq.trans rfl rfl
theorem tx{R:Type}{p:cu}{N:Nat}{H0:ab}{rec:Rec}{a:ct}{s0:Env×ab}{k:Out→Option R}{Q:R→Prop}
 (σ:Nat→Env×ab) (P:Nat→Prop) (m:Nat) (h0:eu p N H0 s0=some (σ 0)) (hP:P 0)
 (h:∀i,i≤m→P i→post (runK rec (fun x e H=>some (x,e,H)) a [] (σ i).1 (σ i).2 ()) (uU p N H0 σ P m i k Q)) :
 post (aN (kR (fo p N H0 rec a) s0) k ()) Q:=by
 have key:∀(j i:Nat) (s:Env×ab),i+j=m→P i→eu p N H0 s=some (σ i)→∃n o,cP (fo p N H0 rec a) n s=some o∧post (k o) Q:=by
  intro j
  induction j with
  |zero=>
   intro i s hi hPi hs
   obtain⟨o,h1,h2⟩:=h i (by omega) hPi
   have hf:fo p N H0 rec a s=some o:=by rw[hU,hs];exact h1
   obtain⟨x,s'⟩:=o
   cases x with
   |normal=>exact absurd h2.1 (by omega)
   |exit id=>exact⟨1,_,by simp only[cP,hf],h2⟩
   |ret=>exact⟨1,_,by simp only[cP,hf],h2⟩
  |succ j ih=>
   intro i s hi hPi hs
   obtain⟨o,h1,h2⟩:=h i (by omega) hPi
   have hf:fo p N H0 rec a s=some o:=by rw[hU,hs];exact h1
   obtain⟨x,s'⟩:=o
   cases x with
   |normal=>
    obtain⟨n,o,h3,h4⟩:=ih (i+1) s' (by omega) h2.2.2 h2.2.1
    exact⟨n+1,o,by simp only[cP,hf];exact h3,h4⟩
   |exit id=>exact⟨1,_,by simp only[cP,hf],h2⟩
   |ret=>exact⟨1,_,by simp only[cP,hf],h2⟩
 obtain⟨n,o,h1,h2⟩:=key m 0 s0 (by omega) hP h0
 rw[oC h1]
 exact h2
def eD{A:Type}(p:A→Bool):List A→Int
 |[]=> -1
 |a::l=>if p a then 0 else if eD p l<0 then -1 else eD p l+1
theorem iw{A:Type}(p:A→Bool):∀l:List A,decide (0≤eD p l)=l.any p
 |[]=>rfl
 |a::l=>by
  have ih:=iw p l
  rw[adz,acr]at ih⊢
  simp only[eD,afj,adw,←ih]
  by_cases hp:p a=true
  ·simp[hp]
  ·rw[if_neg hp]
   simp only[hp,adh,false_or]
   split<;>omega
theorem ig{A:Type}{p:A→Bool}:∀{l:List A},(∀(j:Nat) a,l[j]?=some a→p a=false)→eD p l= -1
 |[],_=>rfl
 |a::l,h=>by
  have h0:=h 0 a rfl
  have ih:=ig (l:=l) (fun j b hb=>h (j+1) b (by simpa using hb))
  simp[eD,h0,ih]
theorem mb{A:Type}{p:A→Bool}:∀{l:List A} {i:Nat} {a:A},l[i]?=some a→p a=true→(∀(j:Nat) b,j<i→l[j]?=some b→p b=false)→eD p l=i
 |[],i,a,h,_,_=>by simp at h
 |b::l,0,a,h,hp,_=>by simp at h;subst h;simp[eD,hp]
 |b::l,i+1,a,h,hp,hn=>by
  have h0:=hn 0 b (by omega) rfl
  have ih:=mb (l:=l) (i:=i) (by simpa using h) hp (fun j c hj hc=>hn (j+1) c (by omega) (by simpa using hc))
  simp only[eD,h0,ih,adh,if_false]
  rw[if_neg (by omega)]
  omega
def Xm(bP:Nat)(H:ab)(b v off n:Nat)(X:List (List SV)):Option aC→Option (SV×ab)
 |some (.arr v' z L e)=>bif v==v'&&z==bP&&decide (off+n≤L.length)then
   bif !e&&off==0&&n==L.length then(ca H b (.arr (v+1) z (L++X) false) (SV.refs.av X.flatten)).map fun H=>(.bn b (v+1) off (n+X.length),H)
   else bif decide (off+n+X.length≤L.length)then(ca H b (.arr v z (L.take (off+n)++X++L.drop (off+n+X.length)) e) (SV.refs.av X.flatten)).map fun H=>(.bn b v off (n+X.length),H)
   else bif e then some (.bn H.bl.length 0 0 (n+X.length),bJ H (.arr 0 z ((L.drop off).take n++X) false))else none
  else none
 |_=>none
@[go_sem] theorem U6 (bP bytes H b v off n X):gZ bP bytes H (.bn b v off n) X=bif decide ((n+X.length)*bytes≤bV)then Xm bP H b v off n X (bk H b)else none:=by
  simp only[gZ]
  generalize bk H b=q
  cases q with
  |none=>rfl
  |some q=>cases q<;>rfl
theorem gH(bP:Nat)(H:ab)(b v n:Nat)(X L:List (List SV))(h:L.length=n):Xm bP H b v 0 n X (some (.arr v bP L false))=(ca H b (.arr (v+1) bP (L++X) false) (SV.refs.av X.flatten)).map fun H=>(.bn b (v+1) 0 (n+X.length),H):=by
 subst h
 simp[Xm]
@[go_sem] theorem Vm (bP bytes H z X):gZ bP bytes H (.ao z [] true) X=bif decide (X.length*bytes≤bV)then some (.bn H.bl.length 0 0 X.length,bJ H (.arr 0 bP X false))else none:=by
  simp[gZ]
def KH(N:Nat)(H:ab)(d v off n:Nat):Option aC→Option SV
 |some (.arr ver' z L ex)=>bif v==ver'&&decide (off+n≤L.length)then
   (bR (((L.drop off).take n).map fun cs=>bR (cs.map (ez N H d)))).bind fun L'=>bif SV.refs.av L'.flatten==0 then some (.ao z L' (ex&&off+n==L.length))else none
  else none
 |_=>none
@[go_sem] theorem Ub (N H d b v off n):ez N H (d+1) (.bn b v off n)=bif decide (b<N)then some (.bn b v off n)else KH N H d v off n (bk H b):=by
  simp only[ez]
  generalize bk H b=q
  cases q with
  |none=>rfl
  |some q=>cases q<;>rfl
theorem n8{A:Type}{f:A→Option A}:∀{l:List A},(∀a∈l,f a=some a)→bR (l.map f)=some l
 |[],_=>rfl
 |a::l,h=>by
  have ih:=n8 (f:=f) (l:=l) (fun b hb=>h b (by simp[hb]))
  simp only[ada,h a (by simp),bR,ih,adm]
theorem jw:∀{L:List (List SV)},(∀cs∈L,∀c∈cs,c.refs=0)→SV.refs.av L.flatten=0
 |[],_=>by simp[SV.refs.av]
 |cs::L,h=>by
  have ih:=jw (L:=L) (fun b hb=>h b (by simp[hb]))
  have key:∀(cs:List SV),(∀c∈cs,c.refs=0)→SV.refs.av (cs++L.flatten)=0:=by
   intro cs
   induction cs with
   |nil=>intro _;exact ih
   |cons c cs ih2=>intro hc;simp only[adE,SV.refs.av,hc c (by simp),ih2 (fun x hx=>hc x (by simp[hx]))];rfl
  exact key cs (h cs (by simp))
theorem BB(N:Nat)(H:ab)(d v n z:Nat)(L:List (List SV))(e:Bool)(h:L.length=n)(h1:∀cs∈L,∀c∈cs,ez N H d c=some c)(h2:∀cs∈L,∀c∈cs,c.refs=0) :
 KH N H d v 0 n (some (.arr v z L e))=some (.ao z L e):=by
 subst h
 simp only[KH,aev,adF,adr,adL,acH,decide_true,acW,acG,aeq]
 rw[n8 (fun cs hcs=>n8 (fun c hc=>h1 cs hcs c hc))]
 simp[jw h2]
theorem eS{a:Bool×List DT}{as1:List (Bool×List DT)}{xs:List SV}(h:iY (a::as1) xs):∃x r,xs=x::r∧sZ a x∧iY as1 r:=by
 obtain⟨h1,h2⟩:=h
 cases xs with
 |nil=>simp at h1
 |cons x r=>exact⟨x,r,rfl,h2 0 a x rfl rfl,by simpa using h1,fun j a' x' ha hx=>h2 (j+1) a' x' ha hx⟩
theorem px{xs:List SV}(h:iY [] xs):xs=[]:=adR h.1
theorem Bi{es:List DT}{x:SV}(h:sZ (true,es) x):∃cs,x=.agg cs∧cJ es cs:=h
theorem mf{e:DT}{x:SV}(h:sZ (false,[e]) x):Fits e x:=by
 obtain⟨e',h1,h2⟩:=h
 cases h1
 exact h2
theorem aY{k:IntKind}{es:List DT}{cs:List SV}(h:cJ (.int k::es) cs):∃n r,cs=.int k n::r∧(Lit.int k n).wf=true∧cJ es r:=by
 obtain⟨c,r,rfl,h1,h2⟩:=nj h
 obtain⟨n,rfl,h3⟩:=fits_int h1
 exact⟨n,r,rfl,h3,h2⟩
theorem gq{es' es:List DT}{cs:List SV}(h:cJ (.ao es'::es) cs):∃L f r,cs=.ao es'.length L f::r∧L.length≤maxLen∧(∀q∈L,cJ es' q)∧cJ es r:=by
 obtain⟨c,r,rfl,h1,h2⟩:=nj h
 obtain⟨L,f,rfl,h3,h4⟩:=DV h1
 exact⟨L,f,r,rfl,h3,h4,h2⟩
attribute [go_sem] afM Bool.true_xor Bool.false_xor Bool.xor_true Bool.xor_false
section
def jZ(ag:Bool)(z:Nat):aB:=⟨[(.tmp 4)],(.seq (.ops [⟨(some 4),(.dY (.c (.int .i64 0))),none⟩]) (.seq (.seq (.ops [⟨(some 6),(.dY (.t 0)),none⟩,⟨(some 7),(.len (.t 6)),none⟩,⟨(some 8),(.dY (.c (.int .i64 0))),none⟩]) (.block 0 (.loop ⟨[0,1,7,8],[]⟩ (.seq (.ops [⟨(some 9),(.bin .lss (.t 8) (.t 7)),none⟩]) (.seq (.cond (.t 9) .skip (.exit 0)) (.seq (.block 1 (.seq (.ops [⟨(some 10),(.dY (.t 8)),none⟩,⟨(some 5),(.dY (.t 10)),none⟩]) (.seq (.ops [⟨(some 11),(.dY (.t 1)),none⟩,⟨(some 12),(.dY (.t 0)),none⟩,⟨(some 13),(.dY (.t 5)),none⟩,⟨(some 14),(.bw z (.t 12) (.t 13)),none⟩,⟨(some 15),(.load ag z (.t 14)),none⟩,⟨(some 16),(.call (.t 11) [(.t 15)]),none⟩]) (.cond (.t 16) (.seq (.ops [⟨(some 17),(.dY (.t 5)),none⟩,⟨(some 4),(.dY (.t 17)),none⟩]) .ret) .skip)))) (.ops [⟨(some 18),(.bin .add (.t 8) (.c (.int .i64 1))),none⟩,⟨(some 8),(.dY (.t 18)),none⟩]))))))) (.seq (.ops [⟨(some 4),(.dY (.c (.int .i64 (-1)))),none⟩]) .ret))),false⟩
def sW(g:FuncId):aB:=⟨[(.tmp 4)],(.seq (.ops [⟨(some 4),(.dY (.c (.bool false))),none⟩]) (.seq (.ops [⟨(some 5),(.dY (.t 0)),none⟩,⟨(some 6),(.dY (.t 1)),none⟩,⟨(some 7),(.call (.c (.fn g [])) [(.t 5),(.t 6)]),none⟩,⟨(some 8),(.bin .geq (.t 7) (.c (.int .i64 0))),none⟩,⟨(some 4),(.dY (.t 8)),none⟩]) .ret)),false⟩
def qD:aB:=⟨[(.tmp 4)],(.seq (.ops [⟨(some 4),(.dY (.c (.int .i64 0))),none⟩]) (.seq (.seq (.ops [⟨(some 6),(.dY (.t 0)),none⟩,⟨(some 7),(.len (.t 6)),none⟩,⟨(some 8),(.dY (.c (.int .i64 0))),none⟩]) (.block 0 (.loop ⟨[0,1,7,8],[]⟩ (.seq (.ops [⟨(some 9),(.bin .lss (.t 8) (.t 7)),none⟩]) (.seq (.cond (.t 9) .skip (.exit 0)) (.seq (.block 1 (.seq (.ops [⟨(some 10),(.dY (.t 8)),none⟩,⟨(some 5),(.dY (.t 10)),none⟩]) (.seq (.ops [⟨(some 11),(.dY (.t 1)),none⟩,⟨(some 12),(.dY (.t 0)),none⟩,⟨(some 13),(.dY (.t 5)),none⟩,⟨(some 14),(.bw 1 (.t 12) (.t 13)),none⟩,⟨(some 15),(.load false 1 (.t 14)),none⟩,⟨(some 16),(.bin .eql (.t 11) (.t 15)),none⟩]) (.cond (.t 16) (.seq (.ops [⟨(some 17),(.dY (.t 5)),none⟩,⟨(some 4),(.dY (.t 17)),none⟩]) .ret) .skip)))) (.ops [⟨(some 18),(.bin .add (.t 8) (.c (.int .i64 1))),none⟩,⟨(some 8),(.dY (.t 18)),none⟩]))))))) (.seq (.ops [⟨(some 4),(.dY (.c (.int .i64 (-1)))),none⟩]) .ret))),false⟩
def uF(g:FuncId):aB:=⟨[(.tmp 4)],(.seq (.ops [⟨(some 4),(.dY (.c (.bool false))),none⟩]) (.seq (.ops [⟨(some 5),(.dY (.t 0)),none⟩,⟨(some 6),(.dY (.t 1)),none⟩,⟨(some 7),(.call (.c (.fn g [])) [(.t 5),(.t 6)]),none⟩,⟨(some 8),(.bin .geq (.t 7) (.c (.int .i64 0))),none⟩,⟨(some 4),(.dY (.t 8)),none⟩]) .ret)),false⟩
def ql(z by_:Nat)(zv:List SV):aB:=⟨[(.tmp 2)],(.seq (.ops [⟨(some 2),(.dY (.c (.ao 0 [] true))),none⟩]) (.seq (.seq (.ops [⟨(some 3),(.dY (.t 0)),none⟩]) (.G6 4 false (.t 3) (.cond (.t 4) (.seq (.seq (.ops [⟨(some 2),(.dY (.c (.ao 0 [] true))),none⟩]) (.bC [(2,z)])) .ret) .skip))) (.seq (.ops [⟨(some 5),(.dT z zv 0 []),none⟩,⟨(some 6),(.dY (.t 0)),none⟩,⟨(some 7),(.append z by_ (.t 5) (.t 6)),none⟩,⟨(some 2),(.dY (.t 7)),none⟩]) .ret))),false⟩
def iS(P:List Int):List (List SV):=P.map fun p=>[.int .i64 p]
@[go_sem] theorem JJ {W:List Int}:(iS W).length=W.length:=by simp[iS]
@[go_sem] theorem Je (W:List Int)(i:Nat):(iS W)[i]?=(W[i]?).map (fun p=>[.int .i64 p]):=by simp[iS]
theorem Hs(L:List Int):∀cs∈iS L,∀c∈cs,c.refs=0:=by
 intro cs hcs c hc
 simp only[iS,adt]at hcs
 obtain⟨b,_,rfl⟩:=hcs
 simp only[adH]at hc
 subst hc
 simp[SV.refs]
theorem Kh(L:List Int)(M H d):∀cs∈iS L,∀c∈cs,ez M H (d+1) c=some c:=by
 intro cs hcs c hc
 simp only[iS,adt]at hcs
 obtain⟨b,_,rfl⟩:=hcs
 simp only[adH]at hc
 subst hc
 simp only[ez]
theorem zA(L:List Int)(x:Int):iS L++[[.int .i64 x]]=iS (L++[x]):=by simp[iS]
theorem zY(L:List Int)(n:Nat):(iS L).take n=iS (L.take n):=by simp[iS]
theorem bO{A:Type}{l:List A}{i:Nat}(h:i<l.length):∃a,l[i]?=some a:=⟨l[i],acK h⟩
theorem bE{i n:Nat}(h:i<n)(hn:n≤maxLen):bb ((i:Int)+1)=((i+1:Nat):Int):=by
 simp only[maxLen]at hn
 rw[al (by omega) (by omega)];omega
def el(ag:Bool)(r:List SV):SV:=bif ag then .agg r else r.headD .undef
theorem MO{ag:Bool}{z:Nat}{r:List SV}(h:r.length=z)(h1:ag=false→z=1):dc ag z r 0=some (el ag r):=by
 cases ag with
 |true=>subst h;simp[dc,el]
 |false=>
  have:=h1 rfl
  subst this
  match r,h with
  |[x],_=>rfl
inductive LV(bl:List aC)(z:Nat)(L:List (List SV)):SV→Prop
 |ao (z':Nat) (f:Bool) (hz:z'=z∨L=[]):LV bl z L (.ao z' L f)
 |bn (b cC off:Nat) (L':List (List SV)) (ex:Bool) (hb:bl[b]?=some (.arr cC z L' ex)) (hle:off+L.length≤L'.length) (hL:L=(L'.drop off).take L.length):LV bl z L (.bn b cC off L.length)
section
variable{bl:List aC}{z:Nat}{L:List (List SV)}{v:SV}
theorem LV.cur(h:LV bl z L v)(es ro):cur ⟨bl,es,ro⟩ v=true:=by
 cases h with
 |ao=>rfl
 |bn b cC off L' ex hb=>simp[Sh.cur,bk,hb]
theorem LV.ew(h:LV bl z L v)(es ro):ew ⟨bl,es,ro⟩ z v=true:=by
 cases h with
 |ao z' f hz=>rcases hz with rfl|rfl<;>simp[Sh.ew]
 |bn b cC off L' ex hb=>simp[Sh.ew,bk,hb]
theorem LV.len(h:LV bl z L v):pY v=some L.length:=by cases h<;>rfl
theorem LV.at(h:LV bl z L v){i:Nat}{r:List SV}(hi:L[i]?=some r):∃p,ja v (.int .i64 i)=some p∧∀ag n es ro,dg ag n ⟨bl,es,ro⟩ p=dc ag n r 0:=by
 have hlt:=(acm.1 hi).1
 cases h with
 |ao z' f hz=>exact⟨.fY r,by simp[ja,jG,hlt];exact(acm.1 hi).2,fun ag n es ro=>by simp[dg]⟩
 |bn b cC off L' ex hb hle hL=>
  refine⟨.ptr b cC (off+i) 0,by simp[ja,jG,hlt],fun ag n es ro=>?_⟩
  have:L'[off+i]?=some r:=by
   rw[hL,acX,if_pos hlt,ado]at hi
   exact hi
  simp[dg,bk,hb,this]
theorem LV.refs(h:LV bl z L v):v.refs≤bl.length:=by
 cases h with
 |ao z' f hz=>simp[SV.refs]
 |bn b cC off L' ex hb hle hL=>
  have:=(acm.1 hb).1
  simp[SV.refs];omega
theorem LV.nil(h:LV bl z L v)(h0:v.refs=0):LV [] z L v:=by
 cases h with
 |ao z' f hz=>exact .ao z' f hz
 |bn b cC off L' ex hb hle hL=>simp[SV.refs]at h0
end
section
variable{T:FuncId→Option aB}{f:FuncId}{F:aB}{xs:List SV}{n:Nat}{H:ab}
theorem nH{v:SV}(hT:T f=some F)(hk:F.keep=false)(hs:kg v=true)
 (h:∀(R:Type) (k:SV→ab→Option R) (bl:List aC) (ro:Nat),(bl=[]∧SV.refs.av xs=0∨bl=H.bl)→runK (aa T n) (pZ F.res k) F.body [] (eo xs) ⟨bl,[],ro⟩ ()=k v ⟨bl,[],ro⟩) :
 aa T (n+1) (.fn f) xs H=some (v,H):=by
 have hfz:∀N H',ez N H' cG v=some v:=fun N H'=>by
  cases v<;>simp only[kg,adh]at hs<;>simp[cG,ez,SV.refs]
 cases hp:eI F xs with
 |true=>
  refine ae hT hp ?_
  have hr:SV.refs.av xs=0:=by
   unfold eI at hp
   simp only[acw,adK]at hp
   exact hp.1
  exact(h SV (fun v H'=>ez 0 H' cG v) [] 0 (.inl ⟨rfl,hr⟩)).trans (hfz _ _)
 |false=>
  refine bm hT hp ?_
  refine(h _ (fun v H'=>da F.keep H v H') H.bl _ (.inr rfl)).trans ?_
  rw[hk,pq,hfz]
  simp only[adq,Br,acH,decide_true,acG,adm,adF]
  obtain⟨bl,es,ro⟩:=H
  simp[Sh.di]
theorem ri{ag:Bool}{z id:Nat}{caps:List SV}{v:SV}{L:List (List SV)}{p:List SV→Bool}(hT:T f=some (jZ ag z))(hv:LV H.bl z L v)(hz:∀r∈L,r.length=z)(h1:ag=false→z=1)(hm:L.length≤maxLen)
 (hc:∀r∈L,∀bl ro,(bl=[]∧v.refs=0∧SV.refs.av caps=0∨bl=H.bl)→aa T n (.fn id) (el ag r::caps) ⟨bl,[],ro⟩=some (.bool (p r),⟨bl,[],ro⟩))
 (hcr:SV.refs.av caps≤H.bl.length):aa T (n+1) (.fn f) [v,.fn id caps] H=some (.int .i64 (eD p L),H):=by
 refine nH hT rfl rfl (fun R k bl ro hbl=>?_)
 have hbl':bl=[]∧v.refs=0∧SV.refs.av caps=0∨bl=H.bl:=by
  rcases hbl with⟨h1,h2⟩|h
  ·simp only[SV.refs.av,SV.refs]at h2
   exact .inl ⟨h1,by omega,by omega⟩
  ·exact .inr h
 have hv':LV bl z L v:=by
  rcases hbl' with⟨h1,h2,_⟩|h
  ·rw[h1];exact hv.nil h2
  ·rw[h];exact hv
 have hd:decide (max v.refs (SV.refs.av caps)≤bl.length)=true:=by
  have:=hv'.refs
  rw[acr]
  rcases hbl' with⟨h1,h2,h3⟩|h
  ·omega
  ·rw[h]at this ⊢;omega
 have q1:=hv'.cur [] ro
 have q2:=hv'.ew [] ro
 have q3:=hv'.len
 simp only[jZ,go_sem,Int.reduceToNat,Nat.reduceAdd,Nat.reduceBEq,Nat.reduceLeDiff,Nat.reduceLT,Nat.reduceMul,Nat.reduceSub,Int.reduceEq,Int.reduceLT,Int.reduceLE,Int.reduceNeg,q1,q3]
 refine ba (fun i=>([(0,v),(1,.fn id caps),(7,.int .i64 L.length),(8,.int .i64 i)],⟨bl,[],ro⟩)) (fun i=>∀(j:Nat) r,j<i→L[j]?=some r→p r=false) L.length ?_ (fun j r h=>by omega) ?_
 ·simp only[go_sem,Int.reduceToNat,Nat.reduceAdd,Nat.reduceBEq,Nat.reduceLeDiff,Nat.reduceLT,Nat.reduceMul,Nat.reduceSub,Int.reduceEq,Int.reduceLT,Int.reduceLE,Int.reduceNeg,aez,hd]
 ·intro i hi hP
  rcases acz i L.length with hlt|hge
  ·obtain⟨r,hr'⟩:=bO hlt
   have hmem:=acy hr'
   obtain⟨p',a1,a2⟩:=hv'.at hr'
   have hw:=bE hlt hm
   have hcr:=hc r hmem bl ro hbl'
   have hld:=MO (hz r hmem) h1
   cases hp:p r with
   |true=>
    have hx:=mb hr' hp hP
    simp only[go_sem,Int.reduceToNat,Nat.reduceAdd,Nat.reduceBEq,Nat.reduceLeDiff,Nat.reduceLT,Nat.reduceMul,Nat.reduceSub,Int.reduceEq,Int.reduceLT,Int.reduceLE,Int.reduceNeg,hlt,q2,a1,a2,hld,hcr,hp,hx]
   |false=>
    simp only[go_sem,Int.reduceToNat,Nat.reduceAdd,Nat.reduceBEq,Nat.reduceLeDiff,Nat.reduceLT,Nat.reduceMul,Nat.reduceSub,Int.reduceEq,Int.reduceLT,Int.reduceLE,Int.reduceNeg,hlt,q2,a1,a2,hld,hcr,hp,hw]
    refine⟨trivial,?_,fun j r' hj hr2=>?_⟩
    ·simp only[aez,hd,go_sem,Int.reduceToNat,Nat.reduceAdd,Nat.reduceBEq,Nat.reduceLeDiff,Nat.reduceLT,Nat.reduceMul,Nat.reduceSub,Int.reduceEq,Int.reduceLT,Int.reduceLE,Int.reduceNeg]
    ·rcases acz j i with hlt2|hge2
     ·exact hP j r' hlt2 hr2
     ·have:j=i:=by omega
      subst this
      rw[hr']at hr2
      cases hr2
      exact hp
  ·have hlt:¬i<L.length:=by omega
   have hx:eD p L= -1:=ig (fun j a hj=>hP j a (by have:=(acm.1 hj).1;omega) hj)
   simp only[go_sem,Int.reduceToNat,Nat.reduceAdd,Nat.reduceBEq,Nat.reduceLeDiff,Nat.reduceLT,Nat.reduceMul,Nat.reduceSub,Int.reduceEq,Int.reduceLT,Int.reduceLE,Int.reduceNeg,hlt,hx]
theorem iC{ag:Bool}{z id g:Nat}{caps:List SV}{v:SV}{L:List (List SV)}{p:List SV→Bool}(hT:T f=some (sW g))(hTg:T g=some (jZ ag z))(hv:LV H.bl z L v)(hz:∀r∈L,r.length=z)(h1:ag=false→z=1)(hm:L.length≤maxLen)
 (hc:∀r∈L,∀bl ro,(bl=[]∧v.refs=0∧SV.refs.av caps=0∨bl=H.bl)→aa T n (.fn id) (el ag r::caps) ⟨bl,[],ro⟩=some (.bool (p r),⟨bl,[],ro⟩))
 (hcr:SV.refs.av caps≤H.bl.length):aa T (n+2) (.fn f) [v,.fn id caps] H=some (.bool (L.any p),H):=by
 refine nH hT rfl rfl (fun R k bl ro hbl=>?_)
 have hbl':bl=[]∧v.refs=0∧SV.refs.av caps=0∨bl=H.bl:=by
  rcases hbl with⟨h1,h2⟩|h
  ·simp only[SV.refs.av,SV.refs]at h2
   exact .inl ⟨h1,by omega,by omega⟩
  ·exact .inr h
 have hv':LV bl z L v:=by
  rcases hbl' with⟨h1,h2,_⟩|h
  ·rw[h1];exact hv.nil h2
  ·rw[h];exact hv
 have hi:=ri (H:=⟨bl,[],ro⟩) hTg hv' hz h1 hm (fun r hr bl2 ro2 h=>hc r hr bl2 ro2 (by
  rcases h with h|h
  ·exact .inl h
  ·rw[show bl2=bl from h];exact hbl')) (by
  rcases hbl' with⟨h1,h2,h3⟩|h
  ·simp[h3]
  ·show SV.refs.av caps≤bl.length;rw[h];exact hcr)
 simp only[sW,go_sem,Int.reduceToNat,Nat.reduceAdd,Nat.reduceBEq,Nat.reduceLeDiff,Nat.reduceLT,Nat.reduceMul,Nat.reduceSub,Int.reduceEq,Int.reduceLT,Int.reduceLE,Int.reduceNeg,hi,iw]
theorem BM{v:SV}{M:List Int}{x:Int}(hT:T f=some qD)(hv:LV H.bl 1 (iS M) v)(hm:M.length≤maxLen):aa T (n+1) (.fn f) [v,.int .i64 x] H=some (.int .i64 (eD (fun y=>decide (x=y)) M),H):=by
 refine nH hT rfl rfl (fun R k bl ro hbl=>?_)
 have hv':LV bl 1 (iS M) v:=by
  rcases hbl with⟨h1,h2⟩|h
  ·rw[h1];exact hv.nil (by simp only[SV.refs.av,SV.refs]at h2;omega)
  ·rw[h];exact hv
 have hd:decide (v.refs≤bl.length)=true:=by rw[acr];exact hv'.refs
 have q1:=hv'.cur [] ro
 have q2:=hv'.ew [] ro
 have q3:=hv'.len
 rw[JJ]at q3
 simp only[qD,go_sem,Int.reduceToNat,Nat.reduceAdd,Nat.reduceBEq,Nat.reduceLeDiff,Nat.reduceLT,Nat.reduceMul,Nat.reduceSub,Int.reduceEq,Int.reduceLT,Int.reduceLE,Int.reduceNeg,q1,q3]
 refine ba (fun i=>([(0,v),(1,.int .i64 x),(7,.int .i64 M.length),(8,.int .i64 i)],⟨bl,[],ro⟩)) (fun i=>∀(j:Nat) y,j<i→M[j]?=some y→decide (x=y)=false) M.length ?_ (fun j r h=>by omega) ?_
 ·simp only[go_sem,Int.reduceToNat,Nat.reduceAdd,Nat.reduceBEq,Nat.reduceLeDiff,Nat.reduceLT,Nat.reduceMul,Nat.reduceSub,Int.reduceEq,Int.reduceLT,Int.reduceLE,Int.reduceNeg,aez,hd]
 ·intro i hi hP
  rcases acz i M.length with hlt|hge
  ·obtain⟨y,hy⟩:=bO hlt
   obtain⟨p',a1,a2⟩:=hv'.at (i:=i) (by rw[Je,hy];rfl)
   have hw:=bE hlt hm
   have hld:dc false 1 [SV.int .i64 y] 0=some (.int .i64 y):=rfl
   cases hp:decide (x=y)with
   |true=>
    have hx:=mb hy hp hP
    simp only[go_sem,Int.reduceToNat,Nat.reduceAdd,Nat.reduceBEq,Nat.reduceLeDiff,Nat.reduceLT,Nat.reduceMul,Nat.reduceSub,Int.reduceEq,Int.reduceLT,Int.reduceLE,Int.reduceNeg,hlt,q2,a1,a2,hld,hp,hx]
   |false=>
    simp only[go_sem,Int.reduceToNat,Nat.reduceAdd,Nat.reduceBEq,Nat.reduceLeDiff,Nat.reduceLT,Nat.reduceMul,Nat.reduceSub,Int.reduceEq,Int.reduceLT,Int.reduceLE,Int.reduceNeg,hlt,q2,a1,a2,hld,hp,hw]
    refine⟨trivial,?_,fun j r' hj hr2=>?_⟩
    ·simp only[aez,hd,go_sem,Int.reduceToNat,Nat.reduceAdd,Nat.reduceBEq,Nat.reduceLeDiff,Nat.reduceLT,Nat.reduceMul,Nat.reduceSub,Int.reduceEq,Int.reduceLT,Int.reduceLE,Int.reduceNeg]
    ·rcases acz j i with hlt2|hge2
     ·exact hP j r' hlt2 hr2
     ·have:j=i:=by omega
      subst this
      rw[hy]at hr2
      cases hr2
      exact hp
  ·have hlt:¬i<M.length:=by omega
   have hx:eD (fun y=>decide (x=y)) M= -1:=ig (fun j a hj=>hP j a (by have:=(acm.1 hj).1;omega) hj)
   simp only[go_sem,Int.reduceToNat,Nat.reduceAdd,Nat.reduceBEq,Nat.reduceLeDiff,Nat.reduceLT,Nat.reduceMul,Nat.reduceSub,Int.reduceEq,Int.reduceLT,Int.reduceLE,Int.reduceNeg,hlt,hx]
theorem G1(x:Int)(M:List Int):(M.any fun y=>decide (x=y))=decide (x∈M):=by
 rw[adz];simp
theorem tf{v:SV}{M:List Int}{x:Int}{g:Nat}(hT:T f=some (uF g))(hTg:T g=some qD)(hv:LV H.bl 1 (iS M) v)(hm:M.length≤maxLen):aa T (n+2) (.fn f) [v,.int .i64 x] H=some (.bool (decide (x∈M)),H):=by
 refine nH hT rfl rfl (fun R k bl ro hbl=>?_)
 have hv':LV bl 1 (iS M) v:=by
  rcases hbl with⟨h1,h2⟩|h
  ·rw[h1];exact hv.nil (by simp only[SV.refs.av,SV.refs]at h2;omega)
  ·rw[h];exact hv
 have hi:=BM (n:=n) (H:=⟨bl,[],ro⟩) (x:=x) hTg hv' hm
 simp only[uF,go_sem,Int.reduceToNat,Nat.reduceAdd,Nat.reduceBEq,Nat.reduceLeDiff,Nat.reduceLT,Nat.reduceMul,Nat.reduceSub,Int.reduceEq,Int.reduceLT,Int.reduceLE,Int.reduceNeg,hi,iw,G1]
def Still(L:List (List SV)):Prop:=∀cs∈L,∀c∈cs,c.refs=0∧∀N H d,ez N H (d+1) c=some c
theorem Still.ints(M:List Int):Still (iS M):=fun cs hcs c hc=>⟨Hs M cs hcs c hc,fun N H d=>Kh M N H d cs hcs c hc⟩
theorem Still.zero{L:List (List SV)}(h:Still L):SV.refs.av L.flatten=0:=jw (fun cs hcs c hc=>(h cs hcs c hc).1)
theorem Still.fz{L:List (List SV)}(h:Still L)(N H d v n z e)(hn:L.length=n):KH N H (d+1) v 0 n (some (.arr v z L e))=some (.ao z L e):=
 BB N H (d+1) v n z L e hn (fun cs hcs c hc=>(h cs hcs c hc).2 N H d) (fun cs hcs c hc=>(h cs hcs c hc).1)
theorem Still.take{L:List (List SV)}(h:Still L)(N H d v n z)(hn:n≤L.length):KH N H (d+1) v 0 n (some (.arr v z L false))=some (.ao z (L.take n) false):=by
 have hs:Still (L.take n):=fun cs hcs c hc=>h cs (afa hcs) c hc
 simp only[KH,aev,adr,adL,ac9,hn,decide_true,acG,ac3]
 rw[n8 (fun cs hcs=>n8 (fun c hc=>(hs cs hcs c hc).2 N H d))]
 simp[hs.zero]
theorem ub{z z' by_:Nat}{zv:List SV}{L:List (List SV)}{fl:Bool}(hT:T f=some (ql z by_ zv))(hz:z'=z∨L=[])(hb:L.length*by_≤bV)(bl:List aC)(es:List (Nat×Nat))(ro:Nat) :
 aa T (n+1) (.se f) [.ao z' L fl] ⟨bl,es,ro⟩=some (.bn bl.length 0 0 L.length,⟨bl++[.arr 0 z L false],es,ro⟩):=by
 refine eJ hT ?_
 have hbb:decide (L.length*by_≤bV)=true:=acp hb
 simp only[ql,go_sem,Int.reduceToNat,Nat.reduceAdd,Nat.reduceBEq,Nat.reduceLeDiff,Nat.reduceLT,Nat.reduceMul,Nat.reduceSub,Int.reduceEq,Int.reduceLT,Int.reduceLE,Int.reduceNeg]
 cases L with
 |nil=>
  simp only[go_sem,Int.reduceToNat,Nat.reduceAdd,Nat.reduceBEq,Nat.reduceLeDiff,Nat.reduceLT,Nat.reduceMul,Nat.reduceSub,Int.reduceEq,Int.reduceLT,Int.reduceLE,Int.reduceNeg]
  refine ya ?_ ?_
  ·simp only[go_sem,Int.reduceToNat,Nat.reduceAdd,Nat.reduceBEq,Nat.reduceLeDiff,Nat.reduceLT,Nat.reduceMul,Nat.reduceSub,Int.reduceEq,Int.reduceLT,Int.reduceLE,Int.reduceNeg]
  ·simp only[go_sem,Int.reduceToNat,Nat.reduceAdd,Nat.reduceBEq,Nat.reduceLeDiff,Nat.reduceLT,Nat.reduceMul,Nat.reduceSub,Int.reduceEq,Int.reduceLT,Int.reduceLE,Int.reduceNeg,ae1]
 |cons a L=>
  obtain rfl:z'=z:=hz.resolve_right (by simp)
  simp only[acR]at hbb
  simp only[go_sem,Int.reduceToNat,Nat.reduceAdd,Nat.reduceBEq,Nat.reduceLeDiff,Nat.reduceLT,Nat.reduceMul,Nat.reduceSub,Int.reduceEq,Int.reduceLT,Int.reduceLE,Int.reduceNeg,hbb]
theorem mg{A:Type}{M:List A}{k:Nat}{y:A}(h:M[k]?=some y):M.take (k+1)=M.take k++[y]:=by
 rw[adP,h];rfl
theorem zR{A:Type}(p:A→Bool):∀l:List A,-1≤eD p l∧eD p l<l.length
 |[]=>by simp[eD]
 |a::l=>by
  have ih:=zR p l
  simp only[eD,acR]
  split
  ·omega
  ·split<;>omega
theorem tT{A:Type}(p:A→Bool):∀(l:List A) (i:Nat),eD p l=(i:Int)→(∃a,l[i]?=some a∧p a=true)∧∀j a,j<i→l[j]?=some a→p a=false
 |[],i,h=>by exfalso;simp only[eD]at h;omega
 |a::l,i,h=>by
  simp only[eD]at h
  split at h
  ·rename_i hp
   have:i=0:=by omega
   subst this
   exact⟨⟨a,rfl,hp⟩,fun j b hj=>by omega⟩
  ·rename_i hp
   split at h
   ·omega
   ·obtain⟨i',rfl⟩:∃i',i=i'+1:=⟨i-1,by omega⟩
    obtain⟨⟨b,h1,h2⟩,h3⟩:=tT p l i' (by omega)
    refine⟨⟨b,by simpa using h1,h2⟩,fun j c hj hc=>?_⟩
    cases j with
    |zero=>simp at hc;subst hc;simpa using hp
    |succ j=>exact h3 j c (by omega) (by simpa using hc)
theorem D7{A:Type}(p:A→Bool)(l:List A)(h:eD p l= -1):l.any p=false:=by
 rw[←iw,h];rfl
theorem vM{A B:Type}(g:A→B)(p:B→Bool):∀l:List A,eD p (l.map g)=eD (fun a=>p (g a)) l
 |[]=>rfl
 |a::l=>by simp only[ada,eD,vM g p l]
end
end
abbrev OO(d:Nat)(o:mi):aL:=⟨some d,o,none⟩
abbrev OT(d:Nat)(o:mi)(g:Nat):aL:=⟨some d,o,some (g,true)⟩
abbrev OU(d:Nat)(o:mi)(g:Nat):aL:=⟨some d,o,some (g,false)⟩
abbrev PT(d x g:Nat):aL:=⟨some d,.dY (.t x),some (g,true)⟩
abbrev PU(d x g:Nat):aL:=⟨some d,.dY (.t x),some (g,false)⟩
abbrev IC(n:Int):bX:=.c (.int .i64 n)
abbrev OM(d x:Nat):aL:=⟨some d,.dY (.t x),none⟩
abbrev OK(d:Nat)(n:Int):aL:=⟨some d,.dY (.c (.int .i64 n)),none⟩
abbrev OZ(d:Nat):aL:=⟨some d,.dY (.c (.ao 0 [] true)),none⟩
abbrev OQ(d:Nat)(b:Bool):aL:=⟨some d,.dY (.c (.bool b)),none⟩
abbrev OX(d x i:Nat):aL:=⟨some d,.extract (.t x) i,none⟩
abbrev OF(d n x:Nat):aL:=⟨some d,.af n (.t x),none⟩
abbrev OL(d x:Nat):aL:=⟨some d,.load false 1 (.t x),none⟩
abbrev OA(d n x:Nat):aL:=⟨some d,.load true n (.t x),none⟩
abbrev ON(d x:Nat):aL:=⟨some d,.eh (.t x),none⟩
abbrev OE(d x:Nat):aL:=⟨some d,.len (.t x),none⟩
abbrev OG(d x:Nat):aL:=⟨some d,.box (.t x),none⟩
abbrev OH(d x:Nat):aL:=⟨some d,.dI (.t x),none⟩
abbrev OI(d z x i:Nat):aL:=⟨some d,.bw z (.t x) (.t i),none⟩
abbrev OB(d:Nat)(o:BinOp)(x y:Nat):aL:=⟨some d,.bin o (.t x) (.t y),none⟩
abbrev OJ(d:Nat)(o:BinOp)(x:Nat)(n:Int):aL:=⟨some d,.bin o (.t x) (.c (.int .i64 n)),none⟩
abbrev OC(d f:Nat)(xs:List Nat):aL:=⟨some d,.call (.c (.fn f [])) (xs.map .t),none⟩
abbrev DP:bH:=⟨.pure,[],0,0⟩
abbrev DS:bH:=⟨.j6,[],0,0⟩
abbrev DB:bH:=⟨.gU,[],0,0⟩
abbrev DM(d x:Nat):aL×bH:=(OM d x,DP)
abbrev DD(d:Nat)(o:BinOp)(x y:Nat):aL×bH:=(OB d o x y,DP)
abbrev DN(d x:Nat):aL×bH:=(ON d x,DS)
abbrev DF(d n x:Nat):aL×bH:=(OF d n x,DS)
abbrev DL(d x:Nat):aL×bH:=(OL d x,DS)
abbrev DI(d z x i:Nat):aL×bH:=(OI d z x i,DS)
abbrev DA(d n x:Nat):aL×bH:=(OA d n x,DS)
abbrev DE(d x:Nat):aL×bH:=(OE d x,DS)
abbrev SQ(l:List aL)(c:ct):ct:=.seq (.ops l) c
abbrev CS(x:Nat)(c:ct):ct:=.cond (.t x) c .skip
abbrev CX(x i:Nat):ct:=.cond (.t x) .skip (.exit i)
end Go.Sh
