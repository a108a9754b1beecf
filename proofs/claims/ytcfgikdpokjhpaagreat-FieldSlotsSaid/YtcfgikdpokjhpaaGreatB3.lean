/- Part of the proof of FieldSlotsSaid: texts ShEw, ShIn, ShLaw, ShFu, ShLp, ShStd, ShAb. -/
import Derived.OpenShut
import Derived.WalkKit
import Derived.ProofKit
import Derived.ReadAgain
import Derived.Handed
import Derived.JoinedOf
import Derived.Test.YtcfgikdpokjhpaaGreatB2
namespace Go.Sh
set_option linter.unusedSectionVars false
set_option linter.unnecessarySimpa false
set_option linter.unusedSimpArgs false
set_option linter.unusedVariables false
set_option maxRecDepth 100000
set_option maxHeartbeats 4000000
section
section
variable(rec:Rec)(e:Env)(H:ae)
@[go_sem] theorem Tj (x):az rec e H (.eg x)=some (ev e x,H):=Eq.trans rfl rfl
@[go_sem] theorem P7 (c a b):az rec e H (.pick c a b)=(kB (ev e c) (ev e a) (ev e b)).map (·,H):=Eq.trans rfl rfl
@[go_sem] theorem S8 (x):az rec e H (.box x)=(cu (ev e x)).map fun cs=>(.ptr H.bl.length 0 0 0,bM H (.box cs)):=Eq.trans rfl rfl
@[go_sem] theorem N2 (z):az rec e H (.alloc z)=some (.ptr H.bl.length 0 0 0,bM H (.box z)):=Eq.trans rfl rfl
@[go_sem] theorem Mr (z ps):az rec e H (.build z ps)=(gJ (ev e) z ps).map (.agg ·,H):=Eq.trans rfl rfl
@[go_sem] theorem Iz (bT z n ps):az rec e H (.fL bT z n ps)=(eQ (ev e) bT (List.replicate n z) ps).map fun L=>(.bp H.bl.length 0 0 n,bM H (.arr 0 bT L true)):=Eq.trans rfl rfl
@[go_sem] theorem MM (bT z n ps):az rec e H (.dz bT z n ps)=aT (eQ (ev e) bT (List.replicate n z) ps) (fun L=>bif SV.refs.aJ L.flatten==0 then some (.ay bT L true,H)else none) ():=by
  simp only[az,cf]
  cases eQ (ev e) bT (List.replicate n z) ps with
  |none=>rfl
  |some L=>simp only[abO,aT];cases(SV.refs.aJ L.flatten==0)<;>rfl
@[go_sem] theorem Ou (ag n a):az rec e H (.load ag n a)=(db ag n H (ev e a)).map (·,H):=Eq.trans rfl rfl
@[go_sem] theorem KF (n a x):az rec e H (.store n a x)=(dZ n H (ev e x) (ev e a)).map (.undef,·):=Eq.trans rfl rfl
@[go_sem] theorem IU (x):az rec e H (.eb x)=bif cur H (ev e x)then(ld (ev e x)).map (·,H)else none:=Eq.trans rfl rfl
@[go_sem] theorem UL (op x y):az rec e H (.bin op x y)=(cS op (ev e x) (ev e y)).map (·,H):=Eq.trans rfl rfl
def w6(neg:Bool)(sh:List LK)(H:ae):SV→SV→Option (SV×ae)
 | .agg a,.agg b=>(bB sh a b).map fun r=>(.bool (neg ^^ r),H)
 |_,_=>none
@[go_sem] theorem K4 (neg sh x y):az rec e H (.dG neg sh x y)=w6 neg sh H (ev e x) (ev e y):=by
  simp only[az,cf,w6]
  split<;>simp_all
@[go_sem] theorem HZ (neg sh a b):w6 neg sh H (.agg a) (.agg b)=(bB sh a b).map fun r=>(.bool (neg ^^ r),H):=Eq.trans rfl rfl
def AW(H:ae):SV→Option (SV×ae)
 | .bool b=>some (.bool (!b),H)
 |_=>none
@[go_sem] theorem PS (x):az rec e H (.cQ x)=AW H (ev e x):=by simp only[az,cf,AW];split<;>simp_all
@[go_sem] theorem Ih (b):AW H (.bool b)=some (.bool (!b),H):=Eq.trans rfl rfl
def Ag(H:ae):SV→Option (SV×ae)
 | .int k n=>some (.int k (k.wrap (0-n)),H)
 |_=>none
@[go_sem] theorem PF (x):az rec e H (.vC x)=Ag H (ev e x):=by simp only[az,cf,Ag];split<;>simp_all
@[go_sem] theorem Io (k n):Ag H (.int k n)=some (.int k (k.wrap (0-n)),H):=Eq.trans rfl rfl
def wj(k:IntKind)(H:ae):SV→Option (SV×ae)
 | .int _ n=>some (.int k (k.wrap n),H)
 |_=>none
@[go_sem] theorem NX (k x):az rec e H (.cA k x)=wj k H (ev e x):=by simp only[az,cf,wj];split<;>simp_all
@[go_sem] theorem GB (k k2 n):wj k H (.int k2 n)=some (.int k (k.wrap n),H):=Eq.trans rfl rfl
@[go_sem] theorem Pv (f cs):az rec e H (.ib f cs)=some (.fn f (cs.map (ev e)),H):=Eq.trans rfl rfl
@[go_sem] theorem KR (f cs):az rec e H (.lI f cs)=some (.oX f (cs.map (ev e)),H):=Eq.trans rfl rfl
@[go_sem] theorem HM (bT z bytes l c):az rec e H (.dO bT z bytes l c)=iG bT z bytes H (ev e l) (ev e c):=Eq.trans rfl rfl
@[go_sem] theorem IF (bT x lo hi mx):az rec e H (.fw bT x lo hi mx)=bif ed H bT (ev e x)then((mm (ev e x) (lo.map (ev e)) (hi.map (ev e)) (mx.map (ev e))).orElse fun _=>iv H (ev e x) (lo.map (ev e)) (hi.map (ev e)) (mx.map (ev e))).map (·,H)else none:=Eq.trans rfl rfl
@[go_sem] theorem Of (off x):az rec e H (.af off x)=bif cur H (ev e x)then(fp off (ev e x)).map (·,H)else none:=Eq.trans rfl rfl
def we(ag:Bool)(n off:Nat)(H:ae):SV→Option (SV×ae)
 | .agg cs=>(cX ag n cs off).map (·,H)
 |_=>none
@[go_sem] theorem Od (ag n off x):az rec e H (.field ag n off x)=we ag n off H (ev e x):=by simp only[az,cf,we];split<;>simp_all
@[go_sem] theorem Hi (ag n off cs):we ag n off H (.agg cs)=(cX ag n cs off).map (·,H):=Eq.trans rfl rfl
@[go_sem] theorem I0 (bT x ix):az rec e H (.ba bT x ix)=bif ed H bT (ev e x)then(iy (ev e x) (ev e ix)).map (·,H)else none:=Eq.trans rfl rfl
@[go_sem] theorem Il (len bT x ix):az rec e H (.gq len bT x ix)=bif cur H (ev e x)then(iC len (ev e ix)).bind fun i=>(fp (i*bT) (ev e x)).map (·,H)else none:=Eq.trans rfl rfl
def AK(i:Nat)(H:ae):SV→Option (SV×ae)
 | .bk vs=>(vs[i]?).map (·,H)
 |_=>none
@[go_sem] theorem HI (x i):az rec e H (.extract x i)=AK i H (ev e x):=by simp only[az,cf,AK];split<;>simp_all
@[go_sem] theorem I7 (i vs):AK i H (.bk vs)=(vs[i]?).map (·,H):=Eq.trans rfl rfl
@[go_sem] theorem Qq (x):az rec e H (.len x)=bif cur H (ev e x)then(pc (ev e x)).map fun(n:Nat)=>(.int .i64 n,H)else none:=Eq.trans rfl rfl
def sJ(H:ae)(ix:SV):SV→Option (SV×ae)
 | .str s=>(iC s.size ix).bind fun i=>(s.data[i]?).map fun b=>(.int .u8 b.toNat,H)
 |_=>none
@[go_sem] theorem IJ (x ix):az rec e H (.fM x ix)=sJ H (ev e ix) (ev e x):=by simp only[az,cf,sJ];split<;>simp_all
@[go_sem] theorem Fh (ix s):sJ H ix (.str s)=(iC s.size ix).bind fun i=>(s.data[i]?).map fun b=>(.int .u8 b.toNat,H):=Eq.trans rfl rfl
@[go_sem] theorem IA (x):az rec e H (.jA x)=(nG 1 H (ev e x)).bind fun L=>(toBytes L).map fun l=>(.str ⟨l.toArray⟩,H):=Eq.trans rfl rfl
def Bu(H:ae):SV→Option (SV×ae)
 | .str s=>some (.int .i64 s.size,H)
 |_=>none
@[go_sem] theorem Pc (x):az rec e H (.fC x)=Bu H (ev e x):=by simp only[az,cf,Bu];split<;>simp_all
@[go_sem] theorem I9 (s):Bu H (.str s)=some (.int .i64 s.size,H):=Eq.trans rfl rfl
theorem Gf:(fun a b:Int=>if b>a then b else a)=max:=by funext a b;simp only[Int.max_def];split<;>split<;>omega
theorem Gt:(fun a b:Int=>if b<a then b else a)=min:=by funext a b;simp only[Int.min_def];split<;>split<;>omega
@[go_sem] theorem P8 (xs):az rec e H (.gU xs)=(kq max (xs.map (ev e))).map (·,H):=by rw[←Gf];rfl
@[go_sem] theorem PV (xs):az rec e H (.jO xs)=(kq min (xs.map (ev e))).map (·,H):=by rw[←Gt];rfl
@[go_sem] theorem LG (f xs):az rec e H (.iD f xs)=aT (bQ ((xs.map (ev e)).map (eh 0 H cE))) (fun vs=>aT (rec (.fn f) vs ⟨[],[],0⟩) (fun r=>bif xk r.1 then some (r.1,H)else none) ()) ():=by
  simp only[az,rK]
  cases bQ ((xs.map (ev e)).map (eh 0 H cE))with
  |none=>rfl
  |some vs=>simp only[abO,aT];cases rec (.fn f) vs ⟨[],[],0⟩<;>rfl
@[go_sem] theorem Wo (vs):xk (.bk vs)=vs.all jH:=Eq.trans rfl rfl
@[go_sem] theorem O8 (k n):jH (.int k n)=true:=Eq.trans rfl rfl
@[go_sem] theorem Jv (b):jH (.bool b)=true:=Eq.trans rfl rfl
@[go_sem] theorem Lm (f n xs):az rec e H (.eK f n xs)=rec (.qX f) (xs.map (ev e)) H:=Eq.trans rfl rfl
@[go_sem] theorem or_some {A:Type}(x:A)(f:Unit→Option A):(some x).orElse f=some x:=Eq.trans rfl rfl
@[go_sem] theorem OP (z L f lo hi):mm (.ay z L f) lo hi none=(gk L.length L.length hi).bind fun h=>(gk h 0 lo).map fun l=>.ay z ((L.take h).drop l) (f&&h==L.length):=Eq.trans rfl rfl
@[go_sem] theorem Pd (y d):gk y d none=some d:=Eq.trans rfl rfl
@[go_sem] theorem TE (y d k i):gk y d (some (.int k i))=bif decide (0≤i)&&decide (i≤(y:Int))then some i.toNat else none:=Eq.trans rfl rfl
@[go_sem] theorem JL (k neg x):az rec e H (.isNil k neg x)=(fI H k (ev e x)).map fun b=>(.bool (neg ^^ b),H):=Eq.trans rfl rfl
@[go_sem] theorem VF (b v i o):fI H .p (.ptr b v i o)=bif cur H (.ptr b v i o)then some false else none:=Eq.trans rfl rfl
@[go_sem] theorem Ix (bT bytes s x):az rec e H (.append bT bytes s x)=(nG bT H (ev e x)).bind (gB bT bytes H (ev e s)):=Eq.trans rfl rfl
@[go_sem] theorem Oq (f xs):az rec e H (.call f xs)=kE rec (ev e f) (xs.map (ev e)) H:=Eq.trans rfl rfl
@[go_sem] theorem W9 (f cs xs):kE rec (.fn f cs) xs H=rec (.fn f) (xs++cs) H:=Eq.trans rfl rfl
@[go_sem] theorem Ra (f cs xs):kE rec (.oX f cs) xs H=rec (.fn f) (cs++xs) H:=Eq.trans rfl rfl
@[go_sem] theorem TZ (b xs):kE rec (.fA b) xs H=rec (.fA b) xs H:=Eq.trans rfl rfl
@[go_sem] theorem WI (f cs xs):oR rec (.fn f cs) xs H=rec (.fn f) (xs++cs) H:=Eq.trans rfl rfl
end
section
variable(k:IntKind)(a b:Int)
@[go_sem] theorem SI:cS .add (.int k a) (.int k b)=some (.int k (k.wrap (a+b))):=by simp[cS]
@[go_sem] theorem Wc:cS .sub (.int k a) (.int k b)=some (.int k (k.wrap (a-b))):=by simp[cS]
@[go_sem] theorem Vi:cS .mul (.int k a) (.int k b)=some (.int k (k.wrap (a*b))):=by simp[cS]
@[go_sem] theorem RC:cS .quo (.int k a) (.int k b)=bif !decide (b=0)then some (.int k (k.wrap (a.tdiv b)))else none:=by simp[cS]
@[go_sem] theorem Wy:cS .rem (.int k a) (.int k b)=bif !decide (b=0)then some (.int k (a.tmod b))else none:=by simp[cS]
@[go_sem] theorem Qv:cS .lss (.int k a) (.int k b)=some (.bool (decide (a<b))):=by simp[cS]
@[go_sem] theorem V9:cS .leq (.int k a) (.int k b)=some (.bool (decide (a≤b))):=by simp[cS]
@[go_sem] theorem VC:cS .gtr (.int k a) (.int k b)=some (.bool (decide (b<a))):=by simp[cS]
@[go_sem] theorem SS:cS .geq (.int k a) (.int k b)=some (.bool (decide (b≤a))):=by simp[cS]
@[go_sem] theorem S6:cS .eql (.int k a) (.int k b)=some (.bool (decide (a=b))):=by simp[cS]
@[go_sem] theorem T4:cS .neq (.int k a) (.int k b)=some (.bool (!decide (a=b))):=by simp[cS]
@[go_sem] theorem S2:cS .and (.int k a) (.int k b)=some (.int k (k.wrap ((BitVec.ofInt k.bits a&&&BitVec.ofInt k.bits b).toNat))):=by simp[cS]
@[go_sem] theorem WS:cS .or (.int k a) (.int k b)=some (.int k (k.wrap ((BitVec.ofInt k.bits a|||BitVec.ofInt k.bits b).toNat))):=by simp[cS]
@[go_sem] theorem SA (k2):cS .shl (.int k a) (.int k2 b)=bif decide (0≤b)then some (.int k (k.wrap (a*2 ^ (min b.toNat k.bits))))else none:=by simp[cS]
@[go_sem] theorem Un (k2):cS .shr (.int k a) (.int k2 b)=bif decide (0≤b)then some (.int k (a.fdiv (2 ^ (min b.toNat k.bits))))else none:=by simp[cS]
@[go_sem] theorem II (c a b:Bool):kB (.bool c) (.bool a) (.bool b)=some (.bool (bif c then a else b)):=by simp[kB]
@[go_sem] theorem NY (x):kB (.bool false) .iX x=some x:=by cases x<;>simp[kB]
@[go_sem] theorem I5 (x):kB (.bool true) x .iX=some x:=by cases x<;>simp[kB]
@[go_sem] theorem UT:bB [] [] []=some true:=by simp[bB]
@[go_sem] theorem Yj (sh x y):bB (.i::sh) (.int k a::x) (.int k b::y)=(bB sh x y).map (fun r=>decide (a=b)&&r):=by simp[bB]
@[go_sem] theorem YP (sh x y)(a b:Bool):bB (.b::sh) (.bool a::x) (.bool b::y)=(bB sh x y).map (fun r=>(a==b)&&r):=by simp[bB]
@[go_sem] theorem ZK (sh x y)(a b:ByteArray):bB (.s::sh) (.str a::x) (.str b::y)=(bB sh x y).map (fun r=>decide (a=b)&&r):=by simp[bB]
@[go_sem] theorem TK (cs):cu (.agg cs)=some cs:=by simp[cu]
@[go_sem] theorem Sr:cu (.int k a)=some [.int k a]:=by simp[cu,SV.jg]
@[go_sem] theorem Pn (b):cu (.bool b)=some [.bool b]:=by simp[cu,SV.jg]
@[go_sem] theorem SU (b):cu (.str b)=some [.str b]:=by simp[cu,SV.jg]
@[go_sem] theorem Qs (z L f):cu (.ay z L f)=some [.ay z L f]:=by simp[cu,SV.jg]
@[go_sem] theorem Sp (b v o n):cu (.bp b v o n)=some [.bp b v o n]:=by simp[cu,SV.jg]
@[go_sem] theorem Ta (b v o n):cu (.ptr b v o n)=some [.ptr b v o n]:=by simp[cu,SV.jg]
@[go_sem] theorem W7 (f cs):cu (.fn f cs)=some [.fn f cs]:=by simp[cu,SV.jg]
@[go_sem] theorem Ql (n cs o):cX false n cs o=cs[o]?:=by simp[cX]
@[go_sem] theorem QT (n cs o):cX true n cs o=bif decide (o+n≤cs.length)then some (.agg ((cs.drop o).take n))else none:=by simp[cX]
@[go_sem] theorem Uj (ev z):gJ ev z []=some z:=by simp[gJ]
@[go_sem] theorem Pr (ev z off n x ps):gJ ev z ((off,n,x)::ps)=(cu (ev x)).bind fun cs=>bif cs.length==n&&decide (off+n≤z.length)then gJ ev (fJ z off n cs) ps else none:=by simp[gJ]
@[go_sem] theorem RZ (ev bT z):eQ ev bT z []=some z:=by simp[eQ]
@[go_sem] theorem Pm (ev bT z i x ps):eQ ev bT z ((i,x)::ps)=(cu (ev x)).bind fun cs=>bif cs.length==bT&&decide (i<z.length)then eQ ev bT (z.set i cs) ps else none:=by simp[eQ]
attribute [go_sem] fJ
@[go_sem] theorem P5 (f:Int→Int→Int)(r):kq f (.int k a::r)=foldI f a k r:=by simp[kq]
@[go_sem] theorem V6 (f:Int→Int→Int):foldI f a k []=some (.int k a):=by simp[foldI]
@[go_sem] theorem Pt (f:Int→Int→Int)(r):foldI f a k (.int k b::r)=foldI f (f a b) k r:=by simp[foldI]
@[go_sem] theorem S9 (z L f):pc (.ay z L f)=some L.length:=by simp[pc]
@[go_sem] theorem VV (b v o n):pc (.bp b v o n)=some n:=by simp[pc]
@[go_sem] theorem QE (H z L f):cur H (.ay z L f)=true:=by simp[cur]
@[go_sem] theorem Ol (H L):cur H (.fN L)=true:=by simp[cur]
@[go_sem] theorem Us (H z L f):ed H z (.ay z L f)=true:=by simp[ed]
@[go_sem] theorem Ux (off b v i o):fp off (.ptr b v i o)=some (.ptr b v i (o+off)):=by simp[fp]
@[go_sem] theorem Ov (off cs):fp off (.fN cs)=some (.fN (cs.drop off)):=by simp[fp]
@[go_sem] theorem PO (ag n H cs):db ag n H (.fN cs)=cX ag n cs 0:=by simp[db]
@[go_sem] theorem SM (b v i o):ld (.ptr b v i o)=some (.ptr b v i o):=by simp[ld]
end
def E5(v:Nat):Option aK→Bool
 |some (.box _)=>true
 |some (.arr v' _ _ _)=>v==v'
 |_=>false
@[go_sem] theorem Ua (H b v i o):cur H (.ptr b v i o)=E5 v (bn H b):=by
  simp only[cur,E5]
  cases bn H b with
  |none=>rfl
  |some x=>cases x<;>rfl
@[go_sem] theorem JT (v cs):E5 v (some (.box cs))=true:=Eq.trans rfl rfl
@[go_sem] theorem JY (v v' z L x):E5 v (some (.arr v' z L x))=(v==v'):=Eq.trans rfl rfl
def GY(v:Nat):Option aK→Bool
 |some (.arr v' _ _ _)=>v==v'
 |_=>false
@[go_sem] theorem Ui (H b v i o):cur H (.bp b v i o)=GY v (bn H b):=by
  simp only[cur,GY]
  cases bn H b with
  |none=>rfl
  |some x=>cases x<;>rfl
@[go_sem] theorem Nm (v v' z L x):GY v (some (.arr v' z L x))=(v==v'):=Eq.trans rfl rfl
def AP(v z:Nat):Option aK→Bool
 |some (.arr v' z' _ _)=>v==v'&&z'==z
 |_=>false
@[go_sem] theorem UJ (H z b v i o):ed H z (.bp b v i o)=AP v z (bn H b):=by
  simp only[ed,AP]
  cases bn H b with
  |none=>rfl
  |some x=>cases x<;>rfl
@[go_sem] theorem Iu (v z v' z' L x):AP v z (some (.arr v' z' L x))=(v==v'&&z'==z):=Eq.trans rfl rfl
def Iy(ag:Bool)(n v i o:Nat):Option aK→Option SV
 |some (.box cs)=>bif i==0 then cX ag n cs o else none
 |some (.arr v' _ L _)=>bif v==v' then(L[i]?).bind fun cs=>cX ag n cs o else none
 |_=>none
@[go_sem] theorem TM (ag n H b v i o):db ag n H (.ptr b v i o)=Iy ag n v i o (bn H b):=by
  simp only[db,Iy]
  cases bn H b with
  |none=>rfl
  |some x=>
   cases x with
   |arr v' z L ex=>
    cases hv:(v==v')with
    |true=>simp only[hv,abb];cases L[i]?<;>rfl
    |false=>simp only[hv,abc]
   |_=>rfl
@[go_sem] theorem PC (ag n v o cs):Iy ag n v 0 o (some (.box cs))=cX ag n cs o:=by simp[Iy]
@[go_sem] theorem PB (ag n v i o z L x):Iy ag n v i o (some (.arr v z L x))=(L[i]?).bind fun cs=>cX ag n cs o:=by simp[Iy]
def OR(z v off n:Nat):Option aK→Option (List (List SV))
 |some (.arr v' z' L _)=>bif v==v'&&z'==z&&decide (off+n≤L.length)then some ((L.drop off).take n)else none
 |_=>none
@[go_sem] theorem Sj (z H b v off n):nG z H (.bp b v off n)=OR z v off n (bn H b):=by
  simp only[nG,OR]
  cases bn H b with
  |none=>rfl
  |some x=>cases x<;>rfl
@[go_sem] theorem O4 (z v off n L x):OR z v off n (some (.arr v z L x))=bif decide (off+n≤L.length)then some ((L.drop off).take n)else none:=by simp[OR]
@[go_sem] theorem Rj (z H L f):nG z H (.ay z L f)=some L:=by simp[nG]
attribute [go_sem] bn bM
def It(n v i o:Nat)(b:Nat)(H:ae)(xs:List SV)(refs:Nat):Option aK→Option ae
 |some (.box cs)=>bif i==0&&decide (o+n≤cs.length)then cz H b (.box (fJ cs o n xs)) refs else none
 |some (.arr v' z L e)=>bif v==v' then(L[i]?).bind fun cs=>bif decide (o+n≤cs.length)then cz H b (.arr v z (L.set i (fJ cs o n xs)) e) refs else none else none
 |_=>none
@[go_sem] theorem V5 (n H x b v i o):dZ n H x (.ptr b v i o)=(cu x).bind fun xs=>bif xs.length==n then It n v i o b H xs x.refs (bn H b)else none:=by
  simp only[dZ,It]
  congr 1
  funext xs
  cases(xs.length==n)with
  |false=>rfl
  |true=>
   simp only[abb]
   cases bn H b with
   |none=>rfl
   |some y=>
    cases y with
    |arr v' z L ex=>
     cases hv:(v==v')with
     |true=>simp only[hv,abb];cases L[i]?<;>rfl
     |false=>simp only[hv,abc]
    |_=>rfl
@[go_sem] theorem O0 (n v o b H xs r cs):It n v 0 o b H xs r (some (.box cs))=bif decide (o+n≤cs.length)then cz H b (.box (fJ cs o n xs)) r else none:=by simp[It]
@[go_sem] theorem PD (n v i o b H xs r z L e):It n v i o b H xs r (some (.arr v z L e))=(L[i]?).bind fun cs=>bif decide (o+n≤cs.length)then cz H b (.arr v z (L.set i (fJ cs o n xs)) e) r else none:=by simp[It]
@[go_sem] theorem PR (bl bV ro b x r):cz ⟨bl,bV,ro⟩ b x r=bif decide (ro≤b)&&decide (b<bl.length)then some ⟨bl.set b x,bif decide (r≤b+1)then bV else(b,r)::bV,ro⟩else none:=by simp[cz]
@[go_sem] theorem M7 (k n):(SV.int k n).refs=0:=by simp[SV.refs]
@[go_sem] theorem Ip (n):(SV.bool n).refs=0:=by simp[SV.refs]
@[go_sem] theorem ND (n):(SV.str n).refs=0:=by simp[SV.refs]
@[go_sem] theorem Nk (z L f):(SV.ay z L f).refs=0:=by simp[SV.refs]
@[go_sem] theorem Li (b v i o):(SV.ptr b v i o).refs=b+1:=by simp[SV.refs]
@[go_sem] theorem Ln (b v i o):(SV.bp b v i o).refs=b+1:=by simp[SV.refs]
@[go_sem] theorem LW (b):(SV.fA b).refs=b+1:=by simp[SV.refs]
@[go_sem] theorem Nt (cs):(SV.agg cs).refs=SV.refs.aJ cs:=by simp[SV.refs]
@[go_sem] theorem Pa (f cs):(SV.fn f cs).refs=SV.refs.aJ cs:=by simp[SV.refs]
@[go_sem] theorem LP (f cs):(SV.oX f cs).refs=SV.refs.aJ cs:=by simp[SV.refs]
@[go_sem] theorem Iv:SV.refs.aJ []=0:=by simp[SV.refs.aJ]
@[go_sem] theorem G7 (v vs):SV.refs.aJ (v::vs)=max v.refs (SV.refs.aJ vs):=by simp[SV.refs.aJ]
section
variable{T:FuncId→Option aC}{f:FuncId}{F:aC}{xs:List SV}{n:Nat}{H:ae}
def ov{R:Type}(rs:List vc)(k:SV→ae→Option R):lG→Env→ae→Option R
 | .exit _,_,_=>none
 |_,e,H=>(results1 e H rs).bind fun v=>k v H
@[go_sem] theorem NL {R:Type}(rs)(k:SV→ae→Option R)(e H):ov rs k .ret e H=aT (results1 e H rs) (fun v=>k v H) ():=by
  show(results1 e H rs).bind _=_
  cases results1 e H rs<;>rfl
@[go_sem] theorem Fj {R:Type}(rs)(k:SV→ae→Option R)(e H):ov rs k .normal e H=aT (results1 e H rs) (fun v=>k v H) ():=by
  show(results1 e H rs).bind _=_
  cases results1 e H rs<;>rfl
theorem ab{v:SV}(hT:T f=some F)(hp:eI F xs=true)(h:runK (aa T n) (ov F.res (fun v H'=>eh 0 H' cE v)) F.body [] (dV xs) ah ()=some v):aa T (n+1) (.fn f) xs H=some (v,H):=by
 have hk:∀k:lG→Env→ae→Option SV,k=ov F.res (fun v H'=>eh 0 H' cE v)→run (aa T n) F.body (dV xs) ah k ()=some v:=by
  intro k hk
  rw[hk,j9]
  exact h
 simp only[aa,hT,hp,abb]
 rw[hk _ (by funext x e H';cases x<;>rfl)]
 rfl
end
@[go_sem] theorem Pp (e H r):results1 e H [r]=dN e H r:=by
  unfold results1
  cases h:dN e H r<;>simp[bQ,h]
@[go_sem] theorem Oz (e H r s):results1 e H [r,s]=(dN e H r).bind fun a=>(dN e H s).map fun b=>.bk [a,b]:=by
  unfold results1
  cases h:dN e H r<;>cases h':dN e H s<;>simp[bQ,h,h']
@[go_sem] theorem zy (e H r s q):results1 e H [r,s,q]=(dN e H r).bind fun a=>(dN e H s).bind fun b=>(dN e H q).map fun c=>.bk [a,b,c]:=by
  unfold results1
  cases h1:dN e H r<;>cases h2:dN e H s<;>cases h3:dN e H q<;>simp[bQ,h1,h2,h3]
@[go_sem] theorem Pe (e H):results1 e H []=some (.bk []):=by simp[results1,bQ]
@[go_sem] theorem SO (e H t):dN e H (.tmp t)=some (get e t):=Eq.trans rfl rfl
@[go_sem] theorem Pu (e H t ag n):dN e H (.cell t ag n)=db ag n H (get e t):=Eq.trans rfl rfl
@[go_sem] theorem Vm (N H d k n):eh N H (d+1) (.int k n)=some (.int k n):=by simp[eh]
@[go_sem] theorem OW (N H d b):eh N H (d+1) (.bool b)=some (.bool b):=by simp[eh]
@[go_sem] theorem Vs (N H d z L f):eh N H (d+1) (.ay z L f)=some (.ay z L f):=by simp[eh]
@[go_sem] theorem RV (N H d s):eh N H (d+1) (.str s)=some (.str s):=by simp[eh,SV.refs]
@[go_sem] theorem Rf (N H d cs):eh N H (d+1) (.agg cs)=(bQ (cs.map (eh N H d))).map .agg:=by simp[eh]
@[go_sem] theorem QM (N H d cs):eh N H (d+1) (.bk cs)=(bQ (cs.map (eh N H d))).map .bk:=by simp[eh]
@[go_sem] theorem RK {A:Type}:bQ ([]:List (Option A))=some []:=Eq.trans rfl rfl
@[go_sem] theorem Oo {A:Type}(a:A)(r):bQ (some a::r)=(bQ r).map (a:: ·):=Eq.trans rfl rfl
attribute [go_sem] cE
theorem lY{f:Env×ae→Option Out}:∀(n m:Nat) (s:Env×ae) (o:Out),cL f n s=some o→n≤m→cL f m s=some o
 |0,_,s,o,h,_=>by cases h
 |n+1,0,s,o,h,hm=>by omega
 |n+1,m+1,s,o,h,hm=>by
  have e:∀n,cL f (n+1) s=match f s with|some (.normal,s')=>cL f n s'|r=>r:=fun n=>rfl
  rw[e]at h⊢
  cases hf:f s with
  |none=>rw[hf]at h;exact h
  |some r=>
   obtain⟨x,s'⟩:=r
   rw[hf]at h
   cases x with
   |normal=>exact lY n m s' o h (by omega)
   |exit id=>exact h
   |ret=>exact h
theorem nf{f:Env×ae→Option Out}{s:Env×ae}{o:Out}{n:Nat}(h:cL f n s=some o):j5 f s=some o:=by
 unfold j5
 have hex:∃n,(cL f n s).isSome:=⟨n,by simp[h]⟩
 rw[dif_pos hex]
 have h1:=adv hex
 generalize Classical.choose hex=m at h1
 obtain⟨o',ho'⟩:=Option.isSome_iff_exists.1 h1
 have h2:=lY _ (max n m) _ _ h (Nat.le_max_left _ _)
 have h3:=lY _ (max n m) _ _ ho' (Nat.le_max_right _ _)
 rw[h2]at h3
 rw[ho',h3]
theorem EN{R:Type}{f:Env×ae→Option Out}{s:Env×ae}{k:Out→Option R}{t:oK k}{r:Option R}(o:Out)(h:j5 f s=some o)(hk:k o=r):aT (j5 f s) k t=r:=by
 rw[h];exact hk
theorem gF(p N H0 rec a e H):eV p N H0 rec a (e,H)=aT (dX p N H0 (e,H)) (fun s=>runK rec (fun x e H=>some (x,e,H)) a [] s.1 s.2 ()) ():=by
 unfold eV
 cases dX p N H0 (e,H)<;>rfl
attribute [go_sem] abh abg abM abV abQ abB adg acm adL adM List.set_cons_succ
 List.take_succ_cons adn List.take_nil List.drop_succ_cons adj List.drop_nil acP ac0 adT List.flatten_nil List.isEmpty_nil List.isEmpty_cons
 abL adt abO Option.bind_none ace ac2 acy abo abt abk acv acF aci abW abJ acb Bool.not_not
 acg beq_true beq_false acL ach Nat.max_self aa8 adb Nat.sub_zero abD List.drop_length adU List.reverse_nil List.zip_cons_cons List.zip_nil_right
@[go_sem] theorem Nl {R:Type}(b:Bool)(x y:R)(t:oK (x,y)):fork (!b) x y t=fork b y x ():=by cases b<;>rfl
@[go_sem] theorem min_zero (n:Nat):min 0 n=0:=Nat.zero_min n
@[go_sem] theorem Ft {A R:Type}(f:A→Option R)(t:oK f):aT none f t=none:=Eq.trans rfl rfl
@[go_sem] theorem I2 (N l):cD N [] l=l:=Eq.trans rfl rfl
def bj(n:Int):Int:=IntKind.wrap .i64 n
@[go_sem] theorem JH (n:Int):IntKind.wrap .i64 n=bj n:=rfl
theorem ax{n:Int}(h1: -9223372036854775808≤n)(h2:n≤9223372036854775807):bj n=n:=by
 unfold bj
 simp only[IntKind.wrap,IntKind.bits,IntKind.signed,abo,ge_iff_le,aaX]
 split<;>omega
@[go_sem] theorem S7 (a b):cS .neq (.str a) (.str b)=some (.bool (!decide (a=b))):=Eq.trans rfl rfl
@[go_sem] theorem Ph (a b):cS .add (.str a) (.str b)=bif decide (a.size+b.size≤4611686018427387904)then some (.str (a++b))else none:=Eq.trans rfl rfl
attribute [go_sem] abB adg
section
variable(rec:Rec)(e:Env)(H:ae)
@[go_sem] theorem Jq:az rec e H .mT=some (.mp H.bl.length,bM H (.map [])):=Eq.trans rfl rfl
@[go_sem] theorem Ps (t x k v):az rec e H (.na t x k v)=qy t H (ev e k) (ev e v) (ev e x):=Eq.trans rfl rfl
@[go_sem] theorem Ki (t ok z x k):az rec e H (.mN t ok z x k)=nK t ok z H (ev e k) (ev e x):=Eq.trans rfl rfl
def Fb(t:LK)(H:ae)(b:Nat)(k v:SV):Option aK→Option (SV×ae)
 |some (.map es)=>bif isKey k&&v.jg then(jK t k es 0).bind fun r=>(cz H b (.map (zZ k v es r)) v.refs).map (.undef,·)else none
 |_=>none
def pZ(t:LK)(ok:Bool)(z:SV)(H:ae)(k:SV):Option aK→Option (SV×ae)
 |some (.map es)=>bif isKey k then(jK t k es 0).map fun r=>(wJ ok z r,H)else none
 |_=>none
where wJ (ok:Bool) (z:SV):Option (Nat×SV)→SV
 |some (_,v)=>bif ok then .bk [v,.bool true]else v
 |none=>bif ok then .bk [z,.bool false]else z
@[go_sem] theorem Lq (t k v b):qy t H k v (.mp b)=Fb t H b k v (bn H b):=by
  simp only[qy]
  generalize bn H b=o
  cases o with
  |none=>rfl
  |some x=>cases x<;>rfl
@[go_sem] theorem IZ (t ok z k b):nK t ok z H k (.mp b)=pZ t ok z H k (bn H b):=by
  simp only[nK]
  generalize bn H b=o
  cases o with
  |none=>rfl
  |some x=>
   cases x with
   |map es=>
    simp only[pZ]
    cases isKey k
    ·rfl
    ·simp only[abb]
     congr 1
   |_=>rfl
@[go_sem] theorem IE (t b k v es):Fb t H b k v (some (.map es))=bif isKey k&&v.jg then(jK t k es 0).bind fun r=>(cz H b (.map (zZ k v es r)) v.refs).map (.undef,·)else none:=Eq.trans rfl rfl
@[go_sem] theorem GV (t ok z k es):pZ t ok z H k (some (.map es))=bif isKey k then(jK t k es 0).map fun r=>(pZ.wJ ok z r,H)else none:=Eq.trans rfl rfl
@[go_sem] theorem Fq (ok z i v):pZ.wJ ok z (some (i,v))=bif ok then .bk [v,.bool true]else v:=Eq.trans rfl rfl
@[go_sem] theorem Iq (t k i):jK t k [] i=some none:=Eq.trans rfl rfl
@[go_sem] theorem G3 (t k q v es i):jK t k ((q,v)::es) i=(so t k q).bind fun b=>bif b then some (some (i,v))else jK t k es (i+1):=Eq.trans rfl rfl
@[go_sem] theorem Ja (k a b):so .i (.int k a) (.int k b)=some (decide (a=b)):=by
  simp only[so,acg,abb];rfl
@[go_sem] theorem IQ (k n):isKey (.int k n)=true:=Eq.trans rfl rfl
@[go_sem] theorem IS (k v es):zZ k v es none=es++[(k,v)]:=Eq.trans rfl rfl
@[go_sem] theorem Rn (f cs):SV.jg (.fn f cs)=true:=Eq.trans rfl rfl
@[go_sem] theorem Pz (f cs):SV.jg (.oX f cs)=true:=Eq.trans rfl rfl
end
end
section
inductive DT where
 |bool|int (k:IntKind)|str|ay (es:List DT)
inductive Fits:DT→SV→Prop
 |bool (b:Bool):Fits .bool (.bool b)
 |int (k:IntKind) (n:Int) (h:(Lit.int k n).wf=true):Fits (.int k) (.int k n)
 |str (s:ByteArray) (h:s.size≤maxLen):Fits .str (.str s)
 |ay (es:List DT) (L:List (List SV)) (f:Bool) (hm:L.length≤maxLen) (hl:∀r∈L,r.length=es.length) (h:∀r∈L,∀(j:Nat) d c,es[j]?=some d→r[j]?=some c→Fits d c):Fits (.ay es) (.ay es.length L f)
def cC(es:List DT)(cs:List SV):Prop:=cs.length=es.length∧∀(j:Nat) d c,es[j]?=some d→cs[j]?=some c→Fits d c
theorem rM:cC [] []:=⟨rfl,by simp⟩
theorem m9{es es':List DT}{cs cs':List SV}(h:cC es cs)(h':cC es' cs'):cC (es++es') (cs++cs'):=by
 refine⟨by simp[h.1,h'.1],fun j d c hd hc=>?_⟩
 rw[acf]at hd hc
 rw[h.1]at hc
 split at hd
 ·rename_i hlt
  rw[if_pos hlt]at hc
  exact h.2 j d c hd hc
 ·rename_i hlt
  rw[if_neg hlt]at hc
  exact h'.2 _ d c hd hc
theorem mg{d:DT}{es:List DT}{cs:List SV}(h:cC (d::es) cs):∃c r,cs=c::r∧Fits d c∧cC es r:=by
 cases cs with
 |nil=>have:=h.1;simp at this
 |cons c r=>exact⟨c,r,rfl,h.2 0 d c rfl rfl,by have:=h.1;simpa using this,fun j d c hd hc=>h.2 (j+1) d c hd hc⟩
theorem ch{cs:List SV}(h:cC [] cs):cs=[]:=ab9 h.1
theorem fits_int{k:IntKind}{c:SV}(h:Fits (.int k) c):∃n,c=.int k n∧(Lit.int k n).wf=true:=by cases h;exact⟨_,rfl,by assumption⟩
theorem BL{c:SV}(h:Fits .str c):∃n,c=.str n∧n.size≤maxLen:=by cases h;exact⟨_,rfl,by assumption⟩
theorem AT{es:List DT}{c:SV}(h:Fits (.ay es) c):∃L f,c=.ay es.length L f∧L.length≤maxLen∧∀r∈L,cC es r:=by
 cases h with
 |ay _ L f hm hl h=>exact⟨L,f,rfl,hm,fun r hr=>⟨hl r hr,h r hr⟩⟩
section
variable(P:Program)
def ke:Nat→TypeId→Option (List DT)
 |0,_=>none
 |d+1,t=>match P.underlying t with
  |some .bool=>some [.bool]
  |some (.int k)=>some [.int k]
  |some .string=>some [.str]
  |some (.slice e)=>(ke d e).bind fun es=>bif P.cellsOf e==es.length&&!es.isEmpty then some [.ay es]else none
  |some (.struct fs)=>(fs.toList.foldlM (init:=[]) fun acc f=>bif f.offset==acc.length then(ke d f.type).bind fun es=>bif P.cellsOf f.type==es.length then some (acc++es)else none else none).bind fun es=>
    bif P.cellsOf t==es.length then some es else none
  |some (.array n e)=>(ke d e).bind fun es=>bif P.cellsOf e==es.length&&P.cellsOf t==(List.replicate n es).flatten.length then some (List.replicate n es).flatten else none
  |_=>none
end
def mZ(w:World)(scs:List SV)(cs:List Value):Prop:=scs.length=cs.length∧∀(j:Nat) c v,scs[j]?=some c→cs[j]?=some v→VR w (· <w.heap.size) dJ c v∧c.jg=true
theorem nu{w:World}{a b:List SV}{x y:List Value}(h:mZ w a x)(h':mZ w b y):mZ w (a++b) (x++y):=by
 refine⟨by simp[h.1,h'.1],fun j c v hc hv=>?_⟩
 rw[acf]at hc hv
 rw[←h.1]at hv
 split at hc
 ·rename_i hlt
  rw[if_pos hlt]at hv
  exact h.2 j c v hc hv
 ·rename_i hlt
  rw[if_neg hlt]at hv
  exact h'.2 _ c v hc hv
theorem iJ{w:World}{c:SV}{v:Value}(h:VR w (· <w.heap.size) dJ c v)(h1:c.jg=true):mZ w [c] [v]:=by
 refine⟨rfl,fun j c' v' hc hv=>?_⟩
 cases j with
 |zero=>simp at hc hv;subst hc;subst hv;exact⟨h,h1⟩
 |succ j=>simp at hc
section
variable{H:Type}{enc:TypeId×Value→H}{P:Program}{w:World}{spare:Nat→Bool}{held:Bool}
def FF(P:Program)(d:Nat)(acc:List DT)(f:Field):Option (List DT):=
 bif f.offset==acc.length then(ke P d f.type).bind fun es=>bif P.cellsOf f.type==es.length then some (acc++es)else none else none
def sX(P:Program)(w:World)(t:TypeId)(es:List DT)(cs:List Value):Prop:=∃scs,mZ w scs cs∧cC es scs
theorem rp{n dd:Nat}(ih:∀(t:TypeId) (cs:List Value) x es,DataW.trod enc P w 0 spare held n t cs=some x→ke P dd t=some es→sX P w t es cs)(cs:List Value):∀(fs:List Field) (acc tot:List DT),
 fs.foldlM (FF P dd) acc=some tot→(∀f∈fs,∃x,DataW.trod enc P w 0 spare held n f.type ((cs.drop f.offset).take (P.cellsOf f.type))=some x)→tot.length≤cs.length→
 ∃rest,tot=acc++rest∧∃scs,mZ w scs ((cs.drop acc.length).take rest.length)∧cC rest scs
 |[],acc,tot,h,_,_=>by
  simp at h;subst h
  exact⟨[],by simp,[],⟨rfl,by simp⟩,rM⟩
 |f::fs,acc,tot,h,hf,hlen=>by
  rw[aem]at h
  simp only[bind,aaY]at h
  obtain⟨acc',h1,h2⟩:=h
  unfold FF at h1
  replace h1:=aj h1
  obtain⟨ho,h1⟩:=h1
  simp only[aaY]at h1
  obtain⟨es,h3,h1⟩:=h1
  replace h1:=aj h1
  obtain⟨h4,h1⟩:=h1
  cases h1
  have ho:f.offset=acc.length:=by simpa using ho
  have h4:P.cellsOf f.type=es.length:=by simpa using h4
  obtain⟨x,hx⟩:=hf f (by simp)
  obtain⟨s1,k1,k2⟩:=ih f.type _ x es hx h3
  obtain⟨rest,k3,s2,k4,k5⟩:=rp ih cs fs (acc++es) tot h2 (fun g hg=>hf g (by simp[hg])) hlen
  refine⟨es++rest,by rw[k3];simp,s1++s2,?_,m9 k2 k5⟩
  rw[ho,h4]at k1
  have:=nu k1 k4
  have e:((cs.drop acc.length).take es.length)++((cs.drop (acc++es).length).take rest.length)=(cs.drop acc.length).take (es++rest).length:=by
   rw[aaT,aaT,←List.drop_drop,←List.take_add]
  rw[←e];exact this
theorem uD{n dd:Nat}{e:TypeId}{es:List DT}(ih:∀(cs:List Value) x,DataW.trod enc P w 0 spare held n e cs=some x→sX P w e es cs)(hc:P.cellsOf e=es.length)(cs:List Value):∀(m i:Nat),
 (∀k,i≤k→k<i+m→∃x,DataW.trod enc P w 0 spare held n e ((cs.drop (k*P.cellsOf e)).take (P.cellsOf e))=some x)→
 ∃scs,mZ w scs ((cs.drop (i*es.length)).take (m*es.length))∧cC (List.replicate m es).flatten scs
 |0,i,_=>⟨[],⟨by simp,by simp⟩,by simpa using rM⟩
 |m+1,i,h=>by
  obtain⟨x,hx⟩:=h i (by omega) (by omega)
  obtain⟨s1,k1,k2⟩:=ih _ x hx
  obtain⟨s2,k3,k4⟩:=uD (dd:=dd) ih hc cs m (i+1) (fun k h1 h2=>h k (by omega) (by omega))
  refine⟨s1++s2,?_,by rw[acP,adT];exact m9 k2 k4⟩
  rw[hc]at k1
  have:=nu k1 k3
  have e:((cs.drop (i*es.length)).take es.length)++((cs.drop ((i+1)*es.length)).take (m*es.length))=(cs.drop (i*es.length)).take ((m+1)*es.length):=by
   rw[abY i 1,acW,←List.drop_drop,abY m 1,acW,aer (m*es.length),←List.take_add]
  rw[←e];exact this
theorem yK{a:Addr}{n:Nat}{vs:List Value}(h:w.cells? 0 a n=some vs):vs.length=n∧∀j,j<n→w.cell? (a.add j)=vs[j]?:=by
 unfold World.cells? at h
 simp only[adb,if_true]at h
 exact⟨by simpa using mapM_some_length h,fun j hj=>mapM_some_get h j j (by simp[hj])⟩
theorem F7{a:Addr}{v:Value}(h:w.cell? (a.add 0)=some v):a.spot=none∧a.block<w.heap.size:=by
 have:a.add 0=a:=by simp[Addr.add]
 rw[this]at h
 unfold World.cell? at h
 split at h
 ·rename_i c _ _ hb
  cases hs:a.spot with
  |none=>exact⟨rfl,(abq.1 hb).1⟩
  |some x=>rw[hs]at h;simp at h
 ·cases h
theorem Ev:∀(n:Nat) (t:TypeId) (cs:List Value) (x:DataW H×List MemPlace) (dd:Nat) (es:List DT),DataW.trod enc P w 0 spare held n t cs=some x→ke P dd t=some es→sX P w t es cs:=by
 intro n
 induction n with
 |zero=>intro t cs x dd es h;simp[DataW.trod]at h
 |succ n ih=>
  intro t cs x dd es h hd
  cases dd with
  |zero=>simp[ke]at hd
  |succ dd=>
   unfold ke at hd
   split at hd
   ·rename_i hu
    cases hd
    obtain⟨b,rfl,_⟩:=DataW.trod_bool hu h
    exact⟨[.bool b],iJ (.bool b) rfl,rfl,fun j d c hd hc=>by cases j<;>simp at hd hc;subst hd;subst hc;exact .bool b⟩
   ·rename_i k hu
    cases hd
    obtain⟨b,rfl,_,hw⟩:=DataW.trod_int hu h
    exact⟨[.int k b],iJ (.int k b) rfl,rfl,fun j d c hd hc=>by cases j<;>simp at hd hc;subst hd;subst hc;exact .int k b hw⟩
   ·rename_i hu
    cases hd
    obtain⟨b,rfl,_,hw⟩:=DataW.trod_string hu h
    exact⟨[.str b],iJ (.str b) rfl,rfl,fun j d c hd hc=>by cases j<;>simp at hd hc;subst hd;subst hc;exact .str b hw⟩
   ·rename_i e hu
    simp only[aaY]at hd
    obtain⟨ee,hd1,hd⟩:=hd
    replace hd:=aj hd
    obtain⟨hd2,hd⟩:=hd
    cases hd
    simp only[aa1,ab0,abx,List.isEmpty_eq_false_iff]at hd2
    obtain⟨hz,hne⟩:=hd2
    have hz0:0<ee.length:=ad7.2 hne
    rcases DataW.trod_slice hu h with⟨rfl,_⟩|⟨a,len,cap,elems,rest,m,hm,rfl,_,_,hlc,hcap,hel,bn,_⟩
    ·refine⟨[.ay ee.length [] true],iJ ?_ rfl,rfl,fun j d c hd hc=>?_⟩
     ·exact VR.ay (L:=[]) (fun _ _=>undef) (aa8 _) (fun _=>rfl) (by simp) (.inl rfl) (by simp) (by simp)
     ·cases j<;>simp at hd hc
      subst hd;subst hc
      exact .ay ee [] true (by simp) (by simp) (by simp)
    ·cases hm
     have key:∀i,i<len→∃(vs:List Value) (r:List SV),w.cells? 0 (a.add (i*ee.length)) ee.length=some vs∧mZ w r vs∧cC ee r:=by
      intro i hi
      have h1:=bn i hi
      have h2:elems[i]?=some elems[i]:=aa9 (by omega)
      rw[h2,hz,aaY]at h1
      obtain⟨vs,h3,h4⟩:=h1
      obtain⟨r,h5,h6⟩:=ih e vs _ dd ee h4 hd1
      exact⟨vs,r,h3,h5,h6⟩
     have hch:∃g:Nat→List SV,∀i,i<len→∃vs:List Value,w.cells? 0 (a.add (i*ee.length)) ee.length=some vs∧mZ w (g i) vs∧cC ee (g i):=
      ⟨fun i=>if hi:i<len then Classical.choose (adv (key i hi))else[],fun i hi=>by
       simp only[hi,dif_pos]
       exact⟨_,adv (adv (key i hi))⟩⟩
     obtain⟨g,hg⟩:=hch
     have hrow:∀(i:Nat) r,((List.range len).map g)[i]?=some r→i<len∧r=g i:=by
      intro i r hr
      simp only[acs,aaW]at hr
      obtain⟨k,hk,rfl⟩:=hr
      have hlt:=(aaS.1 hk).1
      simp at hlt
      rw[acZ hlt]at hk
      cases hk
      exact⟨hlt,rfl⟩
     have hcell:∀(i j:Nat),i<len→j<ee.length→∃v c,w.cell? ((a.add (i*ee.length)).add j)=some v∧(g i)[j]?=some c∧VR w (· <w.heap.size) dJ c v∧c.jg=true:=by
      intro i j hi hj
      obtain⟨vs,h1,h2,h3⟩:=hg i hi
      obtain⟨h4,h5⟩:=yK h1
      have hv:vs[j]?=some vs[j]:=aa9 (by omega)
      have hjl:j<(g i).length:=by have:=h2.1;omega
      have hc:(g i)[j]?=some (g i)[j]:=aa9 hjl
      obtain⟨h6,h7⟩:=h2.2 j _ _ hc hv
      exact⟨_,_,(h5 j hj).trans hv,hc,h6,h7⟩
     refine⟨[.ay ee.length ((List.range len).map g) false],iJ ?_ rfl,rfl,fun j d c hd hc=>?_⟩
     ·have hlen:((List.range len).map g).length=len:=by simp
      have hq:VR w (· <w.heap.size) dJ (.ay ee.length ((List.range len).map g) false) (.slice (some a) ((List.range len).map g).length cap):=by
       refine .ay (fun i j=>(w.cell? ((a.add (i*ee.length)).add j)).getD undef) (by omega) (fun h=>by cases h) (fun i r hr=>?_) ?_ (fun i j r c hr hc=>?_) (fun i j r c hr hc=>?_)
       ·obtain⟨hi,rfl⟩:=hrow i r hr
        obtain⟨vs,h1,h2,h3⟩:=hg i hi
        exact h3.1
       ·by_cases h0:len=0
        ·left;subst h0;rfl
        ·right
         obtain⟨v,c,h1,_⟩:=hcell 0 0 (by omega) hz0
         rw[adH]at h1
         have h2:=F7 (a:=a) (v:=v) (by have:(a.add 0).add 0=a.add 0:=by simp[Addr.add]
                                       rw[this]at h1;exact h1)
         refine⟨a.block,a.off,?_,h2.2,fun i j r c hr hc=>?_⟩
         ·obtain⟨b,o,sp⟩:=a;simp only at h2;rw[h2.1]
         ·obtain⟨hi,rfl⟩:=hrow i r hr
          obtain⟨vs,_,h3,h4⟩:=hg i hi
          have hj:j<ee.length:=by have:=(aaS.1 hc).1;have:=h4.1;omega
          obtain⟨v,c',h5,_⟩:=hcell i j hi hj
          have ha:(a.add (i*ee.length)).add j=⟨a.block,a.off+i*ee.length+j,none⟩:=by
           obtain⟨b,o,sp⟩:=a;simp only at h2;rw[h2.1,dp,dp]
          rw[←ha,h5];rfl
       ·obtain⟨hi,rfl⟩:=hrow i r hr
        obtain⟨vs,_,h3,h4⟩:=hg i hi
        have hj:j<ee.length:=by have:=(aaS.1 hc).1;have:=h4.1;omega
        obtain⟨v,c',_,h6,_,h7⟩:=hcell i j hi hj
        rw[hc]at h6;cases h6;exact h7
       ·obtain⟨hi,rfl⟩:=hrow i r hr
        obtain⟨vs,_,h3,h4⟩:=hg i hi
        have hj:j<ee.length:=by have:=(aaS.1 hc).1;have:=h4.1;omega
        obtain⟨v,c',h5,h6,h7,_⟩:=hcell i j hi hj
        rw[hc]at h6;cases h6
        simp only[h5,acj];exact h7
      rw[hlen]at hq
      exact hq
     ·cases j<;>simp at hd hc
      subst hd;subst hc
      refine .ay ee _ false (by simp;omega) (fun r hr=>?_) (fun r hr j d c hd hc=>?_)
      ·obtain⟨i,hi⟩:=abw hr
       obtain⟨h1,rfl⟩:=hrow i r hi
       obtain⟨vs,_,_,h4⟩:=hg i h1
       exact h4.1
      ·obtain⟨i,hi⟩:=abw hr
       obtain⟨h1,rfl⟩:=hrow i r hi
       obtain⟨vs,_,_,h4⟩:=hg i h1
       exact h4.2 j d c hd hc
   ·rename_i fs hu
    simp only[aaY]at hd
    obtain⟨tot,hd1,hd⟩:=hd
    replace hd:=aj hd
    obtain⟨hd2,hd⟩:=hd
    cases hd
    have hd2:P.cellsOf t=es.length:=by simpa using hd2
    obtain⟨xs,m,hm,_,hl,hxl,bn⟩:=DataW.trod_struct hu h
    cases hm
    obtain⟨rest,h1,scs,h2,h3⟩:=rp (dd:=dd) (fun t cs x es h1 h2=>ih t cs x dd es h1 h2) cs fs.toList [] es hd1 (fun f hf=>by
     obtain⟨i,hi⟩:=abw hf
     have hlt:=(aaS.1 hi).1
     have h5:=bn i f (by simpa using hi)
     exact⟨xs[i]'(by simp at hlt;omega),by rw[h5];simp⟩) (by omega)
    simp only[abM]at h1
    subst h1
    simp only[abh,adj]at h2
    rw[abu (by omega)]at h2
    exact⟨scs,h2,h3⟩
   ·rename_i k e hu
    simp only[aaY]at hd
    obtain⟨ee,hd1,hd⟩:=hd
    replace hd:=aj hd
    obtain⟨hd2,hd⟩:=hd
    cases hd
    simp only[aa1,ab0]at hd2
    obtain⟨hz,ht⟩:=hd2
    obtain⟨xs,m,hm,_,hl,hxl,bn⟩:=DataW.trod_array hu h
    cases hm
    obtain⟨scs,h2,h3⟩:=uD (dd:=dd) (fun cs x h1=>ih e cs x dd ee h1 hd1) hz cs k 0 (fun i _ hi=>⟨xs[i]'(by omega),by rw[bn i (by omega)];simp⟩)
    have hfl:(List.replicate k ee).flatten.length=k*ee.length:=by simp
    rw[adH,adj,abu (by omega)]at h2
    exact⟨scs,h2,h3⟩
   ·cases hd
def sd(d:Bool×List DT)(x:SV):Prop:=match d.1 with
 |true=>∃cs,x=.agg cs∧cC d.2 cs
 |false=>∃e,d.2=[e]∧Fits e x
def Cz(P:Program)(t:TypeId):Option (Bool×List DT):=match jk P t,ke P 8 t with
 |some ag,some es=>some (ag,es)
 |_,_=>none
theorem xe{r:Reach}{base:Nat}{t:TypeId}{v:Value}(h:Value.okWide P w r base t v)(hag:jk P t=some true):∃cs,v=.agg cs:=by
 unfold Value.okWide at h
 unfold jk at hag
 split at h
 ·obtain⟨cs,h,_⟩:=h;exact⟨cs,h⟩
 ·obtain⟨cs,h,_⟩:=h;exact⟨cs,h⟩
 ·rename_i h1 h2
  split at hag
  ·rename_i fs hu;exact absurd hu (h1 fs)
  ·rename_i n e hu;exact absurd hu (h2 n e)
  ·cases hag
  ·cases hag
theorem xn{r:Reach}{base:Nat}{t:TypeId}{v:Value}{es:List DT}(h:Value.okWide P w r base t v)(hag:jk P t=some false)(hd:ke P 8 t=some es):jv v=true∧es.length=1:=by
 unfold ke at hd
 unfold Value.okWide at h
 split at hd
 ·rename_i hu
  simp only[hu,Cell.okWide,Cell.ok]at h
  cases hd
  cases v<;>simp_all [jv]
 ·rename_i k hu
  simp only[hu,Cell.okWide,Cell.ok]at h
  cases hd
  cases v<;>simp_all [jv]
 ·rename_i hu
  simp only[hu,Cell.okWide,Cell.ok]at h
  cases hd
  cases v<;>simp_all [jv]
 ·rename_i e hu
  simp only[hu,Cell.okWide,Cell.ok]at h
  simp only[aaY]at hd
  obtain⟨ee,_,hd⟩:=hd
  replace hd:=aj hd
  cases hd.2
  cases v<;>simp_all [jv]
 ·rename_i fs hu;simp[jk,hu]at hag
 ·rename_i k e hu;simp[jk,hu]at hag
 ·cases hd
theorem G5{r:Reach}{base:Nat}{t:TypeId}{v:Value}{d:DataW H}{ps:List MemPlace}{a:Bool×List DT}(h:DataW.Trod enc P w 0 spare held t v d ps)(hok:Value.okWide P w r base t v)(ha:Cz P t=some a) :
 ∃x,VR w (· <w.heap.size) dJ x v∧sd a x:=by
 unfold Cz at ha
 split at ha
 rotate_left
 ·cases ha
 rename_i ag es hag hd
 cases ha
 obtain⟨n,hn⟩:=h
 obtain⟨scs,h1,h2⟩:=Ev n t _ _ 8 es hn hd
 cases ag with
 |true=>
  obtain⟨cs,rfl⟩:=xe hok hag
  refine⟨.agg scs,.agg (by simpa[Value.cells]using h1.1) (fun j c hc=>?_) (fun j c v hc hv=>(h1.2 j c v hc (by simpa[Value.cells]using hv)).1),scs,rfl,h2⟩
  have hlt:=(aaS.1 hc).1
  have hl:=h1.1
  simp only[Value.cells,ada]at hl
  exact(h1.2 j c cs[j] hc (by simp[Value.cells])).2
 |false=>
  obtain⟨h3,h4⟩:=xn hok hag hd
  have hc:v.cells= #[v]:=by cases v<;>simp_all [Value.cells,jv]
  rw[hc]at h1
  obtain⟨c,rfl⟩:∃c,scs=[c]:=acY.1 (by simpa using h1.1)
  obtain⟨e,rfl⟩:∃e,es=[e]:=acY.1 h4
  exact⟨c,(h1.2 0 c v rfl rfl).1,e,rfl,h2.2 0 e c rfl rfl⟩
def ju(as1:List (Bool×List DT))(xs:List SV):Prop:=xs.length=as1.length∧∀(j:Nat) a x,as1[j]?=some a→xs[j]?=some x→sd a x
theorem ye{r:Reach}{base:Nat}:∀(ts:List TypeId) (vs:List Value) (ds:List (DataW H)) (ps:List MemPlace) (as1:List (Bool×List DT)),DataW.TrodAll enc P w 0 spare held ts vs ds ps→ts.map (Cz P)=as1.map some→
 (∀(j:Nat) t v,ts[j]?=some t→vs[j]?=some v→Value.okWide P w r base t v)→∃xs:List SV,xs.length=vs.length∧(∀(j:Nat) c v,xs[j]?=some c→vs[j]?=some v→VR w (· <w.heap.size) dJ c v)∧ju as1 xs∧ds.length=ts.length
 |[],[],[],ps,as1,h,ha,_=>by
  have:as1=[]:=by simpa using ha.symm
  subst this
  exact⟨[],rfl,by simp,⟨rfl,by simp⟩,rfl⟩
 |t::ts,v::vs,d::ds,ps,as1,h,ha,hok=>by
  obtain⟨p,q,h1,h2,_⟩:=h
  cases as1 with
  |nil=>simp at ha
  |cons a as1=>
   simp only[abB,ad8]at ha
   obtain⟨x,k1,k2⟩:=G5 h1 (hok 0 t v rfl rfl) ha.1
   obtain⟨xs,k3,k4,k5,k6⟩:=ye ts vs ds q as1 h2 ha.2 (fun j t v ht hv=>hok (j+1) t v ht hv)
   refine⟨x::xs,by simp[k3],fun j c v hc hv=>?_,⟨by simp[k5.1],fun j a x ha hx=>?_⟩,by simp[k6]⟩
   ·cases j with
    |zero=>simp at hc hv;subst hc;subst hv;exact k1
    |succ j=>exact k4 j c v (by simpa using hc) (by simpa using hv)
   ·cases j with
    |zero=>simp at ha hx;subst ha;subst hx;exact k2
    |succ j=>exact k5.2 j a x (by simpa using ha) (by simpa using hx)
 |[],_::_,_,_,_,h,_,_=>by simp[DataW.TrodAll]at h
 |[],[],_::_,_,_,h,_,_=>by simp[DataW.TrodAll]at h
 |_::_,[],_,_,_,h,_,_=>by simp[DataW.TrodAll]at h
 |_::_,_::_,[],_,_,h,_,_=>by simp[DataW.TrodAll]at h
end
end
section
section
variable{H:Type}{enc:TypeId×Value→H}{P:Program}{w w':World}
theorem lE{base:Nat}{spare:Nat→Bool}{held:Bool}:∀{ts:List TypeId} {vs:List Value} {ds:List (DataW H)} {ps:List MemPlace},DataW.TrodAll enc P w base spare held ts vs ds ps→(∀p∈ps,w.sameAt w' p)→DataW.TrodAll enc P w' base spare held ts vs ds ps
 |[],[],[],_,h,_=>h
 |_::_,_::_,_::_,_,⟨p,q,⟨n,h1⟩,h2,e⟩,hs=>⟨p,q,⟨n,DataW.trod_carry n _ _ _ h1 (fun x hx=>hs x (by rw[e];exact acw _ hx))⟩,lE h2 (fun x hx=>hs x (by rw[e];exact adh _ hx)),e⟩
 |[],_::_,_,_,h,_=>by simp[DataW.TrodAll]at h
 |[],[],_::_,_,h,_=>by simp[DataW.TrodAll]at h
 |_::_,[],_,_,h,_=>by simp[DataW.TrodAll]at h
 |_::_,_::_,[],_,h,_=>by simp[DataW.TrodAll]at h
theorem yG(hh:∀B,B<w.heap.size→w'.heap[B]?=w.heap[B]?){p:MemPlace}(hp:p.block<w.heap.size):w.sameAt w' p:=by
 cases p with
 |cell b off=>simp only[World.sameAt,World.cell?,hh b hp]
 |map b=>exact hh b hp
theorem Dt(hh:∀B,B<w.heap.size→w'.heap[B]?=w.heap[B]?)(ho:w'.os=w.os∧w'.output=w.output)(may:MemPlace→Prop):w.keptBut w' may:=by
 refine⟨ho.1,ho.2,fun i hi=>?_⟩
 rw[hh i hi]
 cases hq:w.heap[i]? with
 |none=>simp
 |some o=>cases o<;>simp
end
theorem vl{Ck:Checked}(dM:zb)(hext:sY ⟨Ck.prog,dM⟩){os:Os}{f:FuncId}{fn:Func}{s:ChangeSpec}{conds:List PathCond}{apart fresh handsOn:Bool}{ads:List (Bool×List DT)}{tb:TypeId}{H:Type}{enc:TypeId×Value→H}
 (own:ownKnob Ck.prog.godebug=none) (started:os.Started) (noInit:Ck.prog.inits.idxOf? f=none) (hfn:Ck.prog.funcs[f]?=some fn)
 (witness:∃(w:World) (tape:Tape) (i:Input),w.os=os∧(w.forCall tape i).Shaped Ck.prog∧i.vars=[]∧Input.okWide Ck.prog (w.forCall tape i) .any w.heap.size f i∧
  s.pre6 enc Ck.prog fn conds apart (w.forCall tape i).memory i.args∧({}:Assume).holds Ck.prog (lone (Frame.enter Ck.prog f i.args .normal) [] (w.forCall tape i)))
 (hmix:Ck.prog.follows .mixedOrders=true) (hlaid:laidOutB Ck.prog=true) (hmaps:mapsRowed Ck.prog=true)
 (hfull:((List.range Ck.prog.types.size).all fun t=>match Ck.prog.underlying t with|some (.slice e)=>decide (0<Ck.prog.cellsOf e)|_=>true)=true)
 (hpar:∀t∈fn.params.toList,t<Ck.prog.types.size)
 (hargs:fn.params.toList.map (Cz Ck.prog)=ads.map some) (hres:fn.resultTypes= #[tb]) (hb:Ck.prog.underlying tb=some .bool) (hvars:s.vars=[])
 (hspec:∀(H:Type) (ds:List (DataW H)),ds.length=fn.params.toList.length→s.fn H ds={results:=[.lit (.bool true)],args:=ds})
 (hlaw:∀xs,ju ads xs→∃m,aa (uz Ck.prog dM) m (.fn f) xs ah=some (.bool true,ah)) :
 ReturnsInHanded {} Ck os f .any (s.pre6 enc Ck.prog fn conds apart) (s.post enc Ck.prog fn apart fresh handsOn false):=by
 refine returnsInHanded_of_change own started noInit hfn witness ?_
 intro W base args ds gs before hval hW hcnd _
 have hW':=hW
 obtain⟨p,q,hA,hV,rfl,hfz,hnd⟩:=hW
 rw[hvars]at hV
 have hgs:gs=[]∧q=[]:=by
  cases gs with
  |nil=>exact⟨rfl,hV⟩
  |cons g gs=>simp[DataW.TrodVars]at hV
 obtain⟨rfl,rfl⟩:=hgs
 obtain⟨xs,h1,h2,h3,h4⟩:=ye (spare:=fun _=>true) (held:=true) fn.params.toList args.toList ds p ads hA hargs (fun j t v ht hv=>hval j t v (by simpa using ht) (by simpa using hv))
 obtain⟨m,hm⟩:=hlaw xs h3
 have hHR:HR ⟨Ck.prog,dM⟩ dJ (· <W.heap.size) ah W:=⟨(fun b l h=>by cases h),(fun b x h=>by simp[ah]at h),(fun b b' l l' h=>by cases h.2.1),(fun b l h=>by cases h.2.1),fun B hB=>hB⟩
 have hcall:=((tM (C:=⟨Ck.prog,dM⟩) hmix hext (fun _ _ h=>h) m).call f xs ah (.bool true) ah hm dJ (· <W.heap.size) W args hHR ⟨by simpa using h1,fun j c v hc hv=>h2 j c v hc (by simpa using hv)⟩).2 0
 refine(callsIn_wide.1 hcall).mono (fun e W' he=>?_)
 obtain⟨val,rfl,ρ',F',d1,d2,d3⟩:=he
 have hv:=eC d1
 subst hv
 have hno:∀b l,¬Own dJ ah b l:=fun b l h=>by cases h.2.1
 have hh:∀B,B<W.heap.size→W'.heap[B]?=W.heap[B]?:=fun B hB=>d3.frame B hB (fun b l ho=>absurd ho (hno b l))
 have hlt:∀x∈p,x.block<W.heap.size:=fun x hx=>hW'.lt x (by simpa using hx)
 refine⟨_,rfl,ds,[],p++[],[],p,[],hW',?_,?_,?_,Dt hh d3.out _,fun h=>by cases h⟩
 ·rw[hres,hspec H (ds++[]) (by simpa using h4)]
  simp only[List.size_toArray,abg,abh,Value.resultList]
  exact⟨[],[],RowKit.shut_bool hb true,rfl,rfl⟩
 ·rw[hspec H (ds++[]) (by simpa using h4)]
  simp only[abQ]
  refine lE ?_ (fun x hx=>yG hh (hlt x hx))
  exact DataW.TrodAll.respare (kids_rows hlaid hmaps) (fun t e ht hu=>slices_full_of Ck.prog hfull t e ht hu) hpar hA (fun x hx=>by simpa using hlt x hx)
 ·rw[hspec H (ds++[]) (by simpa using h4),hvars]
  rfl
theorem C7{Ck:Checked}(dM:zb){os:Os}{f:FuncId}{fn:Func}{s:ChangeSpec}{conds:List PathCond}{apart fresh handsOn:Bool}{ads:List (Bool×List DT)}{tb:TypeId}{H:Type}{enc:TypeId×Value→H}
 (own:ownKnob Ck.prog.godebug=none) (started:os.Started) (noInit:Ck.prog.inits.idxOf? f=none) (hfn:Ck.prog.funcs[f]?=some fn)
 (witness:∃(w:World) (tape:Tape) (i:Input),w.os=os∧(w.forCall tape i).Shaped Ck.prog∧i.vars=[]∧Input.okWide Ck.prog (w.forCall tape i) .any w.heap.size f i∧
  s.pre6 enc Ck.prog fn conds apart (w.forCall tape i).memory i.args∧({}:Assume).holds Ck.prog (lone (Frame.enter Ck.prog f i.args .normal) [] (w.forCall tape i)))
 (hmix:Ck.prog.follows .mixedOrders=true) (hlaid:laidOutB Ck.prog=true) (hmaps:mapsRowed Ck.prog=true)
 (hfull:((List.range Ck.prog.types.size).all fun t=>match Ck.prog.underlying t with|some (.slice e)=>decide (0<Ck.prog.cellsOf e)|_=>true)=true)
 (hpar:∀t∈fn.params.toList,t<Ck.prog.types.size)
 (hargs:fn.params.toList.map (Cz Ck.prog)=ads.map some) (hres:fn.resultTypes= #[tb]) (hb:Ck.prog.underlying tb=some .bool) (hvars:s.vars=[])
 (hspec:∀(H:Type) (ds:List (DataW H)),ds.length=fn.params.toList.length→s.fn H ds={results:=[.lit (.bool true)],args:=ds})
 (hlaw:∀xs,ju ads xs→∃m,aa (uz Ck.prog dM) m (.fn f) xs ah=some (.bool true,ah)) (hnone:∀f,dM.ext f=none:=by intro f;rfl) :
 ReturnsInHanded {} Ck os f .any (s.pre6 enc Ck.prog fn conds apart) (s.post enc Ck.prog fn apart fresh handsOn false):=
 vl dM (fun f k h=>by rw[show dM.ext f=none from hnone f]at h;cases h) own started noInit hfn witness hmix hlaid hmaps hfull hpar hargs hres hb hvars hspec hlaw
end
section
mutual
def gD:SV→SV→Bool
 | .undef,.undef=>true
 | .iX,.iX=>true
 | .bool a,.bool b=>a==b
 | .int k a,.int k' b=>decide (k=k')&&decide (a=b)
 | .str a,.str b=>decide (a=b)
 | .dc,.dc=>true
 | .ptr a b c d,.ptr a' b' c' d'=>decide (a=a')&&decide (b=b')&&decide (c=c')&&decide (d=d')
 | .fN a,.fN b=>zO a b
 | .ay z L f,.ay z' L' f'=>decide (z=z')&&wR L L'&&f==f'
 | .bp a b c d,.bp a' b' c' d'=>decide (a=a')&&decide (b=b')&&decide (c=c')&&decide (d=d')
 | .agg a,.agg b=>zO a b
 | .bk a,.bk b=>zO a b
 | .fn f a,.fn g b=>decide (f=g)&&zO a b
 | .oX f a,.oX g b=>decide (f=g)&&zO a b
 | .dg,.dg=>true
 | .fA a,.fA b=>decide (a=b)
 | .mp a,.mp b=>decide (a=b)
 |_,_=>false
def zO:List SV→List SV→Bool
 |[],[]=>true
 |a::r,b::r'=>gD a b&&zO r r'
 |_,_=>false
def wR:List (List SV)→List (List SV)→Bool
 |[],[]=>true
 |a::r,b::r'=>zO a b&&wR r r'
 |_,_=>false
end
mutual
theorem mD:∀a b:SV,gD a b=true→a=b
 | .undef,b,h=>by cases b<;>first|rfl|(simp[gD]at h;done)
 | .iX,b,h=>by cases b<;>first|rfl|(simp[gD]at h;done)
 | .bool a,b,h=>by cases b<;>simp[gD]at h⊢ <;>exact h
 | .int k a,b,h=>by cases b<;>simp[gD]at h⊢ <;>exact h
 | .str a,b,h=>by cases b<;>simp[gD]at h⊢ <;>exact h
 | .dc,b,h=>by cases b<;>first|rfl|(simp[gD]at h;done)
 | .ptr ..,b,h=>by cases b<;>simp[gD]at h⊢ <;>exact⟨h.1.1.1,h.1.1.2,h.1.2,h.2⟩
 | .fN a,b,h=>by cases b<;>simp[gD]at h⊢ <;>exact j7 _ _ h
 | .ay z L f,b,h=>by cases b<;>simp[gD]at h⊢ <;>exact⟨h.1.1,sM _ _ h.1.2,h.2⟩
 | .bp ..,b,h=>by cases b<;>simp[gD]at h⊢ <;>exact⟨h.1.1.1,h.1.1.2,h.1.2,h.2⟩
 | .agg a,b,h=>by cases b<;>simp[gD]at h⊢ <;>exact j7 _ _ h
 | .bk a,b,h=>by cases b<;>simp[gD]at h⊢ <;>exact j7 _ _ h
 | .fn f a,b,h=>by cases b<;>simp[gD]at h⊢ <;>exact⟨h.1,j7 _ _ h.2⟩
 | .oX f a,b,h=>by cases b<;>simp[gD]at h⊢ <;>exact⟨h.1,j7 _ _ h.2⟩
 | .dg,b,h=>by cases b<;>first|rfl|(simp[gD]at h;done)
 | .fA a,b,h=>by cases b<;>simp[gD]at h⊢ <;>exact h
 | .mp a,b,h=>by cases b<;>simp[gD]at h⊢ <;>exact h
theorem j7:∀a b:List SV,zO a b=true→a=b
 |[],[],_=>rfl
 |[],_::_,h=>by simp[zO]at h
 |_::_,[],h=>by simp[zO]at h
 |a::r,b::r',h=>by
  simp only[zO,aa1]at h
  rw[mD a b h.1,j7 r r' h.2]
theorem sM:∀a b:List (List SV),wR a b=true→a=b
 |[],[],_=>rfl
 |[],_::_,h=>by simp[wR]at h
 |_::_,[],h=>by simp[wR]at h
 |a::r,b::r',h=>by
  simp only[wR,aa1]at h
  rw[j7 a b h.1,sM r r' h.2]
end
def zK:List (SV×SV)→List (SV×SV)→Bool
 |[],[]=>true
 |a::r,b::r'=>gD a.1 b.1&&gD a.2 b.2&&zK r r'
 |_,_=>false
theorem xG:∀a b:List (SV×SV),zK a b=true→a=b
 |[],[],_=>rfl
 |[],_::_,h=>by simp[zK]at h
 |_::_,[],h=>by simp[zK]at h
 |(a1,a2)::r,(b1,b2)::r',h=>by
  simp only[zK,aa1]at h
  rw[mD a1 b1 h.1.1,mD a2 b2 h.1.2,xG r r' h.2]
def sD:Env→Env→Bool
 |[],[]=>true
 |a::r,b::r'=>decide (a.1=b.1)&&gD a.2 b.2&&sD r r'
 |_,_=>false
theorem uT:∀a b:Env,sD a b=true→a=b
 |[],[],_=>rfl
 |[],_::_,h=>by simp[sD]at h
 |_::_,[],h=>by simp[sD]at h
 |(a1,a2)::r,(b1,b2)::r',h=>by
  simp only[sD,aa1,aaX]at h
  rw[h.1.1,mD a2 b2 h.1.2,uT r r' h.2]
def p7:aK→aK→Bool
 | .dead,.dead=>true
 | .box a,.box b=>zO a b
 | .arr v z L x,.arr v' z' L' x'=>decide (v=v')&&decide (z=z')&&wR L L'&&x==x'
 | .map a,.map b=>zK a b
 |_,_=>false
theorem Bh:∀a b:aK,p7 a b=true→a=b
 | .dead,b,h=>by cases b<;>first|rfl|(simp[p7]at h;done)
 | .box a,b,h=>by cases b<;>simp[p7]at h⊢ <;>exact j7 _ _ h
 | .arr ..,b,h=>by cases b<;>simp[p7]at h⊢ <;>exact⟨h.1.1.1,h.1.1.2,sM _ _ h.1.2,h.2⟩
 | .map a,b,h=>by cases b<;>simp[p7]at h⊢ <;>exact xG _ _ h
 | .loop ..,b,h=>by cases b<;>simp[p7]at h
def zE:List aK→List aK→Bool
 |[],[]=>true
 |a::r,b::r'=>p7 a b&&zE r r'
 |_,_=>false
theorem xH:∀a b:List aK,zE a b=true→a=b
 |[],[],_=>rfl
 |[],_::_,h=>by simp[zE]at h
 |_::_,[],h=>by simp[zE]at h
 |a::r,b::r',h=>by
  simp only[zE,aa1]at h
  rw[Bh a b h.1,xH r r' h.2]
def Hw(a b:Env×ae):Bool:=sD a.1 b.1&&zE a.2.bl b.2.bl&&decide (a.2.bV=b.2.bV)&&decide (a.2.ro=b.2.ro)
theorem Ea{a b:Env×ae}(h:Hw a b=true):a=b:=by
 obtain⟨e,bl,es,ro⟩:=a
 obtain⟨e',bl',es',ro'⟩:=b
 simp only[Hw,aa1,aaX]at h
 obtain⟨⟨⟨h1,h2⟩,rfl⟩,rfl⟩:=h
 rw[uT _ _ h1,xH _ _ h2]
def qt:List (Option (Env×ae))→Option (Env×ae)
 |[]=>none
 |[a]=>a
 |some a::some b::r=>bif Hw a b then qt (some b::r)else none
 |_=>none
theorem uh:∀(l:List (Option (Env×ae))) {s},qt l=some s→iU l=some s∧∀x∈l,x=some s
 |[],s,h=>by simp[qt]at h
 |[a],s,h=>⟨h,fun x hx=>by simp only[ab8]at hx;subst hx;exact h⟩
 |some a::some b::r,s,h=>by
  simp only[qt]at h
  replace h:=aj h
  obtain⟨h1,h2⟩:=h
  have:=Ea h1
  subst this
  obtain⟨h3,h4⟩:=uh (some a::r) h2
  exact⟨by rw[iU,if_pos rfl];exact h3,fun x hx=>by
   rcases abK.1 hx with rfl|hx
   ·exact h4 _ (abz ..)
   ·exact h4 x hx⟩
 |none::b::r,s,h=>by simp[qt]at h
 |some a::none::r,s,h=>by simp[qt]at h
def eM(rec:Rec)(fu:Nat):cw→Env→ae→Option Out
 | .skip,e,H=>some (.normal,e,H)
 | .ops l,e,H=>(cm rec l e H (fun e H=>some (e,H)) ()).map fun s=>(.normal,s)
 | .drawn l,e,H=>(b9 rec l H.bl.length e H (fun e H=>some (e,H)) ()).map fun s=>(.normal,s)
 | .perm l os,e,H=>(qt (os.map (jo rec l e H))).map fun s=>(.normal,s.1,s.2)
 | .seq a b,e,H=>match eM rec fu a e H with
   |some (.normal,e,H)=>eM rec fu b e H
   |r=>r
 | .cond c a b,e,H=>match ev e c with
   | .bool t=>bif t then eM rec fu a e H else eM rec fu b e H
   |_=>none
 | .block id a,e,H=>match eM rec fu a e H with
   |some (.exit j,e,H)=>some (bif j==id then .normal else .exit j,e,H)
   |r=>r
 | .freeze t,e,H=>(Es H (get e t)).map fun r=>(.normal,(t,r.1)::e,r.2)
 | .bE vs,e,H=>(ft vs e H).map fun s=>(.normal,s.1,s.2)
 | .I6 d neg x c,e,H=>match EB H (ev e x)with
   |some false=>eM rec fu c ((d,.bool neg)::e) H
   |_=>none
 | .loop p a,e,H=>(ft p.bE e H).bind fun s=>(cL (fun s'=>(dX p s.2.bl.length {s.2 with bV:=[]} s').bind fun s'=>eM rec fu a s'.1 s'.2) fu (s.1,{s.2 with bV:=[]})).map
    fun o=>(o.1,o.2.1,{o.2.2 with bV:=s.2.bV++o.2.2.bV})
 | .gW f ps x y,e,H=>(oR rec (ev e f) [.fA H.bl.length] (bM H (.loop ⟨e,ps,x,y⟩ .ready .normal))).bind fun r=>
    match bn r.2 H.bl.length with
    |some (.loop q st pend)=>match st with
     | .busy=>none
     |_=>(cz r.2 H.bl.length (.loop q .exhausted pend) 0).map fun H=>(pend,e,H)
    |_=>none
 | .ext n,e,H=>(rj n (e.map (·.2))).map fun v=>(.ret,(0,v)::e,H)
 | .exit id,e,H=>some (.exit id,e,H)
 | .ret,e,H=>some (.ret,e,H)
def lH(T:FuncId→Option aC)(fu:Nat):Nat→Rec
 |0,_,_,_=>none
 |n+1,.fn f,xs,H=>match T f with
  |none=>none
  |some F=>bif eI F xs then
    ((eM (lH T fu n) fu F.body (dV xs) ah).bind fun o=>match o.1 with
      | .exit _=>none
      |_=>(results1 o.2.1 o.2.2 F.res).bind fun v=>eh 0 o.2.2 cE v).map fun v=>(v,H)
   else(eM (lH T fu n) fu F.body (dV xs) {bl:=H.bl,bV:=[],ro:=min H.ro H.bl.length}).bind fun o=>match o.1 with
    | .exit _=>none
    |_=>(results1 o.2.1 o.2.2 F.res).bind fun v=>cR F.keep H v o.2.2
 |n+1,.qX f,xs,H=>match T f with
  |none=>none
  |some F=>(eM (lH T fu n) fu F.body (dV xs) {bl:=H.bl,bV:=[],ro:=min H.ro H.bl.length}).bind fun o=>match o.1 with
    | .exit _=>none
    |_=>(results1 o.2.1 o.2.2 F.res).bind fun v=>cR true H v o.2.2
 |n+1,.fA b,xs,H=>match bn H b with
  |some (.loop q .ready _)=>
   bif q.ps.length==xs.length then
    (eM (lH T fu n) fu q.assign ((q.ps.zip xs).reverse++q.env) {bl:=H.bl,bV:=[],ro:=min H.ro H.bl.length}).bind fun o=>match o.1 with
     | .normal=>(eE b o.2.2).bind fun H'=>(eM (lH T fu n) fu q.body o.2.1 H').bind fun o=>
        (fi b (match o.1 with| .normal=>.ready|_=>.done) o.1 o.2.2).bind fun H'=>
         (da H.bl.length H H').map fun H'=>(.bool (match o.1 with| .normal=>true|_=>false),H')
     |_=>none
   else none
  |_=>none
section
variable{rec rec':Rec}(hrec:∀f xs H r,rec f xs H=some r→rec' f xs H=some r)
include hrec
theorem AA{f xs H r}(h:kE rec f xs H=some r):kE rec' f xs H=some r:=by
 unfold kE at h⊢
 split at h
 ·exact hrec _ _ _ _ h
 ·exact hrec _ _ _ _ h
 ·exact hrec _ _ _ _ h
 ·cases h
theorem A5{f xs H r}(h:oR rec f xs H=some r):oR rec' f xs H=some r:=by
 unfold oR at h⊢
 split at h
 ·exact hrec _ _ _ _ h
 ·cases h
theorem nj{e H o r}(h:az rec e H o=some r):az rec' e H o=some r:=by
 unfold az at h⊢
 split at h
 ·exact AA hrec h
 ·exact hrec _ _ _ _ h
 ·unfold rK at h⊢
  obtain⟨vs,h1,h2⟩:=aaY.1 h
  obtain⟨r1,h3,h4⟩:=aaY.1 h2
  exact aaY.2 ⟨vs,h1,aaY.2 ⟨r1,hrec _ _ _ _ h3,h4⟩⟩
 ·exact h
theorem zz{N d e H o r}(h:cd rec N d e H o=some r):cd rec' N d e H o=some r:=by
 unfold cd at h⊢
 split at h
 ·exact nj hrec h
 ·obtain⟨a,h1,h2⟩:=aaY.1 h
  exact aaY.2 ⟨a,nj hrec h1,h2⟩
 ·obtain⟨a,h1,h2⟩:=aaY.1 h
  exact aaY.2 ⟨a,nj hrec h1,h2⟩
 ·unfold wF at h ⊢;exact h
theorem rL{R:Type}(k:Env→ae→Option R):∀l e H o,cm rec l e H (fun e H=>some (e,H)) ()=some o→cm rec' l e H k ()=k o.1 o.2:=by
 intro l
 induction l with
 |nil=>intro e H o h;simp only[cm,abd]at h ⊢;rw[←h]
 |cons a l ih=>
  intro e H o h
  have key:∀o,aT (az rec e H a.op) (fun r=>cm rec l (cj e a.dst r.1) r.2 (fun e H=>some (e,H)) ()) ()=some o→aT (az rec' e H a.op) (fun r=>cm rec' l (cj e a.dst r.1) r.2 k ()) ()=k o.1 o.2:=by
   intro o h
   unfold aT at h
   split at h
   ·rename_i v hv
    rw[nj hrec hv]
    exact ih _ _ _ h
   ·cases h
  simp only[cm]at h⊢
  split at h
  ·exact key _ h
  ·rename_i t w _
   unfold fo at h⊢
   split at h
   ·unfold fork at h⊢
    dsimp only at h⊢
    rename_i b _
    cases hb:(b==w)with
    |true=>rw[hb]at h;exact key _ h
    |false=>rw[hb]at h;exact ih _ _ _ h
   ·unfold fork at h⊢
    exact ih _ _ _ h
   ·cases h
theorem vz{R:Type}(k:Env→ae→Option R):∀l N e H o,b9 rec l N e H (fun e H=>some (e,H)) ()=some o→b9 rec' l N e H k ()=k o.1 o.2:=by
 intro l
 induction l with
 |nil=>intro N e H o h;simp only[b9,abd]at h ⊢;rw[←h]
 |cons a l ih=>
  intro N e H o h
  obtain⟨a,d⟩:=a
  have key:∀o,aT (cd rec N d e H a.op) (fun r=>b9 rec l (fG d N r.2) (cj e a.dst r.1) r.2 (fun e H=>some (e,H)) ()) ()=some o→
   aT (cd rec' N d e H a.op) (fun r=>b9 rec' l (fG d N r.2) (cj e a.dst r.1) r.2 k ()) ()=k o.1 o.2:=by
   intro o h
   unfold aT at h
   split at h
   ·rename_i v hv
    rw[zz hrec hv]
    exact ih _ _ _ _ h
   ·cases h
  have key2:∀o,(bif iq d then b9 rec l (fG d N H) (cj e a.dst .iX) H (fun e H=>some (e,H)) ()else none)=some o→
   (bif iq d then b9 rec' l (fG d N H) (cj e a.dst .iX) H k ()else none)=k o.1 o.2:=by
   intro o h
   cases hs:iq d with
   |true=>rw[hs]at h;exact ih _ _ _ _ h
   |false=>rw[hs]at h;cases h
  simp only[b9]at h⊢
  split at h
  ·exact key _ h
  ·rename_i t w _
   unfold fo at h⊢
   split at h
   ·unfold fork at h⊢
    dsimp only at h⊢
    rename_i b _
    cases hb:(b==w)with
    |true=>rw[hb]at h;exact key _ h
    |false=>rw[hb]at h;exact key2 _ h
   ·unfold fork at h⊢
    exact key2 _ h
   ·cases h
theorem A0{f g:Env×ae→Option Out}(hfg:∀s o,f s=some o→g s=some o):∀n s o,cL f n s=some o→cL g n s=some o:=by
 intro n
 induction n with
 |zero=>intro s o h;cases h
 |succ n ih=>
  intro s o h
  simp only[cL]at h⊢
  cases hf:f s with
  |none=>rw[hf]at h;cases h
  |some r=>
   rw[hfg _ _ hf]
   rw[hf]at h
   obtain⟨x,s'⟩:=r
   cases x with
   |normal=>exact ih _ _ h
   |exit j=>exact h
   |ret=>exact h
theorem fV(fu:Nat):∀(c:cw) (e:Env) (H:ae) (o:Out),eM rec fu c e H=some o→∀{R:Type} (k:lG→Env→ae→Option R),run rec' c e H k ()=k o.1 o.2.1 o.2.2:=by
 intro c
 induction c with
 |skip=>intro e H o h R k;simp only[eM,abd]at h;subst h;rfl
 |ops l=>
  intro e H o h R k
  simp only[eM,aaW]at h
  obtain⟨s,hs,rfl⟩:=h
  exact rL hrec _ _ _ _ _ hs
 |drawn l=>
  intro e H o h R k
  simp only[eM,aaW]at h
  obtain⟨s,hs,rfl⟩:=h
  exact vz hrec _ _ _ _ _ _ hs
 |perm l os=>
  intro e H o h R k
  simp only[eM,aaW]at h
  obtain⟨s,hs,rfl⟩:=h
  obtain⟨h1,h2⟩:=uh _ hs
  have hmap:os.map (jo rec' l e H)=os.map (jo rec l e H):=by
   apply List.map_congr_left
   intro x hx
   have h3:=h2 _ (acd.2 ⟨x,hx,rfl⟩)
   rw[h3]
   unfold jo at h3⊢
   rw[ng]at h3
   obtain⟨s2,h4,h5⟩:=aaY.1 h3
   have h6:cm rec (cF l x) e H (fun e H=>some (e,H)) ()=some s2:=by rw[ng,h4];rfl
   rw[rL hrec _ _ _ _ _ h6]
   exact h5
  simp only[run,hmap,h1,aT]
 |seq a b iha ihb=>
  intro e H o h R k
  simp only[eM]at h
  simp only[run]
  split at h
  ·rename_i e' H' ha
   rw[iha _ _ _ ha]
   exact ihb _ _ _ h k
  ·rename_i hn
   rw[iha _ _ _ h]
   obtain⟨x,e',H'⟩:=o
   cases x with
   |normal=>exact absurd h (hn _ _)
   |exit j=>rfl
   |ret=>rfl
 |cond c a b iha ihb=>
  intro e H o h R k
  simp only[eM]at h
  simp only[run]
  split at h
  ·rename_i t ht
   rw[ht]
   simp only[pU,fork]
   cases t with
   |true=>exact iha _ _ _ h k
   |false=>exact ihb _ _ _ h k
  ·cases h
 |block id a ih=>
  intro e H o h R k
  simp only[eM]at h
  simp only[run]
  split at h
  ·rename_i j e' H' ha
   rw[ih _ _ _ ha]
   cases h
   dsimp only
   cases j==id<;>rfl
  ·rename_i hn
   rw[ih _ _ _ h]
   obtain⟨x,e',H'⟩:=o
   cases x with
   |normal=>rfl
   |exit j=>exact absurd h (hn _ _ _)
   |ret=>rfl
 |freeze t=>
  intro e H o h R k
  simp only[eM,aaW]at h
  obtain⟨s,hs,rfl⟩:=h
  simp only[run,hs,aT]
 |bE vs=>
  intro e H o h R k
  simp only[eM,aaW]at h
  obtain⟨s,hs,rfl⟩:=h
  simp only[run,hs,aT]
 |I6 d neg x c ih=>
  intro e H o h R k
  simp only[eM]at h
  split at h
  ·rename_i hem
   simp only[run,hem,Au]
   exact ih _ _ _ h k
  ·cases h
 |loop p a ih=>
  intro e H o h R k
  simp only[eM]at h
  obtain⟨s,h1,h2⟩:=aaY.1 h
  obtain⟨o',h3,rfl⟩:=aaW.1 h2
  simp only[run,h1,aT]
  have h4:=A0 hrec (g:=fun s'=>(dX p s.2.bl.length {s.2 with bV:=[]} s').bind fun s'=>run rec' a s'.1 s'.2 (fun x e H=>some (x,e,H)) ()) (fun s' o hs=>by
   obtain⟨q,g1,g2⟩:=aaY.1 hs
   exact aaY.2 ⟨q,g1,ih _ _ _ g2 _⟩) _ _ _ h3
  rw[nf h4]
 |gW f ps x y ihx ihy=>
  intro e H o h R k
  simp only[eM]at h
  obtain⟨s,h1,h2⟩:=aaY.1 h
  simp only[run,A5 hrec h1,aT]
  split at h2
  ·rename_i q st pend hg
   rw[hg]
   cases st with
   |busy=>cases h2
   |ready=>obtain⟨o',h3,rfl⟩:=aaW.1 h2;simp only[h3]
   |done=>obtain⟨o',h3,rfl⟩:=aaW.1 h2;simp only[h3]
   |exhausted=>obtain⟨o',h3,rfl⟩:=aaW.1 h2;simp only[h3]
  ·cases h2
 |ext n=>
  intro e H o h R k
  simp only[eM,aaW]at h
  obtain⟨s,hs,rfl⟩:=h
  simp only[run,hs,aT]
 |exit id=>intro e H o h R k;simp only[eM,abd]at h;subst h;rfl
 |ret=>intro e H o h R k;simp only[eM,abd]at h;subst h;rfl
end
theorem fk{T:FuncId→Option aC}(fu:Nat):∀n f xs H r,lH T fu n f xs H=some r→aa T n f xs H=some r:=by
 intro n
 induction n with
 |zero=>intro f xs H r h;simp[lH]at h
 |succ n ih=>
  intro f xs H r h
  cases f with
  |fn f=>
   simp only[lH]at h
   simp only[aa]
   split at h
   ·cases h
   ·rename_i F hF
    rw[hF]
    dsimp only
    cases hp:eI F xs with
    |true=>
     rw[hp]at h
     simp only[abb]at h⊢
     obtain⟨v,hv,rfl⟩:=aaW.1 h
     obtain⟨o,h1,h2⟩:=aaY.1 hv
     rw[fV ih fu _ _ _ _ h1]
     obtain⟨x,e',H'⟩:=o
     cases x with
     |exit j=>cases h2
     |normal=>simp only at h2;simp only[h2,abL]
     |ret=>simp only at h2;simp only[h2,abL]
    |false=>
     rw[hp]at h
     simp only[abc]at h⊢
     obtain⟨o,h1,h2⟩:=aaY.1 h
     rw[fV ih fu _ _ _ _ h1]
     obtain⟨x,e',H'⟩:=o
     cases x with
     |exit j=>cases h2
     |normal=>exact h2
     |ret=>exact h2
  |qX f=>
   simp only[lH]at h
   simp only[aa]
   split at h
   ·cases h
   ·rename_i F hF
    rw[hF]
    dsimp only
    obtain⟨o,h1,h2⟩:=aaY.1 h
    rw[fV ih fu _ _ _ _ h1]
    obtain⟨x,e',H'⟩:=o
    cases x with
    |exit j=>cases h2
    |normal=>exact h2
    |ret=>exact h2
  |fA b=>
   simp only[lH]at h
   simp only[aa]
   split at h
   ·rename_i q pend hg
    rw[hg]
    dsimp only
    cases hp:q.ps.length==xs.length with
    |false=>rw[hp]at h;cases h
    |true=>
     rw[hp]at h
     simp only[abb]at h⊢
     obtain⟨o,h1,h2⟩:=aaY.1 h
     rw[fV ih fu _ _ _ _ h1]
     obtain⟨x,e',H'⟩:=o
     cases x with
     |exit j=>cases h2
     |ret=>cases h2
     |normal=>
      simp only at h2⊢
      obtain⟨H1,h3,h4⟩:=aaY.1 h2
      rw[h3]
      simp only[abO]
      obtain⟨o,h5,h6⟩:=aaY.1 h4
      rw[fV ih fu _ _ _ _ h5]
      exact h6
   ·cases h
end
def post{A:Type}(v:Option A)(Q:A→Prop):Prop:=∃o,v=some o∧Q o
theorem kU{A:Type}{b:Bool}{x y:Option A}{t:oK (x,y)}{Q:A→Prop}(h1:b=true→post x Q)(h2:b=false→post y Q):post (fork b x y t) Q:=by
 cases b
 ·exact h2 rfl
 ·exact h1 rfl
@[go_sem] theorem IX {A:Type}(o:A)(Q:A→Prop):post (some o) Q=Q o:=by
  apply propext
  exact⟨fun⟨o',h1,h2⟩=>by cases h1;exact h2,fun h=>⟨o,rfl,h⟩⟩
@[go_sem] theorem JU (e H):ft [] e H=some (e,H):=Eq.trans rfl rfl
def uf(r:List (Nat×Nat))(t z:Nat)(e:Env)(H:ae):SV→Option (Env×ae)
 | .ay _ [] true=>ft r ((t,.bp H.bl.length 0 0 0)::e) (bM H (.arr 0 z [] false))
 | .ptr b _ _ _=>(pI H b z (bn H b)).bind fun H=>ft r e H
 | .ay _ (_::_) true=>ft r e (bM H (.arr 0 z [] false))
 |_=>none
@[go_sem] theorem Is (t z r e H):ft ((t,z)::r) e H=uf r t z e H (get e t):=by
  simp only[ft,uf]
  generalize get e t=v
  cases v<;>rfl
@[go_sem] theorem IV (t z z' r e H):uf r t z e H (.ay z' [] true)=ft r ((t,.bp H.bl.length 0 0 0)::e) (bM H (.arr 0 z [] false)):=Eq.trans rfl rfl
@[go_sem] theorem Je (t z r e H b v i o):uf r t z e H (.ptr b v i o)=aT (pI H b z (bn H b)) (fun H=>ft r e H) ():=by
  simp only[uf]
  cases pI H b z (bn H b)<;>rfl
@[go_sem] theorem Ij (H b z c d cs):pI H b z (some (.box (c::d::cs)))=xF H b (z%1000) (z/1000) (c::d::cs) ((c::d::cs)[z/1000]?):=by
  simp only[pI]
@[go_sem] theorem Iw (H b z j cs z'):xF H b z j cs (some (.ay z' [] true))=cz (bM H (.arr 0 z [] false)) b (.box (cs.set j (.bp H.bl.length 0 0 0))) (H.bl.length+1):=Eq.trans rfl rfl
@[go_sem] theorem qI (p N H0 e H):dX p N H0 (e,H)=aT (dR p.bE (N-p.bE.length) N e H) (fun s=>vB p N H0 s) ():=by
  show(dR p.bE (N-p.bE.length) N e H).bind (vB p N H0)=_
  cases dR p.bE (N-p.bE.length) N e H<;>rfl
@[go_sem] theorem Ib (i l):jJ (i::l)=(i==999999):=Eq.trans rfl rfl
@[go_sem] theorem qo (p N H0 e H):vB p N H0 (e,H)=bif jJ p.live then some (dI p.live.tail e,H)else bif decide (SV.refs.aJ ((dI p.live e).map (·.2))≤N)then(da N H0 H).map (fun H=>(dI p.live e,H))else none:=Eq.trans rfl rfl
def tU(r:List (Nat×Nat))(t z h N:Nat)(e:Env)(H:ae):SV→Option (Env×ae)
 | .bp b v 0 n=>bif decide (N≤b)then(bif decide (h<N)then aT (p8 H t h z b v n e (bn H h) (bn H b)) (fun s=>dR r (h+1) N s.1 s.2) ()else dR r (h+1) N e H)else dR r (h+1) N e H
 |_=>dR r (h+1) N e H
@[go_sem] theorem mh (h N e H):dR [] h N e H=some (e,H):=Eq.trans rfl rfl
@[go_sem] theorem FC (t z r h N e H):dR ((t,z)::r) h N e H=tU r t z h N e H (get e t):=by
  simp only[dR,tU]
  generalize get e t=v
  cases v<;>try rfl
  rename_i b v off n
  cases off with
  |succ k=>rfl
  |zero=>
   simp only
   cases decide (N≤b)<;>cases decide (h<N)<;>try rfl
   show Option.bind _ _=aT _ _ ()
   cases p8 H t h z b v n e (bn H h) (bn H b)<;>rfl
@[go_sem] theorem Fu (r t z h N e H b v n):tU r t z h N e H (.bp b v 0 n)=bif decide (N≤b)then(bif decide (h<N)then aT (p8 H t h z b v n e (bn H h) (bn H b)) (fun s=>dR r (h+1) N s.1 s.2) ()else dR r (h+1) N e H)else dR r (h+1) N e H:=Eq.trans rfl rfl
@[go_sem] theorem I4 (H t h z b v n e z0 ex0 v' z' L ex):p8 H t h z b v n e (some (.arr 0 z0 [] ex0)) (some (.arr v' z' L ex))=bif z'==z&&v==v'&&n==L.length&&decide (H.ro≤h)&&!(h==b)&&SV.refs.aJ L.flatten==0 then
 some ((t,.bp h (v+1) 0 n)::e,{bl:=(H.bl.set h (.arr (v+1) z L ex)).set b .dead,bV:=H.bV,ro:=H.ro})else none:=Eq.trans rfl rfl
@[go_sem] theorem Ny (e):dI [] e=[]:=Eq.trans rfl rfl
@[go_sem] theorem IP (i l e):dI (i::l) e=(i,get e i)::dI l e:=Eq.trans rfl rfl
@[go_sem] theorem zL (N r bl r' es):da N ⟨r,es,r'⟩ ⟨bl,[],0⟩=bif decide (N≤bl.length)then some ⟨bl.take N,es,r'⟩else none:=by
  unfold da
  simp
@[go_sem] theorem vH (N H0 H):da N H0 H=bif decide (N≤H.bl.length)&&H.bV.all (fun p=>!(decide (p.1<N)&&decide (N<p.2)))then some {bl:=H.bl.take N,bV:=H0.bV++H.bV.filter (fun p=>decide (p.1<N)),ro:=H0.ro} else none:=Eq.trans rfl rfl
attribute [go_sem] List.all_nil List.all_cons List.filter_nil ac7 ab4
@[go_sem] theorem Vg (z L f ix):iy (.ay z L f) ix=(iC L.length ix).bind fun i=>(L[i]?).map .fN:=Eq.trans rfl rfl
@[go_sem] theorem Sx (b v off n ix):iy (.bp b v off n) ix=(iC n ix).map fun i=>.ptr b v (off+i) 0:=Eq.trans rfl rfl
@[go_sem] theorem Qu (n k i):iC n (.int k i)=bif decide (0≤i)&&decide (i<(n:Int))then some i.toNat else none:=Eq.trans rfl rfl
@[go_sem] theorem UX (i:Nat):decide ((0:Int)≤(i:Int))=true:=by simp
@[go_sem] theorem UC (i n:Nat):decide ((i:Int)<(n:Int))=decide (i<n):=by simp
theorem eB{T:FuncId→Option aC}{f:FuncId}{F:aC}{xs:List SV}{n:Nat}{H H0 H1:ae}{v:SV}(hT:T f=some F)(hp:eI F xs=true)
 (h:aa T (n+1) (.fn f) xs H0=some (v,H1)):aa T (n+1) (.fn f) xs H=some (v,H):=by
 simp only[aa,hT,hp,abb,aaW]at h⊢
 obtain⟨a,h1,h2⟩:=h
 cases h2
 exact⟨_,h1,rfl⟩
theorem bm{T:FuncId→Option aC}{f:FuncId}{F:aC}{xs:List SV}{n:Nat}{H:ae}{r:SV×ae}(hT:T f=some F)(hp:eI F xs=false)
 (h:runK (aa T n) (ov F.res (fun v H'=>cR F.keep H v H')) F.body [] (dV xs) ⟨H.bl,[],min H.ro H.bl.length⟩ ()=some r):aa T (n+1) (.fn f) xs H=some r:=by
 have hk:∀k:lG→Env→ae→Option (SV×ae),k=ov F.res (fun v H'=>cR F.keep H v H')→run (aa T n) F.body (dV xs) ⟨H.bl,[],min H.ro H.bl.length⟩ k ()=some r:=by
  intro k hk
  rw[hk,j9]
  exact h
 simp only[aa,hT,hp,abc]
 exact hk _ (by funext x e H';cases x<;>rfl)
theorem eP{T:FuncId→Option aC}{f:FuncId}{F:aC}{xs:List SV}{n:Nat}{H:ae}{r:SV×ae}(hT:T f=some F)
 (h:runK (aa T n) (ov F.res (fun v H'=>cR true H v H')) F.body [] (dV xs) ⟨H.bl,[],min H.ro H.bl.length⟩ ()=some r):aa T (n+1) (.qX f) xs H=some r:=by
 have hk:∀k:lG→Env→ae→Option (SV×ae),k=ov F.res (fun v H'=>cR true H v H')→run (aa T n) F.body (dV xs) ⟨H.bl,[],min H.ro H.bl.length⟩ k ()=some r:=by
  intro k hk
  rw[hk,j9]
  exact h
 simp only[aa,hT]
 exact hk _ (by funext x e H';cases x<;>rfl)
@[go_sem] theorem Gx (H0 v H):cR true H0 v H=some (v,⟨H.bl,H0.bV++H.bV,H0.ro⟩):=Eq.trans rfl rfl
@[go_sem] theorem oE (H0 v H):cR false H0 v H=(eh H0.bl.length H cE v).bind fun v=>(da H0.bl.length H0 H).map fun H=>(v,H):=Eq.trans rfl rfl
def pX(b:Nat)(H:ae)(x:lG)(_:Env)(H':ae):Option (SV×ae):=aT (fi b (match x with| .normal=>.ready|_=>.done) x H') (fun H'=>(da H.bl.length H H').map fun H'=>(.bool (match x with| .normal=>true|_=>false),H')) ()
noncomputable def uJ (rec:Rec) (body:cw) (b:Nat) (H:ae) (x:lG) (e:Env) (H':ae):Option (SV×ae):=match x with
 | .normal=>aT (eE b H') (fun H'=>runK rec (pX b H) body [] e H' ()) ()
 |_=>none
@[go_sem] theorem PH (rec body b H e H'):uJ rec body b H .normal e H'=aT (eE b H') (fun H'=>runK rec (pX b H) body [] e H' ()) ():=Eq.trans rfl rfl
@[go_sem] theorem OV (b H e H'):pX b H .normal e H'=aT (fi b .ready .normal H') (fun H'=>(da H.bl.length H H').map fun H'=>(.bool true,H')) ():=Eq.trans rfl rfl
@[go_sem] theorem Pf (b H j e H'):pX b H (.exit j) e H'=aT (fi b .done (.exit j) H') (fun H'=>(da H.bl.length H H').map fun H'=>(.bool false,H')) ():=Eq.trans rfl rfl
def w7(b:Nat)(H:ae):Option aK→Option ae
 |some (.loop q .ready pend)=>cz H b (.loop q .busy pend) 0
 |_=>none
@[go_sem] theorem KO (b H):eE b H=w7 b H (bn H b):=by
  unfold eE w7
  cases bn H b with
  |none=>rfl
  |some x=>cases x<;>rfl
@[go_sem] theorem EW (b H q pend):w7 b H (some (.loop q .ready pend))=cz H b (.loop q .busy pend) 0:=Eq.trans rfl rfl
def qJ(b:Nat)(st:LoopState)(pend:lG)(H:ae):Option aK→Option ae
 |some (.loop q _ _)=>cz H b (.loop q st pend) 0
 |_=>none
@[go_sem] theorem GA (b st pend H):fi b st pend H=qJ b st pend H (bn H b):=by
  unfold fi qJ
  cases bn H b with
  |none=>rfl
  |some x=>cases x<;>rfl
@[go_sem] theorem CZ (b st pend H q s p):qJ b st pend H (some (.loop q s p))=cz H b (.loop q st pend) 0:=Eq.trans rfl rfl
theorem nL{T:FuncId→Option aC}{b n:Nat}{xs:List SV}{H:ae}{q:eU}{pend:lG}{r:SV×ae}(hg:bn H b=some (.loop q .ready pend))(hl:(q.ps.length==xs.length)=true)
 (h:runK (aa T n) (uJ (aa T n) q.body b H) q.assign [] ((q.ps.zip xs).reverse++q.env) ⟨H.bl,[],min H.ro H.bl.length⟩ ()=some r):aa T (n+1) (.fA b) xs H=some r:=by
 have hk2:∀(k:lG→Env→ae→Option (SV×ae)),k=pX b H→∀e H',run (aa T n) q.body e H' k ()=runK (aa T n) (pX b H) q.body [] e H' ():=by
  intro k hk e H'
  rw[hk,j9]
 have hk:∀k:lG→Env→ae→Option (SV×ae),k=uJ (aa T n) q.body b H→run (aa T n) q.assign ((q.ps.zip xs).reverse++q.env) ⟨H.bl,[],min H.ro H.bl.length⟩ k ()=some r:=by
  intro k hk
  rw[hk,j9]
  exact h
 simp only[aa,hg,hl,abb]
 refine hk _ ?_
 funext x e H'
 cases x with
 |ret=>rfl
 |exit j=>rfl
 |normal=>
  simp only[uJ]
  cases hb:eE b H' with
  |none=>rfl
  |some H1=>
   simp only[abO,aT]
   exact hk2 _ (by funext x e H';unfold pX;cases x<;>(simp only[aT];cases fi b _ _ H'<;>rfl)) _ _
def Round{R:Type}(p:cr)(N:Nat)(H0:ae)(σ:Nat→Env×ae)(P:Nat→Prop)(m i:Nat)(k:Out→Option R)(r:Option R)(o:Out):Prop:=match o with
 |(.normal,s')=>i<m∧dX p N H0 s'=some (σ (i+1))∧P (i+1)
 |o=>k o=r
@[go_sem] theorem PQ {R:Type}(p N H0 σ P m i)(k:Out→Option R)(r s):Round p N H0 σ P m i k r (.normal,s)=(i<m∧dX p N H0 s=some (σ (i+1))∧P (i+1)):=Eq.trans rfl rfl
@[go_sem] theorem Po {R:Type}(p N H0 σ P m i)(k:Out→Option R)(r j s):Round p N H0 σ P m i k r (.exit j,s)=(k (.exit j,s)=r):=Eq.trans rfl rfl
@[go_sem] theorem PW {R:Type}(p N H0 σ P m i)(k:Out→Option R)(r s):Round p N H0 σ P m i k r (.ret,s)=(k (.ret,s)=r):=Eq.trans rfl rfl
theorem aY{R:Type}{p:cr}{N:Nat}{H0:ae}{rec:Rec}{a:cw}{s0:Env×ae}{k:Out→Option R}{r:Option R}
 (σ:Nat→Env×ae) (P:Nat→Prop) (m:Nat) (h0:dX p N H0 s0=some (σ 0)) (hP:P 0)
 (h:∀i,i≤m→P i→post (runK rec (fun x e H=>some (x,e,H)) a [] (σ i).1 (σ i).2 ()) (Round p N H0 σ P m i k r)) :
 aT (j5 (eV p N H0 rec a) s0) k ()=r:=by
 have key:∀(j i:Nat) (s:Env×ae),i+j=m→P i→dX p N H0 s=some (σ i)→∃n o,cL (eV p N H0 rec a) n s=some o∧k o=r:=by
  intro j
  induction j with
  |zero=>
   intro i s hi hPi hs
   obtain⟨o,h1,h2⟩:=h i (by omega) hPi
   have hf:eV p N H0 rec a s=some o:=by rw[gF,hs];exact h1
   obtain⟨x,s'⟩:=o
   cases x with
   |normal=>exact absurd h2.1 (by omega)
   |exit id=>exact⟨1,_,by simp only[cL,hf],h2⟩
   |ret=>exact⟨1,_,by simp only[cL,hf],h2⟩
  |succ j ih=>
   intro i s hi hPi hs
   obtain⟨o,h1,h2⟩:=h i (by omega) hPi
   have hf:eV p N H0 rec a s=some o:=by rw[gF,hs];exact h1
   obtain⟨x,s'⟩:=o
   cases x with
   |normal=>
    obtain⟨n,o,h3,h4⟩:=ih (i+1) s' (by omega) h2.2.2 h2.2.1
    exact⟨n+1,o,by simp only[cL,hf];exact h3,h4⟩
   |exit id=>exact⟨1,_,by simp only[cL,hf],h2⟩
   |ret=>exact⟨1,_,by simp only[cL,hf],h2⟩
 obtain⟨n,o,h1,h2⟩:=key m 0 s0 (by omega) hP h0
 exact EN o (nf h1) h2
def tV{R:Type}(p:cr)(N:Nat)(H0:ae)(σ:Nat→Env×ae)(P:Nat→Prop)(m i:Nat)(k:Out→Option R)(Q:R→Prop)(o:Out):Prop:=match o with
 |(.normal,s')=>i<m∧dX p N H0 s'=some (σ (i+1))∧P (i+1)
 |o=>post (k o) Q
@[go_sem] theorem NP {R:Type}(p N H0 σ P m i)(k:Out→Option R)(Q s):tV p N H0 σ P m i k Q (.normal,s)=(i<m∧dX p N H0 s=some (σ (i+1))∧P (i+1)):=Eq.trans rfl rfl
@[go_sem] theorem M6 {R:Type}(p N H0 σ P m i)(k:Out→Option R)(Q j s):tV p N H0 σ P m i k Q (.exit j,s)=post (k (.exit j,s)) Q:=Eq.trans rfl rfl
@[go_sem] theorem K7 {R:Type}(p N H0 σ P m i)(k:Out→Option R)(Q s):tV p N H0 σ P m i k Q (.ret,s)=post (k (.ret,s)) Q:=Eq.trans rfl rfl
theorem oz{R:Type}{p:cr}{N:Nat}{H0:ae}{rec:Rec}{a:cw}{s0:Env×ae}{k:Out→Option R}{Q:R→Prop}
 (σ:Nat→Env×ae) (P:Nat→Prop) (m:Nat) (h0:dX p N H0 s0=some (σ 0)) (hP:P 0)
 (h:∀i,i≤m→P i→post (runK rec (fun x e H=>some (x,e,H)) a [] (σ i).1 (σ i).2 ()) (tV p N H0 σ P m i k Q)) :
 post (aT (j5 (eV p N H0 rec a) s0) k ()) Q:=by
 have key:∀(j i:Nat) (s:Env×ae),i+j=m→P i→dX p N H0 s=some (σ i)→∃n o,cL (eV p N H0 rec a) n s=some o∧post (k o) Q:=by
  intro j
  induction j with
  |zero=>
   intro i s hi hPi hs
   obtain⟨o,h1,h2⟩:=h i (by omega) hPi
   have hf:eV p N H0 rec a s=some o:=by rw[gF,hs];exact h1
   obtain⟨x,s'⟩:=o
   cases x with
   |normal=>exact absurd h2.1 (by omega)
   |exit id=>exact⟨1,_,by simp only[cL,hf],h2⟩
   |ret=>exact⟨1,_,by simp only[cL,hf],h2⟩
  |succ j ih=>
   intro i s hi hPi hs
   obtain⟨o,h1,h2⟩:=h i (by omega) hPi
   have hf:eV p N H0 rec a s=some o:=by rw[gF,hs];exact h1
   obtain⟨x,s'⟩:=o
   cases x with
   |normal=>
    obtain⟨n,o,h3,h4⟩:=ih (i+1) s' (by omega) h2.2.2 h2.2.1
    exact⟨n+1,o,by simp only[cL,hf];exact h3,h4⟩
   |exit id=>exact⟨1,_,by simp only[cL,hf],h2⟩
   |ret=>exact⟨1,_,by simp only[cL,hf],h2⟩
 obtain⟨n,o,h1,h2⟩:=key m 0 s0 (by omega) hP h0
 rw[nf h1]
 exact h2
def jz{A:Type}(p:A→Bool):List A→Int
 |[]=> -1
 |a::l=>if p a then 0 else if jz p l<0 then -1 else jz p l+1
theorem iE{A:Type}(p:A→Bool):∀l:List A,decide (0≤jz p l)=l.any p
 |[]=>rfl
 |a::l=>by
  have ih:=iE p l
  rw[abG,aaX]at ih⊢
  simp only[jz,ael,abS,←ih]
  by_cases hp:p a=true
  ·simp[hp]
  ·rw[if_neg hp]
   simp only[hp,abE,false_or]
   split<;>omega
theorem gE{A:Type}{p:A→Bool}:∀{l:List A},(∀(j:Nat) a,l[j]?=some a→p a=false)→jz p l= -1
 |[],_=>rfl
 |a::l,h=>by
  have h0:=h 0 a rfl
  have ih:=gE (l:=l) (fun j b hb=>h (j+1) b (by simpa using hb))
  simp[jz,h0,ih]
theorem kQ{A:Type}{p:A→Bool}:∀{l:List A} {i:Nat} {a:A},l[i]?=some a→p a=true→(∀(j:Nat) b,j<i→l[j]?=some b→p b=false)→jz p l=i
 |[],i,a,h,_,_=>by simp at h
 |b::l,0,a,h,hp,_=>by simp at h;subst h;simp[jz,hp]
 |b::l,i+1,a,h,hp,hn=>by
  have h0:=hn 0 b (by omega) rfl
  have ih:=kQ (l:=l) (i:=i) (by simpa using h) hp (fun j c hj hc=>hn (j+1) c (by omega) (by simpa using hc))
  simp only[jz,h0,ih,abE,if_false]
  rw[if_neg (by omega)]
  omega
def Rl(bT:Nat)(H:ae)(b v off n:Nat)(X:List (List SV)):Option aK→Option (SV×ae)
 |some (.arr v' z L e)=>bif v==v'&&z==bT&&decide (off+n≤L.length)then
   bif !e&&off==0&&n==L.length then(cz H b (.arr (v+1) z (L++X) false) (SV.refs.aJ X.flatten)).map fun H=>(.bp b (v+1) off (n+X.length),H)
   else bif decide (off+n+X.length≤L.length)then(cz H b (.arr v z (L.take (off+n)++X++L.drop (off+n+X.length)) e) (SV.refs.aJ X.flatten)).map fun H=>(.bp b v off (n+X.length),H)
   else bif e then some (.bp H.bl.length 0 0 (n+X.length),bM H (.arr 0 z ((L.drop off).take n++X) false))else none
  else none
 |_=>none
@[go_sem] theorem Qw (bT bytes H b v off n X):gB bT bytes H (.bp b v off n) X=bif decide ((n+X.length)*bytes≤bX)then Rl bT H b v off n X (bn H b)else none:=by
  simp only[gB]
  generalize bn H b=q
  cases q with
  |none=>rfl
  |some q=>cases q<;>rfl
theorem eo(bT:Nat)(H:ae)(b v n:Nat)(X L:List (List SV))(h:L.length=n):Rl bT H b v 0 n X (some (.arr v bT L false))=(cz H b (.arr (v+1) bT (L++X) false) (SV.refs.aJ X.flatten)).map fun H=>(.bp b (v+1) 0 (n+X.length),H):=by
 subst h
 simp[Rl]
@[go_sem] theorem UO (bT bytes H z X):gB bT bytes H (.ay z [] true) X=bif decide (X.length*bytes≤bX)then some (.bp H.bl.length 0 0 X.length,bM H (.arr 0 bT X false))else none:=by
  simp[gB]
def I8(N:Nat)(H:ae)(d v off n:Nat):Option aK→Option SV
 |some (.arr ver' z L ex)=>bif v==ver'&&decide (off+n≤L.length)then
   (bQ (((L.drop off).take n).map fun cs=>bQ (cs.map (eh N H d)))).bind fun L'=>bif SV.refs.aJ L'.flatten==0 then some (.ay z L' (ex&&off+n==L.length))else none
  else none
 |_=>none
@[go_sem] theorem TR (N H d b v off n):eh N H (d+1) (.bp b v off n)=bif decide (b<N)then some (.bp b v off n)else I8 N H d v off n (bn H b):=by
  simp only[eh]
  generalize bn H b=q
  cases q with
  |none=>rfl
  |some q=>cases q<;>rfl
theorem nm{A:Type}{f:A→Option A}:∀{l:List A},(∀a∈l,f a=some a)→bQ (l.map f)=some l
 |[],_=>rfl
 |a::l,h=>by
  have ih:=nm (f:=f) (l:=l) (fun b hb=>h b (by simp[hb]))
  simp only[abB,h a (by simp),bQ,ih,abL]
theorem ot:∀{L:List (List SV)},(∀cs∈L,∀c∈cs,c.refs=0)→SV.refs.aJ L.flatten=0
 |[],_=>by simp[SV.refs.aJ]
 |cs::L,h=>by
  have ih:=ot (L:=L) (fun b hb=>h b (by simp[hb]))
  have key:∀(cs:List SV),(∀c∈cs,c.refs=0)→SV.refs.aJ (cs++L.flatten)=0:=by
   intro cs
   induction cs with
   |nil=>intro _;exact ih
   |cons c cs ih2=>intro hc;simp only[abV,SV.refs.aJ,hc c (by simp),ih2 (fun x hx=>hc x (by simp[hx]))];rfl
  exact key cs (h cs (by simp))
theorem za(N:Nat)(H:ae)(d v n z:Nat)(L:List (List SV))(e:Bool)(h:L.length=n)(h1:∀cs∈L,∀c∈cs,eh N H d c=some c)(h2:∀cs∈L,∀c∈cs,c.refs=0) :
 I8 N H d v 0 n (some (.arr v z L e))=some (.ay z L e):=by
 subst h
 simp only[I8,adj,ab4,ach,acg,aa8,ace,abn,abb,acy]
 rw[nm (fun cs hcs=>nm (fun c hc=>h1 cs hcs c hc))]
 simp[ot h2]
theorem sL{a:Bool×List DT}{as1:List (Bool×List DT)}{xs:List SV}(h:ju (a::as1) xs):∃x r,xs=x::r∧sd a x∧ju as1 r:=by
 obtain⟨h1,h2⟩:=h
 cases xs with
 |nil=>simp at h1
 |cons x r=>exact⟨x,r,rfl,h2 0 a x rfl rfl,by simpa using h1,fun j a' x' ha hx=>h2 (j+1) a' x' ha hx⟩
theorem vA{xs:List SV}(h:ju [] xs):xs=[]:=ab9 h.1
theorem rS{es:List DT}{x:SV}(h:sd (true,es) x):∃cs,x=.agg cs∧cC es cs:=h
theorem aU{k:IntKind}{es:List DT}{cs:List SV}(h:cC (.int k::es) cs):∃n r,cs=.int k n::r∧(Lit.int k n).wf=true∧cC es r:=by
 obtain⟨c,r,rfl,h1,h2⟩:=mg h
 obtain⟨n,rfl,h3⟩:=fits_int h1
 exact⟨n,r,rfl,h3,h2⟩
theorem dC{es' es:List DT}{cs:List SV}(h:cC (.ay es'::es) cs):∃L f r,cs=.ay es'.length L f::r∧L.length≤maxLen∧(∀q∈L,cC es' q)∧cC es r:=by
 obtain⟨c,r,rfl,h1,h2⟩:=mg h
 obtain⟨L,f,rfl,h3,h4⟩:=AT h1
 exact⟨L,f,r,rfl,h3,h4,h2⟩
attribute [go_sem] aec Bool.true_xor Bool.false_xor Bool.xor_true Bool.xor_false
section
def kR(ag:Bool)(z:Nat):aC:=⟨[(.tmp 4)],(.seq (.ops [⟨(some 4),(.eg (.c (.int .i64 0))),none⟩]) (.seq (.seq (.ops [⟨(some 6),(.eg (.t 0)),none⟩,⟨(some 7),(.len (.t 6)),none⟩,⟨(some 8),(.eg (.c (.int .i64 0))),none⟩]) (.block 0 (.loop ⟨[0,1,7,8],[]⟩ (.seq (.ops [⟨(some 9),(.bin .lss (.t 8) (.t 7)),none⟩]) (.seq (.cond (.t 9) .skip (.exit 0)) (.seq (.block 1 (.seq (.ops [⟨(some 10),(.eg (.t 8)),none⟩,⟨(some 5),(.eg (.t 10)),none⟩]) (.seq (.ops [⟨(some 11),(.eg (.t 1)),none⟩,⟨(some 12),(.eg (.t 0)),none⟩,⟨(some 13),(.eg (.t 5)),none⟩,⟨(some 14),(.ba z (.t 12) (.t 13)),none⟩,⟨(some 15),(.load ag z (.t 14)),none⟩,⟨(some 16),(.call (.t 11) [(.t 15)]),none⟩]) (.cond (.t 16) (.seq (.ops [⟨(some 17),(.eg (.t 5)),none⟩,⟨(some 4),(.eg (.t 17)),none⟩]) .ret) .skip)))) (.ops [⟨(some 18),(.bin .add (.t 8) (.c (.int .i64 1))),none⟩,⟨(some 8),(.eg (.t 18)),none⟩]))))))) (.seq (.ops [⟨(some 4),(.eg (.c (.int .i64 (-1)))),none⟩]) .ret))),false⟩
def uL(g:FuncId):aC:=⟨[(.tmp 4)],(.seq (.ops [⟨(some 4),(.eg (.c (.bool false))),none⟩]) (.seq (.ops [⟨(some 5),(.eg (.t 0)),none⟩,⟨(some 6),(.eg (.t 1)),none⟩,⟨(some 7),(.call (.c (.fn g [])) [(.t 5),(.t 6)]),none⟩,⟨(some 8),(.bin .geq (.t 7) (.c (.int .i64 0))),none⟩,⟨(some 4),(.eg (.t 8)),none⟩]) .ret)),false⟩
def qP:aC:=⟨[(.tmp 4)],(.seq (.ops [⟨(some 4),(.eg (.c (.int .i64 0))),none⟩]) (.seq (.seq (.ops [⟨(some 6),(.eg (.t 0)),none⟩,⟨(some 7),(.len (.t 6)),none⟩,⟨(some 8),(.eg (.c (.int .i64 0))),none⟩]) (.block 0 (.loop ⟨[0,1,7,8],[]⟩ (.seq (.ops [⟨(some 9),(.bin .lss (.t 8) (.t 7)),none⟩]) (.seq (.cond (.t 9) .skip (.exit 0)) (.seq (.block 1 (.seq (.ops [⟨(some 10),(.eg (.t 8)),none⟩,⟨(some 5),(.eg (.t 10)),none⟩]) (.seq (.ops [⟨(some 11),(.eg (.t 1)),none⟩,⟨(some 12),(.eg (.t 0)),none⟩,⟨(some 13),(.eg (.t 5)),none⟩,⟨(some 14),(.ba 1 (.t 12) (.t 13)),none⟩,⟨(some 15),(.load false 1 (.t 14)),none⟩,⟨(some 16),(.bin .eql (.t 11) (.t 15)),none⟩]) (.cond (.t 16) (.seq (.ops [⟨(some 17),(.eg (.t 5)),none⟩,⟨(some 4),(.eg (.t 17)),none⟩]) .ret) .skip)))) (.ops [⟨(some 18),(.bin .add (.t 8) (.c (.int .i64 1))),none⟩,⟨(some 8),(.eg (.t 18)),none⟩]))))))) (.seq (.ops [⟨(some 4),(.eg (.c (.int .i64 (-1)))),none⟩]) .ret))),false⟩
def te(g:FuncId):aC:=⟨[(.tmp 4)],(.seq (.ops [⟨(some 4),(.eg (.c (.bool false))),none⟩]) (.seq (.ops [⟨(some 5),(.eg (.t 0)),none⟩,⟨(some 6),(.eg (.t 1)),none⟩,⟨(some 7),(.call (.c (.fn g [])) [(.t 5),(.t 6)]),none⟩,⟨(some 8),(.bin .geq (.t 7) (.c (.int .i64 0))),none⟩,⟨(some 4),(.eg (.t 8)),none⟩]) .ret)),false⟩
def iS(P:List Int):List (List SV):=P.map fun p=>[.int .i64 p]
@[go_sem] theorem GG {W:List Int}:(iS W).length=W.length:=by simp[iS]
@[go_sem] theorem GF (W:List Int)(i:Nat):(iS W)[i]?=(W[i]?).map (fun p=>[.int .i64 p]):=by simp[iS]
theorem DW(L:List Int):∀cs∈iS L,∀c∈cs,c.refs=0:=by
 intro cs hcs c hc
 simp only[iS,acd]at hcs
 obtain⟨b,_,rfl⟩:=hcs
 simp only[ab8]at hc
 subst hc
 simp[SV.refs]
theorem Gw(L:List Int)(M H d):∀cs∈iS L,∀c∈cs,eh M H (d+1) c=some c:=by
 intro cs hcs c hc
 simp only[iS,acd]at hcs
 obtain⟨b,_,rfl⟩:=hcs
 simp only[ab8]at hc
 subst hc
 simp only[eh]
theorem xE(L:List Int)(x:Int):iS L++[[.int .i64 x]]=iS (L++[x]):=by simp[iS]
theorem xT(L:List Int)(n:Nat):(iS L).take n=iS (L.take n):=by simp[iS]
theorem bF{A:Type}{l:List A}{i:Nat}(h:i<l.length):∃a,l[i]?=some a:=⟨l[i],aa9 h⟩
theorem br{i n:Nat}(h:i<n)(hn:n≤maxLen):bj ((i:Int)+1)=((i+1:Nat):Int):=by
 simp only[maxLen]at hn
 rw[ax (by omega) (by omega)];omega
def el(ag:Bool)(r:List SV):SV:=bif ag then .agg r else r.headD .undef
theorem LY{ag:Bool}{z:Nat}{r:List SV}(h:r.length=z)(h1:ag=false→z=1):cX ag z r 0=some (el ag r):=by
 cases ag with
 |true=>subst h;simp[cX,el]
 |false=>
  have:=h1 rfl
  subst this
  match r,h with
  |[x],_=>rfl
inductive LV(bl:List aK)(z:Nat)(L:List (List SV)):SV→Prop
 |ay (z':Nat) (f:Bool) (hz:z'=z∨L=[]):LV bl z L (.ay z' L f)
 |bp (b cB off:Nat) (L':List (List SV)) (ex:Bool) (hb:bl[b]?=some (.arr cB z L' ex)) (hle:off+L.length≤L'.length) (hL:L=(L'.drop off).take L.length):LV bl z L (.bp b cB off L.length)
section
variable{bl:List aK}{z:Nat}{L:List (List SV)}{v:SV}
theorem LV.cur(h:LV bl z L v)(es ro):cur ⟨bl,es,ro⟩ v=true:=by
 cases h with
 |ay=>rfl
 |bp b cB off L' ex hb=>simp[Sh.cur,bn,hb]
theorem LV.ed(h:LV bl z L v)(es ro):ed ⟨bl,es,ro⟩ z v=true:=by
 cases h with
 |ay z' f hz=>rcases hz with rfl|rfl<;>simp[Sh.ed]
 |bp b cB off L' ex hb=>simp[Sh.ed,bn,hb]
theorem LV.len(h:LV bl z L v):pc v=some L.length:=by cases h<;>rfl
theorem LV.at(h:LV bl z L v){i:Nat}{r:List SV}(hi:L[i]?=some r):∃p,iy v (.int .i64 i)=some p∧∀ag n es ro,db ag n ⟨bl,es,ro⟩ p=cX ag n r 0:=by
 have hlt:=(aaS.1 hi).1
 cases h with
 |ay z' f hz=>exact⟨.fN r,by simp[iy,iC,hlt];exact(aaS.1 hi).2,fun ag n es ro=>by simp[db]⟩
 |bp b cB off L' ex hb hle hL=>
  refine⟨.ptr b cB (off+i) 0,by simp[iy,iC,hlt],fun ag n es ro=>?_⟩
  have:L'[off+i]?=some r:=by
   rw[hL,abp,if_pos hlt,abI]at hi
   exact hi
  simp[db,bn,hb,this]
theorem LV.refs(h:LV bl z L v):v.refs≤bl.length:=by
 cases h with
 |ay z' f hz=>simp[SV.refs]
 |bp b cB off L' ex hb hle hL=>
  have:=(aaS.1 hb).1
  simp[SV.refs];omega
theorem LV.nil(h:LV bl z L v)(h0:v.refs=0):LV [] z L v:=by
 cases h with
 |ay z' f hz=>exact .ay z' f hz
 |bp b cB off L' ex hb hle hL=>simp[SV.refs]at h0
end
section
variable{T:FuncId→Option aC}{f:FuncId}{F:aC}{xs:List SV}{n:Nat}{H:ae}
theorem mF{v:SV}(hT:T f=some F)(hk:F.keep=false)(hs:jH v=true)
 (h:∀(R:Type) (k:SV→ae→Option R) (bl:List aK) (ro:Nat),(bl=[]∧SV.refs.aJ xs=0∨bl=H.bl)→runK (aa T n) (ov F.res k) F.body [] (dV xs) ⟨bl,[],ro⟩ ()=k v ⟨bl,[],ro⟩) :
 aa T (n+1) (.fn f) xs H=some (v,H):=by
 have hfz:∀N H',eh N H' cE v=some v:=fun N H'=>by
  cases v<;>simp only[jH,abE]at hs<;>simp[cE,eh,SV.refs]
 cases hp:eI F xs with
 |true=>
  refine ab hT hp ?_
  have hr:SV.refs.aJ xs=0:=by
   unfold eI at hp
   simp only[aa1,ab0]at hp
   exact hp.1
  exact(h SV (fun v H'=>eh 0 H' cE v) [] 0 (.inl ⟨rfl,hr⟩)).trans (hfz _ _)
 |false=>
  refine bm hT hp ?_
  refine(h _ (fun v H'=>cR F.keep H v H') H.bl _ (.inr rfl)).trans ?_
  rw[hk,oE,hfz]
  simp only[abO,zL,aa8,ace,abb,abL,ab4]
  obtain⟨bl,es,ro⟩:=H
  simp[Sh.da]
theorem xc{ag:Bool}{z id:Nat}{caps:List SV}{v:SV}{L:List (List SV)}{p:List SV→Bool}(hT:T f=some (kR ag z))(hv:LV H.bl z L v)(hz:∀r∈L,r.length=z)(h1:ag=false→z=1)(hm:L.length≤maxLen)
 (hc:∀r∈L,∀bl ro,(bl=[]∧v.refs=0∧SV.refs.aJ caps=0∨bl=H.bl)→aa T n (.fn id) (el ag r::caps) ⟨bl,[],ro⟩=some (.bool (p r),⟨bl,[],ro⟩))
 (hcr:SV.refs.aJ caps≤H.bl.length):aa T (n+1) (.fn f) [v,.fn id caps] H=some (.int .i64 (jz p L),H):=by
 refine mF hT rfl rfl (fun R k bl ro hbl=>?_)
 have hbl':bl=[]∧v.refs=0∧SV.refs.aJ caps=0∨bl=H.bl:=by
  rcases hbl with⟨h1,h2⟩|h
  ·simp only[SV.refs.aJ,SV.refs]at h2
   exact .inl ⟨h1,by omega,by omega⟩
  ·exact .inr h
 have hv':LV bl z L v:=by
  rcases hbl' with⟨h1,h2,_⟩|h
  ·rw[h1];exact hv.nil h2
  ·rw[h];exact hv
 have hd:decide (max v.refs (SV.refs.aJ caps)≤bl.length)=true:=by
  have:=hv'.refs
  rw[aaX]
  rcases hbl' with⟨h1,h2,h3⟩|h
  ·omega
  ·rw[h]at this ⊢;omega
 have q1:=hv'.cur [] ro
 have q2:=hv'.ed [] ro
 have q3:=hv'.len
 simp only[kR,go_sem,Int.reduceToNat,Nat.reduceAdd,Nat.reduceBEq,Nat.reduceLeDiff,Nat.reduceLT,Nat.reduceMul,Nat.reduceSub,Int.reduceEq,Int.reduceLT,Int.reduceLE,Int.reduceNeg,q1,q3]
 refine aY (fun i=>([(0,v),(1,.fn id caps),(7,.int .i64 L.length),(8,.int .i64 i)],⟨bl,[],ro⟩)) (fun i=>∀(j:Nat) r,j<i→L[j]?=some r→p r=false) L.length ?_ (fun j r h=>by omega) ?_
 ·simp only[go_sem,Int.reduceToNat,Nat.reduceAdd,Nat.reduceBEq,Nat.reduceLeDiff,Nat.reduceLT,Nat.reduceMul,Nat.reduceSub,Int.reduceEq,Int.reduceLT,Int.reduceLE,Int.reduceNeg,ac9,hd]
 ·intro i hi hP
  rcases aa4 i L.length with hlt|hge
  ·obtain⟨r,hr'⟩:=bF hlt
   have hmem:=aa3 hr'
   obtain⟨p',a1,a2⟩:=hv'.at hr'
   have hw:=br hlt hm
   have hcr:=hc r hmem bl ro hbl'
   have hld:=LY (hz r hmem) h1
   cases hp:p r with
   |true=>
    have hx:=kQ hr' hp hP
    simp only[go_sem,Int.reduceToNat,Nat.reduceAdd,Nat.reduceBEq,Nat.reduceLeDiff,Nat.reduceLT,Nat.reduceMul,Nat.reduceSub,Int.reduceEq,Int.reduceLT,Int.reduceLE,Int.reduceNeg,hlt,q2,a1,a2,hld,hcr,hp,hx]
   |false=>
    simp only[go_sem,Int.reduceToNat,Nat.reduceAdd,Nat.reduceBEq,Nat.reduceLeDiff,Nat.reduceLT,Nat.reduceMul,Nat.reduceSub,Int.reduceEq,Int.reduceLT,Int.reduceLE,Int.reduceNeg,hlt,q2,a1,a2,hld,hcr,hp,hw]
    refine⟨trivial,?_,fun j r' hj hr2=>?_⟩
    ·simp only[ac9,hd,go_sem,Int.reduceToNat,Nat.reduceAdd,Nat.reduceBEq,Nat.reduceLeDiff,Nat.reduceLT,Nat.reduceMul,Nat.reduceSub,Int.reduceEq,Int.reduceLT,Int.reduceLE,Int.reduceNeg]
    ·rcases aa4 j i with hlt2|hge2
     ·exact hP j r' hlt2 hr2
     ·have:j=i:=by omega
      subst this
      rw[hr']at hr2
      cases hr2
      exact hp
  ·have hlt:¬i<L.length:=by omega
   have hx:jz p L= -1:=gE (fun j a hj=>hP j a (by have:=(aaS.1 hj).1;omega) hj)
   simp only[go_sem,Int.reduceToNat,Nat.reduceAdd,Nat.reduceBEq,Nat.reduceLeDiff,Nat.reduceLT,Nat.reduceMul,Nat.reduceSub,Int.reduceEq,Int.reduceLT,Int.reduceLE,Int.reduceNeg,hlt,hx]
theorem jS{ag:Bool}{z id g:Nat}{caps:List SV}{v:SV}{L:List (List SV)}{p:List SV→Bool}(hT:T f=some (uL g))(hTg:T g=some (kR ag z))(hv:LV H.bl z L v)(hz:∀r∈L,r.length=z)(h1:ag=false→z=1)(hm:L.length≤maxLen)
 (hc:∀r∈L,∀bl ro,(bl=[]∧v.refs=0∧SV.refs.aJ caps=0∨bl=H.bl)→aa T n (.fn id) (el ag r::caps) ⟨bl,[],ro⟩=some (.bool (p r),⟨bl,[],ro⟩))
 (hcr:SV.refs.aJ caps≤H.bl.length):aa T (n+2) (.fn f) [v,.fn id caps] H=some (.bool (L.any p),H):=by
 refine mF hT rfl rfl (fun R k bl ro hbl=>?_)
 have hbl':bl=[]∧v.refs=0∧SV.refs.aJ caps=0∨bl=H.bl:=by
  rcases hbl with⟨h1,h2⟩|h
  ·simp only[SV.refs.aJ,SV.refs]at h2
   exact .inl ⟨h1,by omega,by omega⟩
  ·exact .inr h
 have hv':LV bl z L v:=by
  rcases hbl' with⟨h1,h2,_⟩|h
  ·rw[h1];exact hv.nil h2
  ·rw[h];exact hv
 have hi:=xc (H:=⟨bl,[],ro⟩) hTg hv' hz h1 hm (fun r hr bl2 ro2 h=>hc r hr bl2 ro2 (by
  rcases h with h|h
  ·exact .inl h
  ·rw[show bl2=bl from h];exact hbl')) (by
  rcases hbl' with⟨h1,h2,h3⟩|h
  ·simp[h3]
  ·show SV.refs.aJ caps≤bl.length;rw[h];exact hcr)
 simp only[uL,go_sem,Int.reduceToNat,Nat.reduceAdd,Nat.reduceBEq,Nat.reduceLeDiff,Nat.reduceLT,Nat.reduceMul,Nat.reduceSub,Int.reduceEq,Int.reduceLT,Int.reduceLE,Int.reduceNeg,hi,iE]
theorem zd{v:SV}{M:List Int}{x:Int}(hT:T f=some qP)(hv:LV H.bl 1 (iS M) v)(hm:M.length≤maxLen):aa T (n+1) (.fn f) [v,.int .i64 x] H=some (.int .i64 (jz (fun y=>decide (x=y)) M),H):=by
 refine mF hT rfl rfl (fun R k bl ro hbl=>?_)
 have hv':LV bl 1 (iS M) v:=by
  rcases hbl with⟨h1,h2⟩|h
  ·rw[h1];exact hv.nil (by simp only[SV.refs.aJ,SV.refs]at h2;omega)
  ·rw[h];exact hv
 have hd:decide (v.refs≤bl.length)=true:=by rw[aaX];exact hv'.refs
 have q1:=hv'.cur [] ro
 have q2:=hv'.ed [] ro
 have q3:=hv'.len
 rw[GG]at q3
 simp only[qP,go_sem,Int.reduceToNat,Nat.reduceAdd,Nat.reduceBEq,Nat.reduceLeDiff,Nat.reduceLT,Nat.reduceMul,Nat.reduceSub,Int.reduceEq,Int.reduceLT,Int.reduceLE,Int.reduceNeg,q1,q3]
 refine aY (fun i=>([(0,v),(1,.int .i64 x),(7,.int .i64 M.length),(8,.int .i64 i)],⟨bl,[],ro⟩)) (fun i=>∀(j:Nat) y,j<i→M[j]?=some y→decide (x=y)=false) M.length ?_ (fun j r h=>by omega) ?_
 ·simp only[go_sem,Int.reduceToNat,Nat.reduceAdd,Nat.reduceBEq,Nat.reduceLeDiff,Nat.reduceLT,Nat.reduceMul,Nat.reduceSub,Int.reduceEq,Int.reduceLT,Int.reduceLE,Int.reduceNeg,ac9,hd]
 ·intro i hi hP
  rcases aa4 i M.length with hlt|hge
  ·obtain⟨y,hy⟩:=bF hlt
   obtain⟨p',a1,a2⟩:=hv'.at (i:=i) (by rw[GF,hy];rfl)
   have hw:=br hlt hm
   have hld:cX false 1 [SV.int .i64 y] 0=some (.int .i64 y):=rfl
   cases hp:decide (x=y)with
   |true=>
    have hx:=kQ hy hp hP
    simp only[go_sem,Int.reduceToNat,Nat.reduceAdd,Nat.reduceBEq,Nat.reduceLeDiff,Nat.reduceLT,Nat.reduceMul,Nat.reduceSub,Int.reduceEq,Int.reduceLT,Int.reduceLE,Int.reduceNeg,hlt,q2,a1,a2,hld,hp,hx]
   |false=>
    simp only[go_sem,Int.reduceToNat,Nat.reduceAdd,Nat.reduceBEq,Nat.reduceLeDiff,Nat.reduceLT,Nat.reduceMul,Nat.reduceSub,Int.reduceEq,Int.reduceLT,Int.reduceLE,Int.reduceNeg,hlt,q2,a1,a2,hld,hp,hw]
    refine⟨trivial,?_,fun j r' hj hr2=>?_⟩
    ·simp only[ac9,hd,go_sem,Int.reduceToNat,Nat.reduceAdd,Nat.reduceBEq,Nat.reduceLeDiff,Nat.reduceLT,Nat.reduceMul,Nat.reduceSub,Int.reduceEq,Int.reduceLT,Int.reduceLE,Int.reduceNeg]
    ·rcases aa4 j i with hlt2|hge2
     ·exact hP j r' hlt2 hr2
     ·have:j=i:=by omega
      subst this
      rw[hy]at hr2
      cases hr2
      exact hp
  ·have hlt:¬i<M.length:=by omega
   have hx:jz (fun y=>decide (x=y)) M= -1:=gE (fun j a hj=>hP j a (by have:=(aaS.1 hj).1;omega) hj)
   simp only[go_sem,Int.reduceToNat,Nat.reduceAdd,Nat.reduceBEq,Nat.reduceLeDiff,Nat.reduceLT,Nat.reduceMul,Nat.reduceSub,Int.reduceEq,Int.reduceLT,Int.reduceLE,Int.reduceNeg,hlt,hx]
theorem Ex(x:Int)(M:List Int):(M.any fun y=>decide (x=y))=decide (x∈M):=by
 rw[abG];simp
theorem sa{v:SV}{M:List Int}{x:Int}{g:Nat}(hT:T f=some (te g))(hTg:T g=some qP)(hv:LV H.bl 1 (iS M) v)(hm:M.length≤maxLen):aa T (n+2) (.fn f) [v,.int .i64 x] H=some (.bool (decide (x∈M)),H):=by
 refine mF hT rfl rfl (fun R k bl ro hbl=>?_)
 have hv':LV bl 1 (iS M) v:=by
  rcases hbl with⟨h1,h2⟩|h
  ·rw[h1];exact hv.nil (by simp only[SV.refs.aJ,SV.refs]at h2;omega)
  ·rw[h];exact hv
 have hi:=zd (n:=n) (H:=⟨bl,[],ro⟩) (x:=x) hTg hv' hm
 simp only[te,go_sem,Int.reduceToNat,Nat.reduceAdd,Nat.reduceBEq,Nat.reduceLeDiff,Nat.reduceLT,Nat.reduceMul,Nat.reduceSub,Int.reduceEq,Int.reduceLT,Int.reduceLE,Int.reduceNeg,hi,iE,Ex]
def Still(L:List (List SV)):Prop:=∀cs∈L,∀c∈cs,c.refs=0∧∀N H d,eh N H (d+1) c=some c
theorem Still.ints(M:List Int):Still (iS M):=fun cs hcs c hc=>⟨DW M cs hcs c hc,fun N H d=>Gw M N H d cs hcs c hc⟩
theorem Still.zero{L:List (List SV)}(h:Still L):SV.refs.aJ L.flatten=0:=ot (fun cs hcs c hc=>(h cs hcs c hc).1)
theorem Still.fz{L:List (List SV)}(h:Still L)(N H d v n z e)(hn:L.length=n):I8 N H (d+1) v 0 n (some (.arr v z L e))=some (.ay z L e):=
 za N H (d+1) v n z L e hn (fun cs hcs c hc=>(h cs hcs c hc).2 N H d) (fun cs hcs c hc=>(h cs hcs c hc).1)
theorem Still.take{L:List (List SV)}(h:Still L)(N H d v n z)(hn:n≤L.length):I8 N H (d+1) v 0 n (some (.arr v z L false))=some (.ay z (L.take n) false):=by
 have hs:Still (L.take n):=fun cs hcs c hc=>h cs (adD hcs) c hc
 simp only[I8,adj,ach,acg,abo,hn,ace,abb,abk]
 rw[nm (fun cs hcs=>nm (fun c hc=>(hs cs hcs c hc).2 N H d))]
 simp[hs.zero]
end
end
abbrev OO(d:Nat)(o:lr):aS:=⟨some d,o,none⟩
abbrev OT(d:Nat)(o:lr)(g:Nat):aS:=⟨some d,o,some (g,true)⟩
abbrev OU(d:Nat)(o:lr)(g:Nat):aS:=⟨some d,o,some (g,false)⟩
abbrev PT(d x g:Nat):aS:=⟨some d,.eg (.t x),some (g,true)⟩
abbrev PU(d x g:Nat):aS:=⟨some d,.eg (.t x),some (g,false)⟩
abbrev IC(n:Int):bZ:=.c (.int .i64 n)
abbrev OM(d x:Nat):aS:=⟨some d,.eg (.t x),none⟩
abbrev OK(d:Nat)(n:Int):aS:=⟨some d,.eg (.c (.int .i64 n)),none⟩
abbrev OZ(d:Nat):aS:=⟨some d,.eg (.c (.ay 0 [] true)),none⟩
abbrev OQ(d:Nat)(b:Bool):aS:=⟨some d,.eg (.c (.bool b)),none⟩
abbrev OX(d x i:Nat):aS:=⟨some d,.extract (.t x) i,none⟩
abbrev OF(d n x:Nat):aS:=⟨some d,.af n (.t x),none⟩
abbrev OL(d x:Nat):aS:=⟨some d,.load false 1 (.t x),none⟩
abbrev OA(d n x:Nat):aS:=⟨some d,.load true n (.t x),none⟩
abbrev ON(d x:Nat):aS:=⟨some d,.eb (.t x),none⟩
abbrev OE(d x:Nat):aS:=⟨some d,.len (.t x),none⟩
abbrev OG(d x:Nat):aS:=⟨some d,.box (.t x),none⟩
abbrev OH(d x:Nat):aS:=⟨some d,.cQ (.t x),none⟩
abbrev OI(d z x i:Nat):aS:=⟨some d,.ba z (.t x) (.t i),none⟩
abbrev OB(d:Nat)(o:BinOp)(x y:Nat):aS:=⟨some d,.bin o (.t x) (.t y),none⟩
abbrev OJ(d:Nat)(o:BinOp)(x:Nat)(n:Int):aS:=⟨some d,.bin o (.t x) (.c (.int .i64 n)),none⟩
abbrev OC(d f:Nat)(xs:List Nat):aS:=⟨some d,.call (.c (.fn f [])) (xs.map .t),none⟩
abbrev DP:bI:=⟨.pure,[],0,0⟩
abbrev DS:bI:=⟨.jI,[],0,0⟩
abbrev DB:bI:=⟨.gA,[],0,0⟩
abbrev DM(d x:Nat):aS×bI:=(OM d x,DP)
abbrev DD(d:Nat)(o:BinOp)(x y:Nat):aS×bI:=(OB d o x y,DP)
abbrev DN(d x:Nat):aS×bI:=(ON d x,DS)
abbrev DF(d n x:Nat):aS×bI:=(OF d n x,DS)
abbrev DL(d x:Nat):aS×bI:=(OL d x,DS)
abbrev DI(d z x i:Nat):aS×bI:=(OI d z x i,DS)
abbrev DA(d n x:Nat):aS×bI:=(OA d n x,DS)
abbrev DE(d x:Nat):aS×bI:=(OE d x,DS)
abbrev SQ(l:List aS)(c:cw):cw:=.seq (.ops l) c
abbrev CS(x:Nat)(c:cw):cw:=.cond (.t x) c .skip
abbrev CX(x i:Nat):cw:=.cond (.t x) .skip (.exit i)
end Go.Sh
