/- Part of the proof of FieldSlotsSaid: texts K19l, K19m, K19n, K19q. -/
import Derived.Test.YtcfgikdpokjhpaaGreatB6
namespace Go.Sh
set_option linter.unusedSectionVars false
set_option linter.unnecessarySimpa false
set_option linter.unusedSimpArgs false
set_option linter.unusedVariables false
set_option maxRecDepth 100000
set_option maxHeartbeats 4000000
def Bm(nc:Nat):Nat→List Ac→Int
 |_,[]=>0
 |i,a::r=>bif decide (yL nc i a=0)then Bm nc (i+1) r else yL nc i a
def wQ(f:Fi)(s:Int)(A:List Ac):Int:=bif okF f then(bif decide (A.length=f.K.length)then(bif CT f s then Bm f.C.length 0 A else 12)else 11)else 1
theorem uo{A:Type}{L:List A}{i:Nat}{a:A}(h:L[i]?=some a):L.drop i=a::L.drop (i+1):=by
 obtain⟨h1,h2⟩:=aaS.1 h
 rw[acn h1,h2]
theorem Z6(n:Nat)(H:ae)(f:Fi)(s:Int)(A:List Ac)(fl:Bool)(hb:Bd f)(hA:A.length≤maxLen)(hx:∀a∈A,a.x.size≤10000) :
 aa T (n+10) (.fn 38) [.agg (oM f),aew s,.ay 14 (qK A) fl] H=some (aew (wQ f s A),H):=by
 have h1:=fun H=>s22 (n+1) H f hb
 have h2:=fun H=>Yw (n+8) H f s
 have h3:=fun H i a hx=>Zq n H f i a hx
 unfold wY at h1
 refine ab Zu (by rfl) ?_
 unfold wQ
 cases a1:okF f with
 |false=>rw[a1]at h1;simp only[LS,ah,go_sem,simprocAttr,h1]
 |true=>
  rw[a1]at h1
  cases a2:decide (A.length=f.K.length)with
  |false=>simp only[LS,ah,go_sem,simprocAttr,h1,G.aL,pd,a2]
  |true=>
   cases a3:CT f s with
   |false=>rw[a3]at h2;simp only[LS,ah,go_sem,simprocAttr,h1,h2,G.aL,pd,a2]
   |true=>
    rw[a3]at h2
    simp only[LS,ah,go_sem,simprocAttr,h1,h2,G.aL,pd,a2]
    obtain⟨X,hX⟩:∃X,Bm f.C.length 0 A=X:=⟨_,rfl⟩
    rw[hX]
    refine aY (fun i=>([(3,.ptr 0 0 0 0),(26,.ay 14 (qK A) fl),(27,aew A.length),(28,aew i)],⟨[.box (oM f)],[],0⟩)) (fun i=>Bm f.C.length i (A.drop i)=X) A.length ?_ hX ?_
    ·simp only[go_sem,simprocAttr]<;>rfl
    ·intro i hi hP
     rcases aa4 i A.length with hlt|hge
     ·obtain⟨a,ha⟩:∃a,A[i]?=some a:=⟨A[i],aa9 hlt⟩
      have hw:=br hlt hA
      have h3:=fun H=>h3 H i a (hx a (aa3 ha))
      rw[uo ha,Bm]at hP
      cases hc:decide (yL f.C.length i a=0)with
      |false=>
       rw[hc]at hP
       simp only[go_sem,simprocAttr,hlt,ha,h3,hc,fJ,hP]
       simp only[abc]at hP
       rw[hP]
      |true=>
       rw[hc]at hP
       simp only[go_sem,simprocAttr,hlt,ha,h3,hc,fJ,hw]
       refine⟨by first|trivial|omega,by first|trivial|rfl,hP⟩
     ·have hlt:¬i<A.length:=by omega
      have hx:X=0:=by rw[←hP,List.drop_eq_nil_of_le hge];rfl
      simp only[go_sem,simprocAttr,hlt,hx]
def EO(f:Fi)(s:Int)(a:Ac):Int:=bif decide (a.kd=0)then -1 else oT.qV f.v f.a f.b f.C s a.of
def iN(f:Fi)(s:Int)(A:List Ac):List Int:=A.map (EO f s)
theorem zo{f:Fi}{s:Int}{A:List Ac}{i:Nat}{a:Ac}(h:A[i]?=some a):iN f s (A.take (i+1))=iN f s (A.take i)++[EO f s a]:=by
 unfold iN
 rw[acu,h]
 simp
theorem CC{f:Fi}{s:Int}{A:List Ac}{i:Nat}(h:i≤A.length):(iS (iN f s (A.take i))).length=i:=by
 simp[iS,iN];omega
abbrev nH(f:Fi)(s:Int)(A:List Ac)(fl:Bool)(x y z:SV):List SV:=[.ay 2 (G.cW f.N) f.f1,.ay 1 (G.cM f.P) f.f2,.ay 5 (G.ey f.W) f.f3,aew f.ex,aew f.no,aew f.th,
 .ay 7 (U.c0 f.S) f.g1,.ay 6 (U.cZ f.F) f.g2,.ay 2 (G.cW f.K) f.h1,aew f.v,aew f.a,aew f.b,.ay 1 (iS f.C) f.h2,aew s,.ay 14 (qK A) fl,x,y,z]
theorem QF(n b i:Nat)(H:ae)(f:Fi)(s:Int)(A:List Ac)(fl:Bool)(x y z:SV)(a:Ac)(hC:f.C.length≤1000)(hb:H.bl[b]?=some (.box (nH f s A fl x y z)))(ha:A[i]?=some a)(hi:i<A.length) :
 aa T (n+6) (.fn 58) [.ptr b 0 0 0,aew i] H=some (aew (oT.qV f.v f.a f.b f.C s a.of),H):=by
 refine dW Zt rfl rfl (fun R k bl ro r hbl hk=>?_)
 obtain rfl:bl=H.bl:=by
  rcases hbl with⟨rfl,h0⟩|rfl
  ·simp[SV.refs.aJ,SV.refs]at h0
  ·rfl
 have h6:=fun H'=>oT.TC n H' f.v f.a f.b f.C f.h2 s a.of hC
 simp only[X8,aF,aB,aE,aD,au,al,ao,aq,bg,aN,bb,aQ,aM,aP,aI,aO,aH,aG,an,ai,bA,bz,aaU,aaT,aa5,go_sem,simprocAttr,hb,ha,h6,hi]
 have:=hk []
 rw[abQ]at this
 exact this
theorem ym{n:Nat}(h:n≤1000):decide ((n+1)*8≤bX)=true:=by
 rw[aaX]
 exact abv (show(n+1)*8≤10000 by omega) (by decide)
def S3(f:Fi)(s:Int)(A:List Ac):SV:=bif decide (wQ f s A=0)then .ay 1 (iS (iN f s A)) false else .ay 0 [] true
theorem Y0(n:Nat)(H:ae)(f:Fi)(s:Int)(A:List Ac)(fl:Bool)(hb:Bd f)(hA:A.length≤1000) :
 aa T (n+8) (.fn 33) [.agg (oM f),aew s,.ay 14 (qK A) fl] H=some (.bk [S3 f s A,aew (wQ f s A)],H):=by
 have hA':A.length≤maxLen:=abv hA (by decide)
 have h1:=fun H=>YZ n H f hb
 have h2:=fun H=>Yt (n+6) H f s
 have h3:=fun H i a=>YK (n+1) H f i a
 have h4:=fun H o=>oT.s29 (n+3) H f.v f.a f.b f.C f.h2 s o hb.C
 unfold wY at h1
 refine ab e33 (by rfl) ?_
 obtain⟨X,hX⟩:∃X,Bm f.C.length 0 A=X:=⟨_,rfl⟩
 have hE:wQ f s A=bif okF f then(bif decide (A.length=f.K.length)then(bif CT f s then X else 12)else 11)else 1:=by rw[←hX];rfl
 unfold S3
 rw[hE]
 cases a1:okF f with
 |false=>rw[a1]at h1;simp only[N9,ah,go_sem,simprocAttr,h1]
 |true=>
  rw[a1]at h1
  cases a2:decide (A.length=f.K.length)with
  |false=>simp only[N9,ah,go_sem,simprocAttr,h1,G.aL,pd,a2]
  |true=>
   cases a3:CT f s with
   |false=>rw[a3]at h2;simp only[N9,ah,go_sem,simprocAttr,h1,h2,G.aL,pd,a2]
   |true=>
    rw[a3]at h2
    simp only[N9,ah,go_sem,simprocAttr,h1,h2,G.aL,pd,a2]
    refine aY (fun i=>([(1,aew s),(2,.ay 14 (qK A) fl),(3,.ptr 0 0 0 0),(8,.bp 1 i 0 i),(9,aew i)],⟨[.box (oM f),.arr i 1 (iS (iN f s (A.take i))) false],[],0⟩)) (fun i=>Bm f.C.length i (A.drop i)=X) A.length ?_ hX ?_
    ·simp only[go_sem,simprocAttr]<;>rfl
    ·intro i hi hP
     rcases aa4 i A.length with hlt|hge
     ·obtain⟨a,ha⟩:∃a,A[i]?=some a:=⟨A[i],aa9 hlt⟩
      have hw:=br hlt hA'
      have hc:=zo (f:=f) (s:=s) ha
      unfold EO at hc
      have h3:=fun H=>h3 H i a
      have hg:=fun H X=>eo 1 H 1 i i X (iS (iN f s (A.take i))) (CC (by omega))
      rw[uo ha,Bm]at hP
      cases hf:decide (yL f.C.length i a=0)with
      |false=>
       rw[hf]at hP
       simp only[abc]at hP
       have hX0:decide (X=0)=false:=by rw[←hP];exact hf
       simp only[go_sem,simprocAttr,hlt,ha,h3,hP,hX0]
      |true=>
       rw[hf]at hP
       cases hk:decide (a.kd=0)with
       |true=>
        rw[hk]at hc
        simp only[abb]at hc
        simp only[go_sem,simprocAttr,hlt,ha,h3,hf,hk,hg,ym (show i≤1000 by omega),xE,←hc,hw]
        exact⟨by first|trivial|omega,by first|trivial|rfl,hP⟩
       |false=>
        rw[hk]at hc
        simp only[abc]at hc
        simp only[go_sem,simprocAttr,hlt,ha,h3,hf,hk,h4,hg,ym (show i≤1000 by omega),xE,←hc,hw]
        exact⟨by first|trivial|omega,by first|trivial|rfl,hP⟩
     ·obtain rfl:i=A.length:=by omega
      have hlt:¬A.length<A.length:=by omega
      have hx:X=0:=by rw[←hP,List.drop_eq_nil_of_le hge];rfl
      rw[ab4]
      have hfz:=fun H v=>(Still.ints (iN f s A)).fz 0 H 5 v A.length 1 false (by simp[iS,iN])
      simp only[go_sem,simprocAttr,hlt,hfz,hx,ace]
def eH(f:Fi)(i:Int):Int×Int:=f.K.getD i.toNat (0,0)
theorem tS(n:Int):bj n=(n+9223372036854775808)%18446744073709551616-9223372036854775808:=by
 show(if(true&&decide (n%18446744073709551616≥9223372036854775808))=true then n%18446744073709551616-18446744073709551616 else n%18446744073709551616)=_
 simp only[abo,aaX]
 split<;>omega
def Pg(o d t:Int):Int:=bif pf o d then(bif decide (0≤t)&&decide (t≤1099511627776)then 0 else 2)else 1
def QI(o d t:Int):Int:=bif decide (Pg o d t=0)then qU o d t else 0
theorem U0(n:Nat)(H:ae)(o d t:Int):aa T (n+3) (.fn 138) [.agg [aew o,aew d],aew t] H=some (.bk [aew (QI o d t),aew (Pg o d t)],H):=by
 have h60:=fun H=>OS (n+1) H o d
 have h123:=fun bl es ro=>Hf (n+1) bl es ro o d
 have h166:=fun b H hb=>G4 n b H t o d hb
 unfold o7 at h60
 unfold QI Pg
 refine ab To (by rfl) ?_
 cases hc:pf o d with
 |false=>rw[hc]at h60;simp only[Ce,ah,go_sem,simprocAttr,h60]
 |true=>
  rw[hc]at h60
  cases k1:decide (t<0)with
  |true=>
   have k2:decide (0≤t)=false:=by simp only[aaX,aa0]at *;omega
   simp only[Ce,ah,go_sem,simprocAttr,h60,k1,k2,abk]
  |false=>
   have k2:decide (0≤t)=true:=by simp only[aaX,aa0]at *;omega
   cases k3:decide (1099511627776<t)with
   |true=>
    have k4:decide (t≤1099511627776)=false:=by simp only[aaX,aa0]at *;omega
    simp only[Ce,ah,go_sem,simprocAttr,h60,k1,k2,k3,k4,abt]
   |false=>
    have k4:decide (t≤1099511627776)=true:=by simp only[aaX,aa0]at *;omega
    simp only[Ce,ah,go_sem,simprocAttr,h60,h123,h166,k1,k2,k3,k4,abn]
def mS(s:Int):Bool:=decide (0≤s)&&decide (s≤109951162)
theorem RW(n:Nat)(H:ae)(s:Int):aa T (n+1) (.fn 137) [aew s] H=some (.bool (mS s),H):=by
 unfold mS
 refine ab TP (by rfl) ?_
 cases h:decide (0≤s)<;>simp only[NO,ah,go_sem,simprocAttr,h,abo,abk]
theorem Si(n:Nat)(H:ae)(s:Int):aa T (n+1) (.fn 100) [aew s] H=some (.bool (mS s),H):=by
 unfold mS
 refine ab Uv (by rfl) ?_
 cases h:decide (0≤s)<;>simp only[Kj,ah,go_sem,simprocAttr,h,abo,abk]
def Ka(o d s t:Int):Int:=bif pf o d then(bif mS s&&(decide (0≤t)&&decide (t≤1099511627776))then 0 else 2)else 1
def ub(o d s t:Int):Int:=bif decide (Ka o d s t=0)then bj (qU o d t-(s*10000+2120))else 0
theorem ZI(n:Nat)(H:ae)(o d s t:Int):aa T (n+4) (.fn 83) [.agg [aew o,aew d],aew s,aew t] H=some (.bk [aew (ub o d s t),aew (Ka o d s t)],H):=by
 have h60:=fun H=>OS (n+2) H o d
 have h137:=fun H=>RW (n+2) H s
 have h138:=fun H=>U0 n H o d t
 unfold o7 at h60
 unfold QI Pg at h138
 unfold ub Ka
 refine ab Zf (by rfl) ?_
 cases hc:pf o d with
 |false=>rw[hc]at h60;simp only[IG,ah,go_sem,simprocAttr,h60]
 |true=>
  rw[hc]at h60 h138
  cases hs:mS s with
  |false=>rw[hs]at h137;simp only[IG,ah,go_sem,simprocAttr,h60,h137,abk]
  |true=>
   rw[hs]at h137
   have hs2:0≤s∧s≤109951162:=by simpa[mS]using hs
   have hw:bj (bj (s*10000)+2120)=s*10000+2120:=by rw[ax (n:=s*10000) (by omega) (by omega)];exact ax (by omega) (by omega)
   cases k1:decide (t<0)with
   |true=>
    have k2:decide (0≤t)=false:=by simp only[aaX,aa0]at *;omega
    simp only[IG,ah,go_sem,simprocAttr,h60,h137,k1,k2,abk,abt]
   |false=>
    have k2:decide (0≤t)=true:=by simp only[aaX,aa0]at *;omega
    cases k3:decide (1099511627776<t)with
    |true=>
     have k4:decide (t≤1099511627776)=false:=by simp only[aaX,aa0]at *;omega
     simp only[IG,ah,go_sem,simprocAttr,h60,h137,k1,k2,k3,k4,abt]
    |false=>
     have k4:decide (t≤1099511627776)=true:=by simp only[aaX,aa0]at *;omega
     rw[k2,k4]at h138
     simp only[abn,abb,ace]at h138
     simp only[IG,ah,go_sem,simprocAttr,h60,h137,h138,k1,k2,k3,k4,abn,hw,ace]
theorem Yy(n:Nat)(H:ae)(t:Int):aa T (n+1) (.fn 70) [aew t] H=some (.bool (decide (0≤t)&&decide (t≤1099511627776)),H):=by
 refine ab Zi (by rfl) ?_
 cases h:decide (0≤t)<;>simp only[Xv,ah,go_sem,simprocAttr,h,abo,abk]
theorem s56(n:Nat)(H:ae)(o d s t:Int):aa T (n+3) (.fn 56) [.agg [aew o,aew d],aew s,aew t] H=some (.bk [aew (ub o d s t),aew (Ka o d s t)],H):=by
 have h69:=fun H=>PA (n+1) H o d
 have h100:=fun H=>Si (n+1) H s
 have h70:=fun H=>Yy (n+1) H t
 have h71:=fun H=>WV n H t o d
 unfold o7 at h69
 unfold ub Ka
 refine ab YW (by rfl) ?_
 cases hc:pf o d with
 |false=>rw[hc]at h69;simp only[N7,ah,go_sem,simprocAttr,h69]
 |true=>
  rw[hc]at h69
  cases hs:mS s with
  |false=>rw[hs]at h100;simp only[N7,ah,go_sem,simprocAttr,h69,h100,abk]
  |true=>
   rw[hs]at h100
   have hs2:0≤s∧s≤109951162:=by simpa[mS]using hs
   have hw:bj (bj (qU o d t-bj (s*10000))-2120)=bj (qU o d t-(s*10000+2120)):=by
    rw[ax (n:=s*10000) (by omega) (by omega),tS (bj _-_),tS (_-s*10000),tS (_-(_+_))]
    omega
   cases k:decide (0≤t)&&decide (t≤1099511627776)with
   |false=>rw[k]at h70;simp only[N7,ah,go_sem,simprocAttr,h69,h100,h70,abt]
   |true=>rw[k]at h70;simp only[N7,ah,go_sem,simprocAttr,h69,h100,h70,h71,hw,abn,ace]
def CO(a:Ac):Int:=bif decide (C6 a=0)then bj (32*bj ((bif decide (a.k=2)then 20 else((Qh a).size:Int))+6))else 0
abbrev Dp(a:Ac):List SV:=[aew a.k,aew a.s,aew a.d,aew a.q,aew a.o,aew a.c,aew a.m,aew a.e,aew a.t,aew a.u,aew a.v,.str a.x]
theorem XK(n:Nat)(H:ae)(a:Ac)(hx:a.x.size≤10000):aa T (n+9) (.fn 78) [.agg (Dp a)] H=some (.bk [aew (CO a),aew (C6 a)],H):=by
 have h:=fun H=>fh.Jj n H a.k a.s a.d a.q a.o a.c a.m a.e a.t a.u a.v a.x hx
 rw[sV]at h
 unfold CO
 refine ab YY (by rfl) ?_
 cases h0:decide (C6 a=0)with
 |false=>simp only[Rc,ah,go_sem,simprocAttr,h,h0]
 |true=>
  have h1:=abC h0
  cases hk:decide (a.k=2)<;>simp only[Rc,ah,go_sem,simprocAttr,h,h0,h1,hk]
theorem Zx(n:Nat)(H:ae)(a:Ac):aa T (n+6) (.fn 14) [.agg (Dp a)] H=some (.bk [aew (CO a),aew (C6 a)],H):=by
 have h:=fun H=>fh.XZ a.k a.s a.d a.q a.o a.c a.m a.e a.t a.u a.v a.x n H
 rw[sV]at h
 unfold CO
 refine ab Ks (by rfl) ?_
 cases h0:decide (C6 a=0)with
 |false=>simp only[T3,ah,go_sem,simprocAttr,h,h0]
 |true=>
  have h1:=abC h0
  cases hk:decide (a.k=2)<;>simp only[T3,ah,go_sem,simprocAttr,h,h0,h1,hk]
end Go.Sh
