/- A part of the proof: texts K19ra, K19rc, K19rd, K19re, K19rf, K19rg, K19rga, K19rh, K19ri, K19rj, K19rk, K19rl, K19rb, K19rm, K19rn, K19ro, K19rp, K19rq, K19va, K19vb, ShOr. -/
import Derived.Test.YtcfgikdpokjhpaaGreatB6
import Derived.Test.YtcfgikdpokjhpaaGreatB8
import Derived.Test.YtcfgikdpokjhpaaGreatB9
import Derived.Test.YtcfgikdpokjhpaaGreatB3
namespace Go.Sh
set_option linter.unusedSectionVars false
set_option linter.unnecessarySimpa false
set_option linter.unusedSimpArgs false
set_option linter.unusedVariables false
set_option maxRecDepth 100000
set_option maxHeartbeats 4000000
structure Rs where
 ak:Bool
 hd:Bool
 k:Int
 s:Int
 d:Int
 q:Int
 o:Int
 c:Int
 m:Int
 e:Int
 t:Int
 u:Int
 v:Int
 x:ByteArray
 er:Int
abbrev BU(r:Rs):List SV:=[.bool r.ak,.bool r.hd,acH r.k,acH r.s,acH r.d,acH r.q,acH r.o,acH r.c,acH r.m,acH r.e,acH r.t,acH r.u,acH r.v,.str r.x,acH r.er]
def Ee:Rs:=⟨false,false,0,0,0,0,0,0,0,0,0,0,0,⟨⟨[]⟩⟩,0⟩
def oI(a:Ac)(d:Int):Rs:=⟨false,true,a.k,a.s,a.d,a.q,a.o,a.c,a.m,a.e,a.t,a.u,a.v,a.x,d⟩
def Gb(d:Int):Rs:=⟨true,false,0,0,0,0,0,0,0,0,0,0,0,⟨⟨[]⟩⟩,d⟩
def kM(R:List Rs):List (List SV):=R.map BU
@[go_sem] theorem xG {R:List Rs}:(kM R).length=R.length:=by simp[kM]
@[go_sem] theorem Pa {R:List Rs}{i:Nat}:(kM R)[i]?=(R[i]?).map BU:=by simp[kM]
theorem xh(R:List Rs)(i:Nat)(r:Rs):(kM R).set i (BU r)=kM (R.set i r):=by simp[kM,List.map_set]
theorem E7(n:Nat):List.replicate n (BU Ee)=kM (List.replicate n Ee):=by simp[kM]
def lI(f:Fi)(hb:Bd f):A.Sn:=⟨f.N,f.P,f.W,f.f1,f.f2,f.f3,f.ex,f.no,f.th,f.S,f.g1,f.F,f.g2,hb.N,hb.P,hb.W,hb.S,hb.F⟩
def jb(f:Fi)(s:Int)(i:Nat)(a:Ac):A.Em:=⟨i,kR.oX f.v f.a f.b f.C s a.of,qz (dE f i).1 (dE f i).2 s,bb (qz (dE f i).1 (dE f i).2 s+Fk a)⟩
def E2(f:Fi)(s:Int)(i:Nat)(a:Ac):Int:=bif decide (0≤a.d)then bb ((jb f s i a).y+1832)else(jb f s i a).y
def pg(f:Fi)(s:Int)(i:Nat)(a:Ac):Bool:=!decide (xa (dE f i).1 (dE f i).2 s=0)||decide (1099511627776<E2 f s i a)
def Cw(f:Fi)(s:Int)(i:Nat):Bool:=!decide (C2 (dE f i).1 (dE f i).2 s=0)
def tC(f:Fi)(s:Int)(i:Nat)(a:Ac):Bool:=bif decide (a.kd=1)then pg f s i a else bif decide (a.kd=2)then Cw f s i else false
theorem oN{f:Fi}{i:Nat}(h:i<f.K.length):f.K[i]?=some (dE f i):=by
 rw[dE,Z7,ZX,Zq h];rfl
theorem Xy(n b i:Nat)(H:ab)(f:Fi)(s:Int)(Z:List Ac)(fl:Bool)(x y z:SV)(hb:H.bl[b]?=some (.box (mM f s Z fl x y z)))(hi:i<f.K.length) :
 aa T (n+7) (.fn 40) [.ptr b 0 0 0,acH i] H=some (acH (bif Cw f s i then 15 else 0),H):=by
 refine cU XL rfl rfl (fun R k bl ro r hbl hk=>?_)
 obtain rfl:bl=H.bl:=by
  rcases hbl with⟨rfl,h0⟩|rfl
  ·simp[SV.refs.au,SV.refs]at h0
  ·rfl
 have h67:=fun H'=>Uq n H' (dE f i).1 (dE f i).2 s
 have hg:=oN hi
 unfold Cw at hk
 generalize dE f i=p at hg h67 hk
 have:=hk []
 rw[ZW]at this
 cases hc:decide (C2 p.1 p.2 s=0)with
 |true=>
  rw[hc]at this
  simp only[SG,aF,aB,aG,aE,az,av,ay,ax,bc,aS,bg,aU,aP,aT,aH,aQ,aJ,aI,aw,af,bK,bL,Za,Y9,Zk,go_sem,simprocAttr,hb,hg,hi,h67,hc,G.aL]
  exact this
 |false=>
  rw[hc]at this
  simp only[SG,aF,aB,aG,aE,az,av,ay,ax,bc,aS,bg,aU,aP,aT,aH,aQ,aJ,aI,aw,af,bK,bL,Za,Y9,Zk,go_sem,simprocAttr,hb,hg,hi,h67,hc,G.aL]
  exact this
theorem WK(n b i:Nat)(H:ab):aa T (n+1) (.fn 41) [.ptr b 0 0 0,acH i] H=some (acI,H):=by
 refine cU XB rfl rfl (fun R k bl ro r hbl hk=>?_)
 simp only[VN,aF,aB,aG,aE,az,av,ay,ax,bc,aS,bg,aU,aP,aT,aH,aQ,aJ,aI,aw,af,bK,bL,Za,Y9,Zk,go_sem,simprocAttr]
 have:=hk []
 rw[ZW]at this
 exact this
abbrev AH(i:Nat)(x:A.Em)(a:Ac)(ak er:Int):List SV:=[acH i,acH x.n,acH x.c,acH x.x,acH x.y,acH a.k,acH a.s,acH a.d,acH a.q,acH a.o,acH a.c,acH a.m,acH a.e,acH a.t,acH a.u,acH a.v,.str a.x,acH ak,acH er]
theorem qR(L:List A.Em)(x:A.Em):A.bM L++[A.qC x]=A.bM (L++[x]):=by simp[A.bM]
theorem xK(M:List Nat)(b:Nat):pS M++[[.ptr b 0 0 0]]=pS (M++[b]):=by simp[pS]
theorem bA{A:Type}{bl:List A}{a b:Nat}{x y:A}(ha:bl[a]?=some x)(hb:bl[b]?=some y)(h:x≠y):a≠b:=fun e=>by
 subst e
 rw[ha]at hb
 cases hb
 exact h rfl
theorem m8:decide (8≤ch)=true:=by decide
theorem m32:decide (32≤ch)=true:=by decide
theorem R4(n pb i:Nat)(bl:List aD)(es:List (Nat×Nat))(f:Fi)(s:Int)(Z:List Ac)(fl:Bool)(rv:SV)(a:Ac)(hC:f.C.length≤1000)(hb:bl[pb]?=some (.box (mM f s Z fl (.aA 0 [] true) (.aA 0 [] true) rv)))
 (ha:Z[i]?=some a) (hi:i<f.K.length) :
 ∃H',aa T (n+10) (.fn 39) [.ptr pb 0 0 0,acH i] ⟨bl,es,0⟩=some (acH (bif pg f s i a then 15 else 0),H')∧(pg f s i a=false→∃es',
  H'=⟨bl.set pb (.box (mM f s Z fl (.bp (bl.length+4) 0 0 1) (.bp (bl.length+3) 0 0 1) rv))++[.box (Fx a),.box (AH i (jb f s i a) a (-1) 0),.arr 0 1 (pS [bl.length+1]) true,.arr 0 1 (pS [bl.length+1]) false,.arr 0 4 (A.bM [jb f s i a]) false],es',0⟩):=by
 have hpl:=(Y8.1 hb).1
 have hA:=(Y8.1 ha).1
 have hg:=oN hi
 have h66:=fun H'=>Qb (n+3) H' (dE f i).1 (dE f i).2 s
 have h78:=fun H'=>VB n H' a
 have h58:=fun H' hv=>N5 (n+3) pb i H' f s Z fl (.aA 0 [] true) (.aA 0 [] true) rv a hC hv ha hA
 have g1:∀l,(bl++l)[pb]?=some (.box (mM f s Z fl (.aA 0 [] true) (.aA 0 [] true) rv)):=fun l=>fa hb
 have s1:∀l X,(bl++l).set pb X=bl.set pb X++l:=fun l X=>aaB _ _ hpl
 have l1:∀X,(bl.set pb X).length=bl.length:=fun X=>Zv
 have g2:∀X l,(bl.set pb X++l)[pb]?=some X:=fun X l=>by rw[Zm (by rw[l1];exact hpl),Zz hpl]
 have s2:∀X Y l,(bl.set pb X++l).set pb Y=bl.set pb Y++l:=fun X Y l=>by rw[aaB _ _ (by rw[l1];exact hpl),abM]
 have hpl2:decide (pb<bl.length+5)=true:=Zc (by omega)
 have hp3:decide (bl.length+3≤pb)=false:=Zf (by omega)
 have hp4:decide (bl.length+4≤pb)=false:=Zf (by omega)
 unfold pg E2 jb
 generalize dE f i=p at hg h66⊢
 obtain⟨X,hX⟩:∃X,bb (qz p.1 p.2 s+Fk a)=X:=⟨_,rfl⟩
 rw[hX]
 suffices h:∃r,aa T (n+10) (.fn 39) [.ptr pb 0 0 0,acH i] ⟨bl,es,0⟩=some r∧r.1=acH (bif !decide (xa p.1 p.2 s=0)||decide (1099511627776<bif decide (0≤a.d)then bb (X+1832)else X)then 15 else 0)∧((!decide (xa p.1 p.2 s=0)||decide (1099511627776<bif decide (0≤a.d)then bb (X+1832)else X))=false→∃es',
  r.2=⟨bl.set pb (.box (mM f s Z fl (.bp (bl.length+4) 0 0 1) (.bp (bl.length+3) 0 0 1) rv))++[.box (Fx a),.box (AH i ⟨i,kR.oX f.v f.a f.b f.C s a.of,qz p.1 p.2 s,X⟩ a (-1) 0),.arr 0 1 (pS [bl.length+1]) true,.arr 0 1 (pS [bl.length+1]) false,.arr 0 4 (A.bM [⟨i,kR.oX f.v f.a f.b f.C s a.of,qz p.1 p.2 s,X⟩]) false],es',0⟩) by
  obtain⟨⟨v,H'⟩,h1,rfl,h3⟩:=h
  exact⟨H',h1,h3⟩
 refine dt Vq (by rfl) ?_
 cases hc1:decide (xa p.1 p.2 s=0)with
 |false=>
  simp only[Az,aF,aB,aG,aE,az,av,ay,ax,bc,aS,bg,aU,aP,aT,aH,aQ,aJ,aI,aw,af,bK,bL,Za,Y9,Zk,go_sem,simprocAttr,hb,g1,hg,hi,h66,hc1,G.aL]
  exact⟨trivial,fun h=>by cases h⟩
 |true=>
  cases hd:decide (0≤a.d)with
  |true=>
   cases hc2:decide (1099511627776<bb (X+1832))with
   |true=>
    simp only[Az,aF,aB,aG,aE,az,av,ay,ax,bc,aS,bg,aU,aP,aT,aH,aQ,aJ,aI,aw,af,bK,bL,Za,Y9,Zk,go_sem,simprocAttr,hb,g1,hg,hi,hA,ha,h66,h78,h58,hc1,hc2,hd,hX,G.aL]
    exact⟨trivial,fun h=>by cases h⟩
   |false=>
    simp only[Az,aF,aB,aG,aE,az,av,ay,ax,bc,aS,bg,aU,aP,aT,aH,aQ,aJ,aI,aw,af,bK,bL,Za,Y9,Zk,go_sem,simprocAttr,hb,g1,hg,hi,hA,ha,h66,h78,h58,hc1,hc2,hd,hX,G.aL,s1,l1,g2,s2,hpl2,hp3,hp4,m8,m32]
    exact⟨trivial,fun _=>⟨_,rfl⟩⟩
  |false=>
   cases hc2:decide (1099511627776<X)with
   |true=>
    simp only[Az,aF,aB,aG,aE,az,av,ay,ax,bc,aS,bg,aU,aP,aT,aH,aQ,aJ,aI,aw,af,bK,bL,Za,Y9,Zk,go_sem,simprocAttr,hb,g1,hg,hi,hA,ha,h66,h78,h58,hc1,hc2,hd,hX,G.aL]
    exact⟨trivial,fun h=>by cases h⟩
   |false=>
    simp only[Az,aF,aB,aG,aE,az,av,ay,ax,bc,aS,bg,aU,aP,aT,aH,aQ,aJ,aI,aw,af,bK,bL,Za,Y9,Zk,go_sem,simprocAttr,hb,g1,hg,hi,hA,ha,h66,h78,h58,hc1,hc2,hd,hX,G.aL,s1,l1,g2,s2,hpl2,hp3,hp4,m8,m32]
    exact⟨trivial,fun _=>⟨_,rfl⟩⟩
theorem Sd(n pb lb fb v v' i:Nat)(L:List A.Em)(q:List Nat)(bl:List aD)(es:List (Nat×Nat))(f:Fi)(s:Int)(Z:List Ac)(fl:Bool)(rv:SV)(a:Ac)(hC:f.C.length≤1000)(hb:bl[pb]?=some (.box (mM f s Z fl (.bp lb v 0 L.length) (.bp fb v' 0 q.length) rv)))
 (ha:Z[i]?=some a) (hi:i<f.K.length) (hlb:bl[lb]?=some (.arr v 4 (A.bM L) false)) (hfb:bl[fb]?=some (.arr v' 1 (pS q) false)) (hL:L.length≤1000) (hq:q.length≤1000) :
 ∃H',aa T (n+10) (.fn 39) [.ptr pb 0 0 0,acH i] ⟨bl,es,0⟩=some (acH (bif pg f s i a then 15 else 0),H')∧(pg f s i a=false→∃es',
  H'=⟨((bl.set fb (.arr (v'+1) 1 (pS (q++[bl.length+1])) false)).set lb (.arr (v+1) 4 (A.bM (L++[jb f s i a])) false)).set pb (.box (mM f s Z fl (.bp lb (v+1) 0 (L.length+1)) (.bp fb (v'+1) 0 (q.length+1)) rv))++[.box (Fx a),.box (AH i (jb f s i a) a (-1) 0),.arr 0 1 (pS [bl.length+1]) true],es',0⟩):=by
 have hpl:=(Y8.1 hb).1
 have hA:=(Y8.1 ha).1
 have hg:=oN hi
 have h66:=fun H'=>Qb (n+3) H' (dE f i).1 (dE f i).2 s
 have h78:=fun H'=>VB n H' a
 have h58:=fun H' hv=>N5 (n+3) pb i H' f s Z fl (.bp lb v 0 L.length) (.bp fb v' 0 q.length) rv a hC hv ha hA
 have g1:∀l,(bl++l)[pb]?=some (.box (mM f s Z fl (.bp lb v 0 L.length) (.bp fb v' 0 q.length) rv)):=fun l=>fa hb
 have hfl:=(Y8.1 hfb).1
 have hll:=(Y8.1 hlb).1
 have n1:fb≠pb:=bA hfb hb (fun h=>by cases h)
 have n2:lb≠pb:=bA hlb hb (fun h=>by cases h)
 have n3:fb≠lb:=bA hfb hlb (fun h=>by injection h with _ h2;cases h2)
 have g2:∀l,(bl++l)[fb]?=some (.arr v' 1 (pS q) false):=fun l=>fa hfb
 have g3:∀l,(bl++l)[lb]?=some (.arr v 4 (A.bM L) false):=fun l=>fa hlb
 have s1:∀l X,(bl++l).set fb X=bl.set fb X++l:=fun l X=>aaB _ _ hfl
 have k1:∀X,(bl.set fb X).length=bl.length:=fun X=>Zv
 have k2:∀X Y,((bl.set fb X).set lb Y).length=bl.length:=fun X Y=>by rw[Zv,Zv]
 have k3:∀X Y W,(((bl.set fb X).set lb Y).set pb W).length=bl.length:=fun X Y W=>by rw[Zv,Zv,Zv]
 have s2:∀l X Y,(bl.set fb X++l).set lb Y=(bl.set fb X).set lb Y++l:=fun l X Y=>aaB _ _ (by rw[k1];exact hll)
 have s3:∀l X Y W,((bl.set fb X).set lb Y++l).set pb W=((bl.set fb X).set lb Y).set pb W++l:=fun l X Y W=>aaB _ _ (by rw[k2];exact hpl)
 have s4:∀l X Y W V,(((bl.set fb X).set lb Y).set pb W++l).set pb V=((bl.set fb X).set lb Y).set pb V++l:=fun l X Y W V=>by rw[aaB _ _ (by rw[k3];exact hpl),abM]
 have t0:∀X l k,(bl.set fb X++l)[bl.length+k]?=l[k]?:=fun X l k=>by rw[←k1 X];exact aB _ _ _
 have t1:∀X l,(bl.set fb X++l)[pb]?=some (.box (mM f s Z fl (.bp lb v 0 L.length) (.bp fb v' 0 q.length) rv)):=fun X l=>by rw[Zm (by rw[k1];exact hpl),Zg n1,hb]
 have t2:∀X l,(bl.set fb X++l)[lb]?=some (.arr v 4 (A.bM L) false):=fun X l=>by rw[Zm (by rw[k1];exact hll),Zg n3,hlb]
 have t3:∀X Y l,((bl.set fb X).set lb Y++l)[pb]?=some (.box (mM f s Z fl (.bp lb v 0 L.length) (.bp fb v' 0 q.length) rv)):=fun X Y l=>by rw[Zm (by rw[k2];exact hpl),Zg n2,Zg n1,hb]
 have t4:∀X Y W l,(((bl.set fb X).set lb Y).set pb W++l)[pb]?=some W:=fun X Y W l=>by rw[Zm (by rw[k3];exact hpl),Zz (by rw[k2];exact hpl)]
 have hgF:=fun H X=>fQ 1 H fb v' q.length X (pS q) wJ
 have hgL:=fun H X=>fQ 4 H lb v L.length X (A.bM L) A.dq
 have m1:∀k,decide (fb<bl.length+k)=true:=fun k=>Zc (by omega)
 have m2:∀k,decide (lb<bl.length+k)=true:=fun k=>Zc (by omega)
 have m3:∀k,decide (pb<bl.length+k)=true:=fun k=>Zc (by omega)
 have r1:decide ((q.length+1)*8≤ch)=true:=zX hq
 have r2:decide ((L.length+1)*32≤ch)=true:=by rw[Ze];exact ZN (show(L.length+1)*32≤100000 by omega) (by decide)
 unfold pg E2 jb
 generalize dE f i=p at hg h66⊢
 obtain⟨X,hX⟩:∃X,bb (qz p.1 p.2 s+Fk a)=X:=⟨_,rfl⟩
 rw[hX]
 suffices h:∃r,aa T (n+10) (.fn 39) [.ptr pb 0 0 0,acH i] ⟨bl,es,0⟩=some r∧r.1=acH (bif !decide (xa p.1 p.2 s=0)||decide (1099511627776<bif decide (0≤a.d)then bb (X+1832)else X)then 15 else 0)∧((!decide (xa p.1 p.2 s=0)||decide (1099511627776<bif decide (0≤a.d)then bb (X+1832)else X))=false→∃es',
  r.2=⟨((bl.set fb (.arr (v'+1) 1 (pS (q++[bl.length+1])) false)).set lb (.arr (v+1) 4 (A.bM (L++[⟨i,kR.oX f.v f.a f.b f.C s a.of,qz p.1 p.2 s,X⟩])) false)).set pb (.box (mM f s Z fl (.bp lb (v+1) 0 (L.length+1)) (.bp fb (v'+1) 0 (q.length+1)) rv))++[.box (Fx a),.box (AH i ⟨i,kR.oX f.v f.a f.b f.C s a.of,qz p.1 p.2 s,X⟩ a (-1) 0),.arr 0 1 (pS [bl.length+1]) true],es',0⟩) by
  obtain⟨⟨v,H'⟩,h1,rfl,h3⟩:=h
  exact⟨H',h1,h3⟩
 have hsn:A.bM L++[[acH i,acH (kR.oX f.v f.a f.b f.C s a.of),acH (qz p.1 p.2 s),acH X]]=A.bM (L++[⟨i,kR.oX f.v f.a f.b f.C s a.of,qz p.1 p.2 s,X⟩]):=qR L ⟨i,kR.oX f.v f.a f.b f.C s a.of,qz p.1 p.2 s,X⟩
 refine dt Vq (by rfl) ?_
 cases hc1:decide (xa p.1 p.2 s=0)with
 |false=>
  simp only[Az,aF,aB,aG,aE,az,av,ay,ax,bc,aS,bg,aU,aP,aT,aH,aQ,aJ,aI,aw,af,bK,bL,Za,Y9,Zk,go_sem,simprocAttr,hb,g1,hg,hi,h66,hc1,G.aL]
  exact⟨trivial,fun h=>by cases h⟩
 |true=>
  cases hd:decide (0≤a.d)with
  |true=>
   cases hc2:decide (1099511627776<bb (X+1832))with
   |true=>
    simp only[Az,aF,aB,aG,aE,az,av,ay,ax,bc,aS,bg,aU,aP,aT,aH,aQ,aJ,aI,aw,af,bK,bL,Za,Y9,Zk,go_sem,simprocAttr,hb,g1,hg,hi,hA,ha,h66,h78,h58,hc1,hc2,hd,hX,G.aL]
    exact⟨trivial,fun h=>by cases h⟩
   |false=>
    simp only[Az,aF,aB,aG,aE,az,av,ay,ax,bc,aS,bg,aU,aP,aT,aH,aQ,aJ,aI,aw,af,bK,bL,Za,Y9,Zk,go_sem,simprocAttr,hb,g1,hg,hi,hA,ha,h66,h78,h58,hc1,hc2,hd,hX,G.aL,g2,g3,hgF,hgL,s1,k1,k2,k3,s2,s3,s4,t0,t1,t2,t3,t4,m1,m2,m3,r1,r2,hsn,xK,wJ,A.dq,Zv]
    exact⟨trivial,fun _=>⟨_,rfl⟩⟩
  |false=>
   cases hc2:decide (1099511627776<X)with
   |true=>
    simp only[Az,aF,aB,aG,aE,az,av,ay,ax,bc,aS,bg,aU,aP,aT,aH,aQ,aJ,aI,aw,af,bK,bL,Za,Y9,Zk,go_sem,simprocAttr,hb,g1,hg,hi,hA,ha,h66,h78,h58,hc1,hc2,hd,hX,G.aL]
    exact⟨trivial,fun h=>by cases h⟩
   |false=>
    simp only[Az,aF,aB,aG,aE,az,av,ay,ax,bc,aS,bg,aU,aP,aT,aH,aQ,aJ,aI,aw,af,bK,bL,Za,Y9,Zk,go_sem,simprocAttr,hb,g1,hg,hi,hA,ha,h66,h78,h58,hc1,hc2,hd,hX,G.aL,g2,g3,hgF,hgL,s1,k1,k2,k3,s2,s3,s4,t0,t1,t2,t3,t4,m1,m2,m3,r1,r2,hsn,xK,wJ,A.dq,Zv]
    exact⟨trivial,fun _=>⟨_,rfl⟩⟩
theorem nO{cs ds:List SV}(h:cs.length≠ds.length):aD.box cs≠aD.box ds:=fun e=>by
 injection e with e
 exact h (congrArg List.length e)
def nG(s:A.Sn)(L:List A.Em)(y:A.Em):Option Nat:=bif decide (A.rr (A.fT s) s.N.length L=0)then(bif decide (y.n<0)||decide ((s.N.length:Int)≤y.n)then none else bif A.Iu y then none else A.jH s L y L.length)else none
theorem HB(s:A.Sn)(L:List A.Em)(y:A.Em):∃e:Int,A.Ja s L y=.ba [acH (A.CZ (nG s L y)),.bool (nG s L y).isSome,acH e]∧((nG s L y).isSome=true→e=0):=by
 unfold A.Ja nG
 cases decide (A.rr (A.fT s) s.N.length L=0)with
 |false=>exact⟨_,rfl,fun h=>by cases h⟩
 |true=>
  cases decide (y.n<0)||decide ((s.N.length:Int)≤y.n)with
  |true=>exact⟨_,rfl,fun h=>by cases h⟩
  |false=>
   cases A.Iu y with
   |true=>exact⟨_,rfl,fun h=>by cases h⟩
   |false=>exact⟨_,rfl,fun _=>rfl⟩
theorem tk{s:A.Sn}{L:List A.Em}{y:A.Em}{b:Nat}(h:nG s L y=some b):b<L.length:=by
 unfold nG at h
 cases h1:decide (A.rr (A.fT s) s.N.length L=0)with
 |false=>rw[h1]at h;cases h
 |true=>
  rw[h1]at h
  cases h2:decide (y.n<0)||decide ((s.N.length:Int)≤y.n)with
  |true=>rw[h2]at h;cases h
  |false=>
   rw[h2]at h
   cases h3:A.Iu y with
   |true=>rw[h3]at h;cases h
   |false=>rw[h3]at h;exact(A.wV _ _ _ _ _ h).2
def qE(f:Fi)(s:Int)(i:Nat)(a:Ac):A.Em:=⟨i,kR.oX f.v f.a f.b f.C s a.of,Aa (dE f i).1 (dE f i).2 s,CR (dE f i).1 (dE f i).2 s⟩
def Ia(z x:A.Em):Bool:=decide (z.n=x.n)&&(decide (z.c=x.c)&&(decide (z.x=x.x)&&decide (z.y=x.y)))
def CP(L:List A.Em)(o:Option Nat)(x:A.Em):Bool:=match o with
 |some q=>match L[q]? with|some z=>Ia z x|none=>false
 |none=>false
def vD(x:A.Em)(i:Nat):A.Em:=⟨i,x.c,bb (x.y+1000),bb (bb (x.y+1000)+832)⟩
def jd(bl:List aD)(pb rb lb xb v i j:Nat)(f:Fi)(s:Int)(Z:List Ac)(fl:Bool)(fv:SV)(L:List A.Em)(R:List Rs)(a:Ac)(x:A.Em)(d:Int)(hd:Bool):List aD:=
 bif hd then(bif decide (a.d=i)then(((bl.set rb (.arr 0 15 (kM (R.set i (oI a d))) true)).set xb (.box (AH j x a L.length d))).set lb (.arr (v+1) 4 (A.bM (L++[vD x i])) false)).set pb (.box (mM f s Z fl (.bp lb (v+1) 0 (L.length+1)) fv (.bp rb 0 0 R.length)))
  else bl.set rb (.arr 0 15 (kM (R.set i (oI a d))) true))else bl
theorem rN(L:List A.Em):Still (A.bM L):=by
 intro cs hcs c hc
 simp only[A.bM,Z3]at hcs
 obtain⟨e,_,rfl⟩:=hcs
 simp only[A.qC,ZU,List.mem_nil_iff,or_false]at hc
 rcases hc with rfl|rfl|rfl|rfl<;>exact⟨rfl,fun _ _ _=>rfl⟩
theorem Mp(a:Int)(b:Bool)(c:Int):wG (.ba [acH a,.bool b,acH c])=true:=rfl
theorem WJ(n pb rb lb xb v i j:Nat)(bl:List aD)(es:List (Nat×Nat))(f:Fi)(hbd:Bd f)(s:Int)(Z:List Ac)(fl:Bool)(fv:SV)(L:List A.Em)(R:List Rs)(a b:Ac)(x:A.Em)(ak er:Int)
 (hp:bl[pb]?=some (.box (mM f s Z fl (.bp lb v 0 L.length) fv (.bp rb 0 0 R.length)))) (hlb:bl[lb]?=some (.arr v 4 (A.bM L) false)) (hrb:bl[rb]?=some (.arr 0 15 (kM R) true))
 (hxb:bl[xb]?=some (.box (AH j x a ak er))) (hb:Z[i]?=some b) (hi:i<f.K.length) (hR:R.length=Z.length) (hL:L.length≤10000) (M:Nat) (hlM:lb<M) (hMb:M≤bl.length) (he:cP M es) :
 ∃es',cP M es'∧aa T (n+30) (.fn 46) [.ptr pb 0 0 0,acH i,.ptr xb 0 0 0] ⟨bl,es,0⟩=some (.ba [],⟨jd bl pb rb lb xb v i j f s Z fl fv L R a x (qx (dE f i).1 (dE f i).2 s x.x) (CP L (nG (lI f hbd) L (qE f s i b)) x),es',0⟩):=by
 have hlp:lb<bl.length:=by omega
 have hA:=(Y8.1 hb).1
 have hpl:=(Y8.1 hp).1
 have hrl:=(Y8.1 hrb).1
 have hxl:=(Y8.1 hxb).1
 have hg:=oN hi
 have h67:=fun H'=>Uq (n+23) H' (dE f i).1 (dE f i).2 s
 have h58:=fun H' hv=>N5 (n+23) pb i H' f s Z fl (.bp lb v 0 L.length) fv (.bp rb 0 0 R.length) b hbd.C hv hb hA
 have h82:=fun y=>A.WH (n+11) ⟨[],[],0⟩ (lI f hbd) L false y (ZN hL (by decide))
 have h83:=fun H' t=>W8 (n+25) H' (dE f i).1 (dE f i).2 s t
 have hfz:=fun H d=>(rN L).fz 0 H 6 d L.length 4 false (by simp[A.bM])
 obtain⟨hr,hv,hr0⟩:=HB (lI f hbd) L (qE f s i b)
 unfold qE at hv hr0⊢
 generalize dE f i=p at hg h67 h83 hv hr0⊢
 obtain⟨o,ho⟩:∃o,nG (lI f hbd) L ⟨i,kR.oX f.v f.a f.b f.C s b.of,Aa p.1 p.2 s,CR p.1 p.2 s⟩=o:=⟨_,rfl⟩
 have ho':∀q,o=some q→q<L.length:=fun q h=>tk (ho.trans h)
 rw[ho]at hv hr0⊢
 suffices h:∃r,aa T (n+30) (.fn 46) [.ptr pb 0 0 0,acH i,.ptr xb 0 0 0] ⟨bl,es,0⟩=some r∧∃es',cP M es'∧r=(.ba [],⟨jd bl pb rb lb xb v i j f s Z fl fv L R a x (qx p.1 p.2 s x.x) (CP L o x),es',0⟩) by
  obtain⟨r,h1,es',h2,rfl⟩:=h
  exact⟨es',h2,h1⟩
 refine dt Yq (qe (by simp[SV.refs.au,SV.refs])) ?_
 have h82:=h82 ⟨i,kR.oX f.v f.a f.b f.C s b.of,Aa p.1 p.2 s,CR p.1 p.2 s⟩
 rw[hv]at h82
 simp only[lI,A.vB,A.zG,A.qC]at h82
 have n1:rb≠pb:=bA hrb hp (fun h=>by cases h)
 have n2:lb≠pb:=bA hlb hp (fun h=>by cases h)
 have n3:lb≠rb:=bA hlb hrb (fun h=>by injection h with _ h2;cases h2)
 have n4:xb≠pb:=bA hxb hp (nO (by simp))
 have n5:xb≠rb:=bA hxb hrb (fun h=>by cases h)
 have n6:xb≠lb:=bA hxb hlb (fun h=>by cases h)
 have l0:decide (lb<0)=false:=rfl
 have l1:∀X,(bl.set rb X).length=bl.length:=fun X=>Zv
 have l2:∀X Y,((bl.set rb X).set xb Y).length=bl.length:=fun X Y=>by rw[Zv,Zv]
 have l3:∀X Y W,(((bl.set rb X).set xb Y).set lb W).length=bl.length:=fun X Y W=>by rw[Zv,Zv,Zv]
 have l4:∀X Y W V,((((bl.set rb X).set xb Y).set lb W).set pb V).length=bl.length:=fun X Y W V=>by rw[Zv,Zv,Zv,Zv]
 have s1:∀X Y Y',((bl.set rb X).set xb Y).set xb Y'=(bl.set rb X).set xb Y':=fun X Y Y'=>abM ..
 have p1:∀X,(bl.set rb X)[pb]?=some (.box (mM f s Z fl (.bp lb v 0 L.length) fv (.bp rb 0 0 R.length))):=fun X=>by rw[Zg n1,hp]
 have p2:∀X,(bl.set rb X)[xb]?=some (.box (AH j x a ak er)):=fun X=>by rw[Zg (Ne.symm n5),hxb]
 have p3:∀X,(bl.set rb X)[lb]?=some (.arr v 4 (A.bM L) false):=fun X=>by rw[Zg (Ne.symm n3),hlb]
 have q1:∀X Y,((bl.set rb X).set xb Y)[pb]?=some (.box (mM f s Z fl (.bp lb v 0 L.length) fv (.bp rb 0 0 R.length))):=fun X Y=>by rw[Zg n4,p1]
 have q2:∀X Y,((bl.set rb X).set xb Y)[xb]?=some Y:=fun X Y=>Zz (by rw[l1];exact hxl)
 have q3:∀X Y,((bl.set rb X).set xb Y)[lb]?=some (.arr v 4 (A.bM L) false):=fun X Y=>by rw[Zg n6,p3]
 have r1:∀X Y W,(((bl.set rb X).set xb Y).set lb W)[pb]?=some (.box (mM f s Z fl (.bp lb v 0 L.length) fv (.bp rb 0 0 R.length))):=fun X Y W=>by rw[Zg n2,q1]
 have ht:bl.take bl.length=bl:=aaj
 have ht1:∀X,(bl.set rb X).take bl.length=bl.set rb X:=fun X=>by rw[←l1 X,aaj]
 have ht4:∀X Y W V,((((bl.set rb X).set xb Y).set lb W).set pb V).take bl.length=(((bl.set rb X).set xb Y).set lb W).set pb V:=fun X Y W V=>by rw[←l4 X Y W V,aaj]
 have hgL:=fun H X=>fQ 4 H lb v L.length X (A.bM L) A.dq
 have d1:decide (rb<bl.length)=true:=Zc hrl
 have d2:decide (xb<bl.length)=true:=Zc hxl
 have d3:decide (lb<bl.length)=true:=Zc hlp
 have d4:decide (pb<bl.length)=true:=Zc hpl
 have rm:decide ((L.length+1)*32≤ch)=true:=by rw[Ze];exact ZN (show(L.length+1)*32≤400000 by omega) (by decide)
 have hA2:i<R.length:=by omega
 obtain⟨row,hrow⟩:=bV hA2
 have hrw:(kM R).set i [.bool false,.bool true,acH a.k,acH a.s,acH a.d,acH a.q,acH a.o,acH a.c,acH a.m,acH a.e,acH a.t,acH a.u,acH a.v,.str a.x,acH (qx p.1 p.2 s x.x)]=kM (R.set i (oI a (qx p.1 p.2 s x.x))):=xh R i (oI a (qx p.1 p.2 s x.x))
 have hsn:A.bM L++[[acH i,acH x.c,acH (bb (x.y+1000)),acH (bb (bb (x.y+1000)+832))]]=A.bM (L++[vD x i]):=qR L (vD x i)
 have he5:cP M (bif decide (lb≤pb)then[]else[(pb,lb+1)]):=fM (aV _) (by omega)
 unfold jd CP
 cases o with
 |none=>
  simp only[A.CZ,acg]at h82
  cases h0:decide (hr=0)with
  |true=>
   simp only[I7,aF,aB,aG,aE,az,av,ay,ax,bc,aS,bg,aU,aP,aT,aH,aQ,aJ,aI,aw,af,bK,bL,Za,Y9,Zk,go_sem,simprocAttr,hp,hg,hi,h67,h58,hfz,hlb,h82,hb,G.aL,l0,Mp,ht,cK (aV _),h0]
   exact⟨es,he,rfl⟩
  |false=>
   simp only[I7,aF,aB,aG,aE,az,av,ay,ax,bc,aS,bg,aU,aP,aT,aH,aQ,aJ,aI,aw,af,bK,bL,Za,Y9,Zk,go_sem,simprocAttr,hp,hg,hi,h67,h58,hfz,hlb,h82,hb,G.aL,l0,Mp,ht,cK (aV _),h0]
   exact⟨es,he,rfl⟩
 |some q=>
  have hq:=ho' q rfl
  obtain⟨z,hz⟩:=bV hq
  obtain rfl:=hr0 rfl
  simp only[A.CZ,abw]at h82
  simp only[hz]
  unfold Ia
  cases e1:decide (z.n=x.n)&&(decide (z.c=x.c)&&(decide (z.x=x.x)&&decide (z.y=x.y)))with
  |false=>
   simp only[I7,aF,aB,aG,aE,az,av,ay,ax,bc,aS,bg,aU,aP,aT,aH,aQ,aJ,aI,aw,af,bK,bL,Za,Y9,Zk,go_sem,simprocAttr,hp,hg,hi,h67,h58,hfz,hlb,h82,hb,G.aL,l0,Mp,ht,cK (aV _),hq,hz,hxb,e1]
   exact⟨es,he,rfl⟩
  |true=>
   cases e2:decide (a.d=(i:Int))with
   |false=>
    simp only[I7,aF,aB,aG,aE,az,av,ay,ax,bc,aS,bg,aU,aP,aT,aH,aQ,aJ,aI,aw,af,bK,bL,Za,Y9,Zk,go_sem,simprocAttr,hp,hg,hi,h67,h58,hfz,hlb,h82,hb,G.aL,l0,Mp,ht,cK (aV _),hq,hz,hxb,e1,e2,h83,hrb,hA2,hrow,d1,p2,l1,ht1,hrw]
    exact⟨es,he,rfl⟩
   |true=>
    simp only[I7,aF,aB,aG,aE,az,av,ay,ax,bc,aS,bg,aU,aP,aT,aH,aQ,aJ,aI,aw,af,bK,bL,Za,Y9,Zk,go_sem,simprocAttr,hp,hg,hi,h67,h58,hfz,hlb,h82,hb,G.aL,l0,Mp,ht,cK (aV _),hq,hz,hxb,e1,e2,h83,hrb,hA2,hrow,d1,d2,d3,d4,p1,p2,p3,q1,q2,q3,r1,s1,l1,l2,l3,l4,ht1,ht4,hgL,rm,hrw,hsn,cK (jR he5 hMb)]
    exact⟨_,cd he (ca _ he5),rfl⟩
theorem sR{A:Type}{bl:List A}{N:Nat}(h:bl.length=N)(l:List A):(bl++l)[N]?=l[0]?:=by rw[←h];exact aF _ _
theorem gq{A:Type}{bl:List A}{N:Nat}(h:bl.length=N)(l:List A)(k:Nat):(bl++l)[N+k]?=l[k]?:=by rw[←h];exact aB _ _ _
theorem xB{A:Type}{bl:List A}{N:Nat}(h:bl.length=N)(l:List A)(x:A):(bl++l).set N x=bl++l.set 0 x:=by rw[←h];exact aG _ _ _
theorem ng{A:Type}{bl:List A}{N:Nat}(h:bl.length=N)(l:List A)(x:A)(k:Nat):(bl++l).set (N+k) x=bl++l.set k x:=by rw[←h];exact aE _ _ _ _
theorem mO{A:Type}{bl:List A}{N:Nat}(h:bl.length=N)(l:List A)(k:Nat):(bl++l).take (N+k)=bl++l.take k:=by rw[←h];exact av _ _ _
theorem Ay{p:ct}{N M:Nat}(hM:M≤N){H0:ab}{e env:Env}{bl:List aD}{es:List (Nat×Nat)}{ro:Nat}(hv:p.bB=[])(hk:jD p.live=false)(henv:dx p.live e=env)(hr:SV.refs.au (env.map (·.2))≤N)(hN:bl.length=N)(he:cP M es)(h0:cP M H0.bQ) :
 kU p N H0 (e,⟨bl,es,ro⟩) (fun s=>∃es',cP M es'∧s=(env,⟨bl,es',H0.ro⟩)):=by
 subst henv
 exact⟨_,rR hv hk hr hN (jR he hM),_,cd h0 (ca _ he),rfl⟩
theorem qY{p:ct}{N M:Nat}(hM:M≤N){H0:ab}{e env:Env}{bl l:List aD}{es:List (Nat×Nat)}{ro:Nat}(hv:p.bB=[])(hk:jD p.live=false)(henv:dx p.live e=env)(hr:SV.refs.au (env.map (·.2))≤N)(hN:bl.length=N)(he:cP M es)(h0:cP M H0.bQ) :
 kU p N H0 (e,⟨bl++l,es,ro⟩) (fun s=>∃es',cP M es'∧s=(env,⟨bl,es',H0.ro⟩)):=by
 subst henv
 exact⟨_,pC hv hk hr hN (jR he hM),_,cd h0 (ca _ he),rfl⟩
theorem Yu(n N:Nat)(f:Fi)(s:Int)(Z:List Ac)(fl:Bool)(X0 X1:aD)(q:eN)(hX1:X1=.box [.ptr 2 0 0 0])(hZ:Z.length≤maxLen)(I:Nat→List aD→Prop)
 (hI:∀i bl,I i bl→bl.length=N∧2<N∧∃x y z,bl[2]?=some (.box (mM f s Z fl x y z)))
 (hno:∀i bl b,I i bl→Z[i]?=some b→decide (b.kd=2)=false→I (i+1) bl)
 (hy:∀i bl b X es,cP N es→I i bl→Z[i]?=some b→decide (b.kd=2)=true→∃bl' es',I (i+1) bl'∧cP N es'∧aa T (n+1) (.fp (N+2)) [acH i] ⟨bl++[X0,X1,.loop q .ready .normal,X],es,0⟩=some (.bool true,⟨bl'++[X0,X1,.loop q .ready .normal,X],es',0⟩))
 (bl:List aD) (es:List (Nat×Nat)) (he:cP N es) (h0:I 0 bl) :
 ∃bl' es',I Z.length bl'∧cP N es'∧aa T (n+2) (.fn 81) [.fp (N+2),.ptr (N+1) 0 0 0] ⟨bl++[X0,X1,.loop q .ready .normal],es,0⟩=some (.ba [],⟨bl'++[X0,X1,.loop q .ready .normal],es',0⟩):=by
 subst hX1
 suffices h:∃r,aa T (n+2) (.fn 81) [.fp (N+2),.ptr (N+1) 0 0 0] ⟨bl++[X0,.box [.ptr 2 0 0 0],.loop q .ready .normal],es,0⟩=some r∧∃bl' es',I Z.length bl'∧cP N es'∧r=(.ba [],⟨bl'++[X0,.box [.ptr 2 0 0 0],.loop q .ready .normal],es',0⟩) by
  obtain⟨r,h1,bl',es',h2,h3,rfl⟩:=h
  exact⟨bl',es',h2,h3,h1⟩
 refine dt W1 (qe (by simp[SV.refs.au,SV.refs])) ?_
 obtain⟨hN,h2N,x,y,z,hp⟩:=hI 0 bl h0
 have hp':∀l,(bl++l)[2]?=some (.box (mM f s Z fl x y z)):=fun l=>fa hp
 simp only[Wx,aF,aB,aG,aE,az,av,ay,ax,bc,aS,bg,aU,aP,aT,aH,aQ,aJ,aI,aw,af,bK,bL,Za,Y9,Zk,go_sem,simprocAttr,hp',D6,hN,gq hN]
 refine cr (fun i s=>∃bl' es',I i bl'∧cP N es'∧s=([(0,.fp (N+2)),(8,.aA 14 (oU Z) fl),(9,acH Z.length),(10,acH i)],⟨bl'++[X0,.box [.ptr 2 0 0 0],.loop q .ready .normal],es',0⟩)) Z.length ?_ ?_
 ·refine aX (Ay (show N≤N+3 by omega) rfl rfl (by simp only[go_sem,simprocAttr]<;>rfl) (by simp[SV.refs,SV.refs.au]) (by simp[hN]) (aV _) (aV _)) ?_
  rintro s ⟨es',h,rfl⟩
  exact⟨bl,es',h0,h,rfl⟩
 ·rintro i s hi ⟨bl',es',hIi,he',rfl⟩
  have hl:=(hI i bl' hIi).1
  have t1:=sR hl
  have t2:=gq hl
  have t3:=xB hl
  have t4:=ng hl
  have t5:=mO hl
  rcases Zl i Z.length with hlt|hge
  ·obtain⟨b,hb⟩:=bV hlt
   have hw:=bR hlt hZ
   cases hk:decide (b.kd=2)with
   |false=>
    have hn:=hno i bl' b hIi hb hk
    simp only[go_sem,simprocAttr,hlt,hb,aF,aB,aG,aE,az,av,ay,ax,bc,aS,bg,aU,aP,aT,aH,aQ,aJ,aI,aw,af,bK,bL,Za,Y9,Zk,hl,t1,t2,t3,t4,t5,hk,hw]
    rw[show ∀Y,bl'++[X0,.box [.ptr 2 0 0 0],.loop q .ready .normal,Y]=(bl'++[X0,.box [.ptr 2 0 0 0],.loop q .ready .normal])++[Y]from fun Y=>by simp]
    refine⟨by first|trivial|omega,aX (qY (show N≤N+3 by omega) rfl rfl (by simp only[go_sem,simprocAttr]<;>rfl) (by simp[SV.refs,SV.refs.au]) (by simp[hl]) he' (aV _)) ?_⟩
    rintro s ⟨es3,h,rfl⟩
    exact⟨bl',es3,hn,h,rfl⟩
   |true=>
    obtain⟨bl2,es2,hI2,he2,hyc⟩:=hy i bl' b (.box (FU b)) es' he' hIi hb hk
    have hl2:=(hI _ bl2 hI2).1
    simp only[go_sem,simprocAttr,hlt,hb,aF,aB,aG,aE,az,av,ay,ax,bc,aS,bg,aU,aP,aT,aH,aQ,aJ,aI,aw,af,bK,bL,Za,Y9,Zk,hl,t1,t2,t3,t4,t5,hk,hw,hyc]
    rw[show ∀Y,bl2++[X0,.box [.ptr 2 0 0 0],.loop q .ready .normal,Y]=(bl2++[X0,.box [.ptr 2 0 0 0],.loop q .ready .normal])++[Y]from fun Y=>by simp]
    refine⟨by first|trivial|omega,aX (qY (show N≤N+3 by omega) rfl rfl (by simp only[go_sem,simprocAttr]<;>rfl) (by simp[SV.refs,SV.refs.au]) (by simp[hl2]) he2 (aV _)) ?_⟩
    rintro s ⟨es3,h,rfl⟩
    exact⟨bl2,es3,hI2,h,rfl⟩
  ·obtain rfl:i=Z.length:=by omega
   have hd:decide (Z.length<Z.length)=false:=Zf (by omega)
   simp only[go_sem,simprocAttr,hd,aF,aB,aG,aE,az,av,ay,ax,bc,aS,bg,aU,aP,aT,aH,aQ,aJ,aI,aw,af,bK,bL,Za,Y9,Zk,hl,hN,t5,cK (jR he' (show N≤N+3 by omega))]
   exact⟨bl',_,hIi,cd he (ca _ he'),rfl⟩
structure St where
 L:List A.Em
 R:List Rs
 Q:List (Int×Int)
def gM(f:Fi)(hb:Bd f)(s:Int)(Z:List Ac)(x:A.Em)(j:Nat)(a:Ac)(st:St)(i:Nat):St:=match Z[i]? with
 |some b=>bif decide (b.kd=2)&&CP st.L (nG (lI f hb) st.L (qE f s i b)) x then
   (bif decide (a.d=(i:Int))then⟨st.L++[vD x i],st.R.set i (oI a (qx (dE f i).1 (dE f i).2 s x.x)),st.Q.set j ((st.L.length:Int),qx (dE f i).1 (dE f i).2 s x.x)⟩
    else⟨st.L,st.R.set i (oI a (qx (dE f i).1 (dE f i).2 s x.x)),st.Q⟩)else st
 |none=>st
def jC(f:Fi)(hb:Bd f)(s:Int)(Z:List Ac)(x:A.Em)(j:Nat)(a:Ac)(st:St):Nat→St
 |0=>st
 |i+1=>gM f hb s Z x j a (jC f hb s Z x j a st i) i
structure PJ(f:Fi)(s:Int)(Z:List Ac)(fl:Bool)(ar:List A.Em)(q sq:List Nat)(lb fb v' N:Nat)(st:St)(bl:List aD):Prop where
 len:bl.length=N
 b0:bl[0]?=some (.box (sx f))
 b1:bl[1]?=some (.arr 0 15 (kM st.R) true)
 b2:∃v,bl[2]?=some (.box (mM f s Z fl (.bp lb v 0 st.L.length) (.bp fb v' 0 q.length) (.bp 1 0 0 st.R.length)))∧bl[lb]?=some (.arr v 4 (A.bM st.L) false)
 b3:bl[3]?=some (.box [.ptr 2 0 0 0])
 bf:bl[fb]?=some (.arr v' 1 (pS sq) false)
 bq:∀(k b:Nat) (x:A.Em) (a:Ac),q[k]?=some b→ar[k]?=some x→Z[x.n.toNat]?=some a→∃z,st.Q[x.n.toNat]?=some z∧bl[b]?=some (.box (AH x.n.toNat x a z.1 z.2))
 lR:st.R.length=Z.length
 lQ:st.Q.length=Z.length
theorem wa(bl l:List aD)(pb rb lb xb v i j:Nat)(f:Fi)(s:Int)(Z:List Ac)(fl:Bool)(fv:SV)(L:List A.Em)(R:List Rs)(a:Ac)(x:A.Em)(d:Int)(hd:Bool)(h1:pb<bl.length)(h2:rb<bl.length)(h3:lb<bl.length)(h4:xb<bl.length) :
 jd (bl++l) pb rb lb xb v i j f s Z fl fv L R a x d hd=jd bl pb rb lb xb v i j f s Z fl fv L R a x d hd++l:=by
 unfold jd
 cases hd with
 |false=>rfl
 |true=>
  cases decide (a.d=(i:Int))with
  |false=>simp only[Zr,Zu];rw[aaB _ _ h2]
  |true=>
   simp only[Zr]
   rw[aaB _ _ h2,aaB _ _ (by simpa using h4),aaB _ _ (by simpa using h3),aaB _ _ (by simpa using h1)]
theorem zr{q:List Nat}(h:q.Nodup){i j b:Nat}(hi:q[i]?=some b)(hj:q[j]?=some b):i=j:=by
 obtain⟨h1,h2⟩:=Y8.1 hi
 obtain⟨h3,h4⟩:=Y8.1 hj
 have hp:=abG.1 h
 rcases aaL i j with hl|hl|hl
 ·exact absurd (h2.trans h4.symm) (hp i j h1 h3 hl)
 ·exact hl
 ·exact absurd (h4.trans h2.symm) (hp j i h3 h1 hl)
theorem PJ.Sa{f:Fi}{hbd:Bd f}{s:Int}{Z:List Ac}{fl:Bool}{ar:List A.Em}{q sq:List Nat}{lb fb v' N:Nat}{st:St}{bl:List aD}(h:PJ f s Z fl ar q sq lb fb v' N st bl)
 (hq:q.Nodup) (hn:∀(k k':Nat) (x x':A.Em),ar[k]?=some x→ar[k']?=some x'→x.n.toNat=x'.n.toNat→k=k')
 {v k xb:Nat} {x:A.Em} {a b:Ac} {i:Nat} (hk:q[k]?=some xb) (hx:ar[k]?=some x) (ha:Z[x.n.toNat]?=some a) (hb:Z[i]?=some b) (hkd:decide (b.kd=2)=true)
 (h2:bl[2]?=some (.box (mM f s Z fl (.bp lb v 0 st.L.length) (.bp fb v' 0 q.length) (.bp 1 0 0 st.R.length)))) (hlb:bl[lb]?=some (.arr v 4 (A.bM st.L) false)) :
 PJ f s Z fl ar q sq lb fb v' N (gM f hbd s Z x x.n.toNat a st i) (jd bl 2 1 lb xb v i x.n.toNat f s Z fl (.bp fb v' 0 q.length) st.L st.R a x (qx (dE f i).1 (dE f i).2 s x.x) (CP st.L (nG (lI f hbd) st.L (qE f s i b)) x)):=by
 obtain⟨z,hz,hxb⟩:=h.bq k xb x a hk hx ha
 unfold gM
 simp only[hb,hkd,ZP]
 unfold jd
 cases hd:CP st.L (nG (lI f hbd) st.L (qE f s i b)) x with
 |false=>exact h
 |true=>
  have b0:=h.b0
  have b1:=h.b1
  have b3:=h.b3
  have bf:=h.bf
  have n01:(1:Nat)≠0:=by omega
  have nx0:xb≠0:=bA hxb b0 (nO (by simp))
  have nx1:xb≠1:=bA hxb b1 (fun e=>by cases e)
  have nx2:xb≠2:=bA hxb h2 (nO (by simp))
  have nx3:xb≠3:=bA hxb b3 (nO (by simp))
  have nxl:xb≠lb:=bA hxb hlb (fun e=>by cases e)
  have nxf:xb≠fb:=bA hxb bf (fun e=>by cases e)
  have nl0:lb≠0:=bA hlb b0 (fun e=>by cases e)
  have nl1:lb≠1:=bA hlb b1 (fun e=>by injection e with _ e;cases e)
  have nl2:lb≠2:=bA hlb h2 (fun e=>by cases e)
  have nl3:lb≠3:=bA hlb b3 (fun e=>by cases e)
  have nlf:lb≠fb:=bA hlb bf (fun e=>by injection e with _ e;cases e)
  have nf1:fb≠1:=bA bf b1 (fun e=>by injection e with _ e;cases e)
  have nf2:fb≠2:=bA bf h2 (fun e=>by cases e)
  have l1:=(Y8.1 b1).1
  have l2:=(Y8.1 h2).1
  have ll:=(Y8.1 hlb).1
  have lx:=(Y8.1 hxb).1
  have other:∀(k' b':Nat) (x':A.Em) (a':Ac),q[k']?=some b'→ar[k']?=some x'→Z[x'.n.toNat]?=some a'→k'≠k→b'≠xb∧x'.n.toNat≠x.n.toNat:=fun k' b' x' a' hk' hx' _ hne=>by
   refine⟨fun e=>?_,fun e=>hne (hn k' k x' x hx' hx e)⟩
   subst e
   obtain⟨g1,g2⟩:=Y8.1 hk
   obtain⟨g3,g4⟩:=Y8.1 hk'
   exact hne (zr hq hk' hk)
  have bne:∀(k' b':Nat) (x':A.Em) (a':Ac),q[k']?=some b'→ar[k']?=some x'→Z[x'.n.toNat]?=some a'→b'≠1∧b'≠lb∧b'≠2:=fun k' b' x' a' hk' hx' ha'=>by
   obtain⟨z',_,hb'⟩:=h.bq k' b' x' a' hk' hx' ha'
   exact⟨bA hb' b1 (fun e=>by cases e),bA hb' hlb (fun e=>by cases e),bA hb' h2 (nO (by simp))⟩
  cases hdd:decide (a.d=(i:Int))with
  |false=>
   simp only[Zr,Zu]
   refine⟨by rw[Zv];exact h.len,?_,Zz l1,⟨v,?_,?_⟩,?_,?_,fun k' b' x' a' hk' hx' ha'=>?_,by rw[Zv];exact h.lR,h.lQ⟩
   ·rw[Zg n01];exact b0
   ·rw[Zg (by omega),Zv];exact h2
   ·rw[Zg (Ne.symm nl1)];exact hlb
   ·rw[Zg (by omega)];exact b3
   ·rw[Zg (Ne.symm nf1)];exact bf
   ·obtain⟨z',g1,g2⟩:=h.bq k' b' x' a' hk' hx' ha'
    exact⟨z',g1,by rw[Zg (Ne.symm (bne k' b' x' a' hk' hx' ha').1)];exact g2⟩
  |true=>
   simp only[Zr]
   refine⟨by simp only[Zv];exact h.len,?_,?_,⟨v+1,?_,?_⟩,?_,?_,fun k' b' x' a' hk' hx' ha'=>?_,by rw[Zv];exact h.lR,by rw[Zv];exact h.lQ⟩
   ·rw[Zg (by omega),Zg nl0,Zg nx0,Zg n01];exact b0
   ·rw[Zg (by omega),Zg nl1,Zg nx1];exact Zz l1
   ·rw[Zz (by simpa using l2),Zv,Y9];rfl
   ·rw[Zg (Ne.symm nl2)];exact Zz (by simpa using ll)
   ·rw[Zg (by omega),Zg nl3,Zg nx3,Zg (by omega)];exact b3
   ·rw[Zg (Ne.symm nf2),Zg nlf,Zg nxf,Zg (Ne.symm nf1)];exact bf
   ·obtain⟨z',g1,g2⟩:=h.bq k' b' x' a' hk' hx' ha'
    obtain⟨m1,m2,m3⟩:=bne k' b' x' a' hk' hx' ha'
    rw[Zg (Ne.symm m3),Zg (Ne.symm m2)]
    by_cases hkk:k'=k
    ·subst hkk
     rw[hk]at hk';cases hk'
     rw[hx]at hx';cases hx'
     rw[ha]at ha';cases ha'
     refine⟨_,Zz (by rw[h.lQ];exact(Y8.1 ha).1),?_⟩
     exact Zz (by simpa using lx)
    ·obtain⟨o1,o2⟩:=other k' b' x' a' hk' hx' ha' hkk
     exact⟨z',by rw[Zg (Ne.symm o2)];exact g1,by rw[Zg (Ne.symm o1),Zg (Ne.symm m1)];exact g2⟩
theorem zu{α β:Type}{v:Option α}{k:α→Option β}{t:oR k}{Q:β→Prop}{Q':α→Prop}(h:∃r,v=some r∧Q' r)(hk:∀r,Q' r→post (k r) Q):post (aN v k t) Q:=by
 obtain⟨r,rfl,h2⟩:=h
 exact hk r h2
theorem Se(n p:Nat)(bl es ro):aa T (n+1) (.rW 45) [.ptr p 0 0 0] ⟨bl,es,ro⟩=some (.fn 81 [.ptr bl.length 0 0 0],⟨bl++[.box [.ptr p 0 0 0]],es,ro⟩):=by
 refine fg W7 ?_
 simp only[WC,aF,aB,aG,aE,az,av,ay,ax,bc,aS,bg,aU,aP,aT,aH,aQ,aJ,aI,aw,af,bK,bL,Za,Y9,Zk,go_sem,simprocAttr]
theorem Dy{T:FuncId→Option aC}{b n:Nat}{xs:List SV}{H:ab}{q:eN}{pend:kT}{Q:SV×ab→Prop}(hg:bk H b=some (.loop q .ready pend))(hl:(q.ps.length==xs.length)=true)
 (h:post (runK (aa T n) (tT (aa T n) q.body b H) q.assign [] ((q.ps.zip xs).reverse++q.env) ⟨H.bl,[],min H.ro H.bl.length⟩ ()) Q):∃r,aa T (n+1) (.fp b) xs H=some r∧Q r:=by
 obtain⟨r,h1,h2⟩:=h
 exact⟨r,nK hg hl h1,h2⟩
theorem KO(n N:Nat)(q0:eN)(h1:q0.ps=[78])(h2:q0.assign=.ops [OM 17 78])(h3:q0.body=.block 5 (.ops [OL 79 10,OM 80 17,OL 81 16,OC 82 46 [79,80,81]]))(h10:get q0.env 10=.ptr 3 0 0 0)(h16:get q0.env 16=.ptr N 0 0 0)
 (f:Fi) (hbd:Bd f) (s:Int) (Z:List Ac) (fl:Bool) (ar:List A.Em) (q sq:List Nat) (lb fb v':Nat) (st:St) (bl:List aD) (h:PJ f s Z fl ar q sq lb fb v' N st bl)
 (hq:q.Nodup) (hn:∀(k k':Nat) (x x':A.Em),ar[k]?=some x→ar[k']?=some x'→x.n.toNat=x'.n.toNat→k=k') (hZ:Z.length=f.K.length) (hL:st.L.length≤10000)
 {k xb:Nat} {x:A.Em} {a b:Ac} {i:Nat} (hk:q[k]?=some xb) (hx:ar[k]?=some x) (ha:Z[x.n.toNat]?=some a) (hb:Z[i]?=some b) (hkd:decide (b.kd=2)=true) (X:aD) (es:List (Nat×Nat)) (he:cP N es) :
 ∃bl' es',PJ f s Z fl ar q sq lb fb v' N (gM f hbd s Z x x.n.toNat a st i) bl'∧cP N es'∧aa T (n+32) (.fp (N+2)) [acH i] ⟨bl++[.box [.ptr xb 0 0 0],.box [.ptr 2 0 0 0],.loop q0 .ready .normal,X],es,0⟩=
  some (.bool true,⟨bl'++[.box [.ptr xb 0 0 0],.box [.ptr 2 0 0 0],.loop q0 .ready .normal,X],es',0⟩):=by
 obtain⟨v,g2,glb⟩:=h.b2
 obtain⟨z,hz,hxb⟩:=h.bq k xb x a hk hx ha
 have hN:=h.len
 have hi:i<f.K.length:=by rw[←hZ];exact(Y8.1 hb).1
 have l1:=(Y8.1 h.b1).1
 have l2:=(Y8.1 g2).1
 have ll:=(Y8.1 glb).1
 have lx:=(Y8.1 hxb).1
 obtain⟨es1,he1,h46⟩:=WJ (n+1) 2 1 lb xb v i x.n.toNat (bl++[.box [.ptr xb 0 0 0],.box [.ptr 2 0 0 0],.loop q0 .busy .normal,X]) [] f hbd s Z fl (.bp fb v' 0 q.length) st.L st.R a b x z.1 z.2
  (fa g2) (fa glb) (fa h.b1) (fa hxb) hb hi h.lR hL N (by omega) (by simp[hN]) (aV _)
 rw[wa _ _ _ _ _ _ _ _ _ _ _ _ _ _ _ _ _ _ _ _ l2 l1 ll lx]at h46
 have hP:=h.Sa hq hn hk hx ha hb hkd g2 glb (hbd:=hbd)
 obtain⟨bl',hbl'⟩:∃bl',jd bl 2 1 lb xb v i x.n.toNat f s Z fl (.bp fb v' 0 q.length) st.L st.R a x (qx (dE f i).1 (dE f i).2 s x.x) (CP st.L (nG (lI f hbd) st.L (qE f s i b)) x)=bl':=⟨_,rfl⟩
 rw[hbl']at h46 hP
 have hN':=hP.len
 suffices hh:∃r,aa T (n+32) (.fp (N+2)) [acH i] ⟨bl++[.box [.ptr xb 0 0 0],.box [.ptr 2 0 0 0],.loop q0 .ready .normal,X],es,0⟩=some r∧∃es',cP N es'∧r=(.bool true,⟨bl'++[.box [.ptr xb 0 0 0],.box [.ptr 2 0 0 0],.loop q0 .ready .normal,X],es',0⟩) by
  obtain⟨r,k1,es',k2,rfl⟩:=hh
  exact⟨bl',es',hP,k2,k1⟩
 refine Dy (q:=q0) (pend:=.normal) (by simp only[bk];exact gq hN _ 2) (by rw[h1];rfl) ?_
 have t3:∀l,(bl++l)[3]?=some (.box [.ptr 2 0 0 0]):=fun l=>fa h.b3
 rw[h1,h2,h3]
 simp only[go_sem,simprocAttr,aF,aB,aG,aE,az,av,ay,ax,bc,aS,bg,aU,aP,aT,aH,aQ,aJ,aI,aw,af,bK,bL,Za,Y9,Zk,hN,sR hN,gq hN,ng hN,h10,h16,t3,h46,hN',gq hN',ng hN',mO hN',cK (jR he1 (show N≤N+4 by omega))]
 exact⟨_,cd he (ca _ he1),rfl⟩
def aW(f:Fi)(s:Int)(Z:List Ac):Nat→List A.Em
 |0=>[]
 |i+1=>match Z[i]? with
  |some a=>bif decide (a.kd=1)then aW f s Z i++[jb f s i a]else aW f s Z i
  |none=>aW f s Z i
theorem mR(f:Fi)(s:Int)(Z:List Ac):∀i,(aW f s Z i).length≤i
 |0=>by simp[aW]
 |i+1=>by
  have ih:=mR f s Z i
  unfold aW
  split
  ·rename_i a _
   cases decide (a.kd=1)
   ·exact Nat.le_succ_of_le ih
   ·simp only[Zr,Y9,Zw,Zx];omega
  ·exact Nat.le_succ_of_le ih
theorem ep(f:Fi)(s:Int)(Z:List Ac):∀(i k:Nat) (x:A.Em),(aW f s Z i)[k]?=some x→∃(j:Nat) (a:Ac),j<i∧Z[j]?=some a∧decide (a.kd=1)=true∧x=jb f s j a
 |0,k,x,h=>by simp[aW]at h
 |i+1,k,x,h=>by
  unfold aW at h
  split at h
  ·rename_i a ha
   cases hk:decide (a.kd=1)with
   |false=>
    rw[hk]at h
    obtain⟨j,b,h1,h2⟩:=ep f s Z i k x h
    exact⟨j,b,by omega,h2⟩
   |true=>
    rw[hk]at h
    simp only[Zr]at h
    rcases Zl k (aW f s Z i).length with hlt|hge
    ·rw[Zm hlt]at h
     obtain⟨j,b,h1,h2⟩:=ep f s Z i k x h
     exact⟨j,b,by omega,h2⟩
    ·rw[ZR hge]at h
     have hm:=Zj h
     simp only[aab]at hm
     exact⟨i,a,by omega,ha,hk,hm⟩
  ·obtain⟨j,b,h1,h2⟩:=ep f s Z i k x h
   exact⟨j,b,by omega,h2⟩
theorem iV(f:Fi)(s:Int)(Z:List Ac):∀(i k k':Nat) (x x':A.Em),(aW f s Z i)[k]?=some x→(aW f s Z i)[k']?=some x'→x.n.toNat=x'.n.toNat→k=k'
 |0,k,k',x,x',h,_,_=>by simp[aW]at h
 |i+1,k,k',x,x',h,h',hn=>by
  have ih:=iV f s Z i
  unfold aW at h h'
  split at h
  ·rename_i a ha
   rw[ha]at h'
   simp only at h'
   cases hk:decide (a.kd=1)with
   |false=>rw[hk]at h h';exact ih k k' x x' h h' hn
   |true=>
    rw[hk]at h h'
    simp only[Zr]at h h'
    have old:∀(k:Nat) (x:A.Em),k<(aW f s Z i).length→(aW f s Z i++[jb f s i a])[k]?=some x→x.n.toNat<i:=fun k x hlt hx=>by
     rw[Zm hlt]at hx
     obtain⟨j,b,h1,_,_,h4⟩:=ep f s Z i k x hx
     rw[h4]
     show((j:Nat):Int).toNat<i
     omega
    have new:∀(k:Nat) (x:A.Em),(aW f s Z i).length≤k→(aW f s Z i++[jb f s i a])[k]?=some x→x.n.toNat=i∧k=(aW f s Z i).length:=fun k x hge hx=>by
     have hl:=(Y8.1 hx).1
     simp only[Y9,Zw,Zx]at hl
     rw[ZR hge]at hx
     have hm:=Zj hx
     simp only[aab]at hm
     rw[hm]
     exact⟨by show((i:Nat):Int).toNat=i;omega,by omega⟩
    rcases Zl k (aW f s Z i).length with h1|h1<;>rcases Zl k' (aW f s Z i).length with h2|h2
    ·rw[Zm h1]at h
     rw[Zm h2]at h'
     exact ih k k' x x' h h' hn
    ·have:=old k x h1 h
     have:=(new k' x' h2 h').1
     omega
    ·have:=(new k x h1 h).1
     have:=old k' x' h2 h'
     omega
    ·rw[(new k x h1 h).2,(new k' x' h2 h').2]
  ·rename_i ha
   rw[ha]at h'
   exact ih k k' x x' h h' hn
def fe(f:Fi)(hb:Bd f)(s:Int)(Z:List Ac)(ar:List A.Em)(st:St)(k:Nat):St:=match ar[k]? with
 |some x=>match Z[x.n.toNat]? with
  |some a=>jC f hb s Z x x.n.toNat a st Z.length
  |none=>st
 |none=>st
def fF(ar:List A.Em):List Nat:=Q.fk (fun k=>match ar[k]? with|some x=>x.y|none=>0) (List.range ar.length)
def oP(ar:List A.Em)(n:Nat):St:=⟨ar,List.replicate n Ee,List.replicate n (-1,0)⟩
def sT(s:A.Sn)(L:List A.Em)(i k:Int):Bool:=bif decide (A.E0 s L i k=0)then(match L[i.toNat]? with|some a=>A.gO s L i.toNat a k|none=>false)else false
theorem Ic(s:A.Sn)(L:List A.Em)(i k:Int):∃e:Int,A.OS s L i k=.ba [.bool (sT s L i k),acH e]:=by
 unfold A.OS sT
 cases decide (A.E0 s L i k=0)<;>exact⟨_,rfl⟩
def iX(f:Fi)(hb:Bd f)(st:St)(ar:List A.Em)(R:List Rs)(k:Nat):List Rs:=match ar[k]? with
 |some x=>match st.Q[x.n.toNat]? with
  |some z=>bif decide (z.1<0)then R else bif sT (lI f hb) st.L z.1 x.n.toNat then R.set x.n.toNat (Gb z.2)else R
  |none=>R
 |none=>R
def eO(f:Fi)(hb:Bd f)(s:Int)(Z:List Ac):St:=(fF (aW f s Z Z.length)).foldl (fe f hb s Z (aW f s Z Z.length)) (oP (aW f s Z Z.length) Z.length)
def gp(f:Fi)(hb:Bd f)(s:Int)(Z:List Ac):List Rs:=(fF (aW f s Z Z.length)).foldl (iX f hb (eO f hb s Z) (aW f s Z Z.length)) (eO f hb s Z).R
def xk(f:Fi)(s:Int)(Z:List Ac):Bool:=(List.range Z.length).any fun i=>match Z[i]? with|some a=>tC f s i a|none=>false
def C8(f:Fi)(s:Int)(Z:List Ac):Int:=bif decide (qA f s Z=0)then(bif xk f s Z then 15 else 0)else qA f s Z
def SZ(f:Fi)(hb:Bd f)(s:Int)(Z:List Ac):SV:=bif decide (C8 f s Z=0)then .ba [.aA 15 (kM (gp f hb s Z)) true,(bif (aW f s Z Z.length).isEmpty then .aA 0 [] true else .aA 4 (A.bM (eO f hb s Z).L) false),acI]
 else .ba [.aA 0 [] true,.aA 0 [] true,acH (C8 f s Z)]
structure PI(f:Fi)(s:Int)(Z:List Ac)(fl:Bool)(i:Nat)(q:List Nat)(bl:List aD):Prop where
 b0:bl[0]?=some (.box (sx f))
 b1:bl[1]?=some (.arr 0 15 (kM (List.replicate Z.length Ee)) true)
 b2:∃x y,bl[2]?=some (.box (mM f s Z fl x y (.bp 1 0 0 Z.length)))∧((aW f s Z i=[]∧q=[]∧x=.aA 0 [] true∧y=.aA 0 [] true)∨
  ∃lb fb v v',x=.bp lb v 0 (aW f s Z i).length∧y=.bp fb v' 0 q.length∧bl[lb]?=some (.arr v 4 (A.bM (aW f s Z i)) false)∧bl[fb]?=some (.arr v' 1 (pS q) false)∧aW f s Z i≠[])
 b3:bl[3]?=some (.box [.ptr 2 0 0 0])
 b4:bl[4]?=some (.map [(acH 1,.oC 39 [.ptr 2 0 0 0]),(acH 2,.oC 40 [.ptr 2 0 0 0]),(acI,.oC 41 [.ptr 2 0 0 0])])
 lq:q.length=(aW f s Z i).length
 nd:q.Nodup
 bq:∀(k b:Nat) (x:A.Em) (a:Ac),q[k]?=some b→(aW f s Z i)[k]?=some x→Z[x.n.toNat]?=some a→bl[b]?=some (.box (AH x.n.toNat x a (-1) 0))
theorem Dc{f:Fi}{s:Int}{Z:List Ac}{i:Nat}{a:Ac}(ha:Z[i]?=some a)(h:decide (a.kd=1)=false):aW f s Z (i+1)=aW f s Z i:=by
 unfold aW;rw[ha];simp only[h,Zu]
 cases i<;>rfl
theorem uQ{f:Fi}{s:Int}{Z:List Ac}{i:Nat}{a:Ac}(ha:Z[i]?=some a)(h:decide (a.kd=1)=true):aW f s Z (i+1)=aW f s Z i++[jb f s i a]:=by
 conv=>lhs;unfold aW
 rw[ha];simp only[h,Zr]
theorem PI.app{f:Fi}{s:Int}{Z:List Ac}{fl:Bool}{i:Nat}{q:List Nat}{bl:List aD}(h:PI f s Z fl i q bl)(l:List aD):PI f s Z fl i q (bl++l):=by
 obtain⟨x,y,h2,h3⟩:=h.b2
 refine⟨fa h.b0,fa h.b1,⟨x,y,fa h2,?_⟩,fa h.b3,fa h.b4,h.lq,h.nd,fun k b x a h1 h2 h3=>fa (h.bq k b x a h1 h2 h3)⟩
 rcases h3 with h3|⟨lb,fb,v,v',e1,e2,e3,e4⟩
 ·exact .inl h3
 ·exact .inr ⟨lb,fb,v,v',e1,e2,fa e3,fa e4.1,e4.2⟩
theorem PI.next{f:Fi}{s:Int}{Z:List Ac}{fl:Bool}{i:Nat}{q:List Nat}{bl:List aD}(h:PI f s Z fl i q bl){a:Ac}(ha:Z[i]?=some a)(hk:decide (a.kd=1)=false):PI f s Z fl (i+1) q bl:=by
 have e:=Dc (f:=f) (s:=s) ha hk
 exact⟨h.b0,h.b1,by rw[e];exact h.b2,h.b3,h.b4,by rw[e];exact h.lq,h.nd,by rw[e];exact h.bq⟩
theorem PI.lt{f:Fi}{s:Int}{Z:List Ac}{fl:Bool}{i:Nat}{q:List Nat}{bl:List aD}(h:PI f s Z fl i q bl)(hi:i≤Z.length):∀b∈q,b<bl.length:=fun b hb=>by
 obtain⟨k,hk⟩:=ZH hb
 have hkl:=(Y8.1 hk).1
 obtain⟨x,hx⟩:=bV (show k<(aW f s Z i).length by rw[←h.lq];exact hkl)
 obtain⟨j,a,h1,h2,_,h4⟩:=ep f s Z i k x hx
 have hn:x.n.toNat=j:=by rw[h4];show((j:Nat):Int).toNat=j;omega
 exact(Y8.1 (h.bq k b x a hk hx (by rw[hn];exact h2))).1
theorem PI.first{f:Fi}{s:Int}{Z:List Ac}{fl:Bool}{i:Nat}{bl:List aD}(h:PI f s Z fl i [] bl)(he:aW f s Z i=[]){a:Ac}(ha:Z[i]?=some a)(hk:decide (a.kd=1)=true)
 (hb2:bl[2]?=some (.box (mM f s Z fl (.aA 0 [] true) (.aA 0 [] true) (.bp 1 0 0 Z.length)))) :
 PI f s Z fl (i+1) [bl.length+1] (bl.set 2 (.box (mM f s Z fl (.bp (bl.length+4) 0 0 1) (.bp (bl.length+3) 0 0 1) (.bp 1 0 0 Z.length)))++[.box (Fx a),.box (AH i (jb f s i a) a (-1) 0),.arr 0 1 (pS [bl.length+1]) true,.arr 0 1 (pS [bl.length+1]) false,.arr 0 4 (A.bM [jb f s i a]) false]):=by
 have e:=uQ (f:=f) (s:=s) ha hk
 rw[he,ZZ]at e
 have l2:=(Y8.1 hb2).1
 have hl:∀X,(bl.set 2 X).length=bl.length:=fun X=>Zv
 have old:∀X (l:List aD) b x,b≠2→bl[b]?=some x→(bl.set 2 X++l)[b]?=some x:=fun X l b x hb hx=>by
  rw[Zm (by rw[hl];exact(Y8.1 hx).1),Zg (Ne.symm hb),hx]
 have new:∀X (l:List aD) k,(bl.set 2 X++l)[bl.length+k]?=l[k]?:=fun X l k=>gq (hl X) l k
 refine⟨old _ _ _ _ (by omega) h.b0,old _ _ _ _ (by omega) h.b1,⟨.bp (bl.length+4) 0 0 1,.bp (bl.length+3) 0 0 1,?_,.inr ⟨bl.length+4,bl.length+3,0,0,by rw[e]<;>rfl,rfl,by rw[e,new]<;>rfl,by rw[new]<;>rfl,by rw[e];exact List.cons_ne_nil _ _⟩⟩,old _ _ _ _ (by omega) h.b3,old _ _ _ _ (by omega) h.b4,by rw[e]<;>rfl,by simp,?_⟩
 ·rw[Zm (by rw[hl];exact l2),Zz l2]
 ·intro k b x a' h1 h2 h3
  rw[e]at h2
  have hk0:k=0:=by have:=(Y8.1 h1).1;simp at this;omega
  subst hk0
  simp only[aax,Zs]at h1 h2
  subst h1 h2
  have hn:(jb f s i a).n.toNat=i:=by show((i:Nat):Int).toNat=i;omega
  rw[hn]at h3⊢
  rw[ha]at h3;cases h3
  rw[new];rfl
theorem PI.more{f:Fi}{s:Int}{Z:List Ac}{fl:Bool}{i:Nat}{q:List Nat}{bl:List aD}(h:PI f s Z fl i q bl)(hi:i≤Z.length){a:Ac}(ha:Z[i]?=some a)(hk:decide (a.kd=1)=true){lb fb v v':Nat}
 (hb2:bl[2]?=some (.box (mM f s Z fl (.bp lb v 0 (aW f s Z i).length) (.bp fb v' 0 q.length) (.bp 1 0 0 Z.length)))) (hlb:bl[lb]?=some (.arr v 4 (A.bM (aW f s Z i)) false)) (hfb:bl[fb]?=some (.arr v' 1 (pS q) false)) :
 PI f s Z fl (i+1) (q++[bl.length+1]) (((bl.set fb (.arr (v'+1) 1 (pS (q++[bl.length+1])) false)).set lb (.arr (v+1) 4 (A.bM (aW f s Z i++[jb f s i a])) false)).set 2 (.box (mM f s Z fl (.bp lb (v+1) 0 ((aW f s Z i).length+1)) (.bp fb (v'+1) 0 (q.length+1)) (.bp 1 0 0 Z.length)))++[.box (Fx a),.box (AH i (jb f s i a) a (-1) 0),.arr 0 1 (pS [bl.length+1]) true]):=by
 have e:=uQ (f:=f) (s:=s) ha hk
 have l2:=(Y8.1 hb2).1
 have ll:=(Y8.1 hlb).1
 have lf:=(Y8.1 hfb).1
 have hl:∀X Y W,(((bl.set fb X).set lb Y).set 2 W).length=bl.length:=fun X Y W=>by simp
 have nf2:fb≠2:=bA hfb hb2 (fun h=>by cases h)
 have nl2:lb≠2:=bA hlb hb2 (fun h=>by cases h)
 have nfl:fb≠lb:=bA hfb hlb (fun h=>by injection h with _ h2;cases h2)
 have old:∀X Y W (l:List aD) b x,b≠2→b≠lb→b≠fb→bl[b]?=some x→(((bl.set fb X).set lb Y).set 2 W++l)[b]?=some x:=fun X Y W l b x h1 h2 h3 hx=>by
  rw[Zm (by rw[hl];exact(Y8.1 hx).1),Zg (Ne.symm h1),Zg (Ne.symm h2),Zg (Ne.symm h3),hx]
 have new:∀X Y W (l:List aD) k,(((bl.set fb X).set lb Y).set 2 W++l)[bl.length+k]?=l[k]?:=fun X Y W l k=>gq (hl X Y W) l k
 refine⟨old _ _ _ _ _ _ (by omega) (bA h.b0 hlb (fun h=>by cases h)) (bA h.b0 hfb (fun h=>by cases h)) h.b0,old _ _ _ _ _ _ (by omega) (bA h.b1 hlb (fun h=>by injection h with _ h2;cases h2)) (bA h.b1 hfb (fun h=>by injection h with _ h2;cases h2)) h.b1,
  ⟨.bp lb (v+1) 0 ((aW f s Z i).length+1),.bp fb (v'+1) 0 (q.length+1),?_,.inr ⟨lb,fb,v+1,v'+1,by rw[e,Y9]<;>rfl,by rw[Y9]<;>rfl,?_,?_,by rw[e];simp⟩⟩,old _ _ _ _ _ _ (by omega) (bA h.b3 hlb (fun h=>by cases h)) (bA h.b3 hfb (fun h=>by cases h)) h.b3,old _ _ _ _ _ _ (by omega) (bA h.b4 hlb (fun h=>by cases h)) (bA h.b4 hfb (fun h=>by cases h)) h.b4,by rw[e];simp[h.lq],?_,?_⟩
 ·rw[Zm (by rw[hl];exact l2),Zz (by simpa using l2)]
 ·rw[Zm (by rw[hl];exact ll),Zg (Ne.symm nl2),Zz (by simpa using ll),e]
 ·rw[Zm (by rw[hl];exact lf),Zg (Ne.symm nf2),Zg (Ne.symm nfl),Zz lf]
 ·rw[aaH]
  exact⟨h.nd,by simp,fun x hx y hy=>by
   simp only[aab]at hy
   subst hy
   have:=h.lt hi x hx
   omega⟩
 ·intro k b x a' h1 h2 h3
  rw[e]at h2
  rcases Zl k q.length with hlt|hge
  ·rw[Zm hlt]at h1
   rw[Zm (by rw[←h.lq];exact hlt)]at h2
   have g:=h.bq k b x a' h1 h2 h3
   exact old _ _ _ _ _ _ (bA g hb2 (nO (by simp))) (bA g hlb (fun h=>by cases h)) (bA g hfb (fun h=>by cases h)) g
  ·rw[ZR hge]at h1
   rw[ZR (by rw[←h.lq];exact hge)]at h2
   have m1:=Zj h1
   have m2:=Zj h2
   simp only[aab]at m1 m2
   subst m1 m2
   have hn:(jb f s i a).n.toNat=i:=by show((i:Nat):Int).toNat=i;omega
   rw[hn]at h3⊢
   rw[ha]at h3;cases h3
   rw[new];rfl
namespace Q
theorem sH(key:Nat→Int)(f:Nat→Nat):∀X Y,cN key (X.map f) (Y.map f)=(cN (fun x=>key (f x)) X Y).map f
 |[],Y=>by simp[cE]
 |x::X,[]=>by simp[db]
 |x::X,y::Y=>by
  by_cases h:key (f y)<key (f x)
  ·rw[ZO,ZO,cX h,cX (key:=fun x=>key (f x)) h,ZO,←sH key f (x::X) Y,ZO]
  ·rw[ZO,ZO,dw h,dw (key:=fun x=>key (f x)) h,ZO,←sH key f X (y::Y),ZO]
termination_by X Y=>X.length+Y.length
theorem E5(key:Nat→Int)(f:Nat→Nat)(X:List Nat):fk key (X.map f)=(fk (fun x=>key (f x)) X).map f:=by
 suffices h:∀Z:List Nat,(X.map f).foldl (fun Z x=>cN key Z [x]) (Z.map f)=(X.foldl (fun Z x=>cN (fun x=>key (f x)) Z [x]) Z).map f by
  exact h []
 induction X with
 |nil=>intro Z;rfl
 |cons x X ih=>
  intro Z
  rw[ZO,aad,aad,←ih]
  congr 1
  exact sH key f Z [x]
theorem nD{k k':Nat→Int}:∀X Y:List Nat,(∀x∈X,k x=k' x)→(∀x∈Y,k x=k' x)→cN k X Y=cN k' X Y
 |[],Y,_,_=>by simp[cE]
 |x::X,[],_,_=>by simp[db]
 |x::X,y::Y,h,h'=>by
  have e:(k y<k x)=(k' y<k' x):=by rw[h x (by simp),h' y (by simp)]
  by_cases hc:k' y<k' x
  ·rw[cX hc,cX (by rw[e];exact hc),nD (x::X) Y h (fun z hz=>h' z (by simp[hz]))]
  ·rw[dw hc,dw (by rw[e];exact hc),nD X (y::Y) (fun z hz=>h z (by simp[hz])) h']
termination_by X Y=>X.length+Y.length
theorem yK{k k':Nat→Int}(X:List Nat)(h:∀x∈X,k x=k' x):fk k X=fk k' X:=by
 suffices hh:∀Z:List Nat,(∀x∈Z,k x=k' x)→X.foldl (fun Z x=>cN k Z [x]) Z=X.foldl (fun Z x=>cN k' Z [x]) Z by
  exact hh [] (by simp)
 induction X with
 |nil=>intro Z _;rfl
 |cons x X ih=>
  intro Z hZ
  have hx:=h x (by simp)
  rw[aad,aad,nD Z [x] hZ (by simpa using hx)]
  refine ih (fun y hy=>h y (by simp[hy])) _ (fun y hy=>?_)
  rcases(ia k' Z [x] y).1 hy with h1|h1
  ·exact hZ y h1
  ·simp only[aab]at h1
   rw[h1];exact hx
end Q
def P9:Option SV→Int
 |some (.int _ z)=>z
 |_=>0
def Bv(bl:List aD)(b:Nat):Int:=match bl[b]? with
 |some (.box cs)=>P9 cs[4]?
 |_=>0
theorem yg{bl:List aD}{b:Nat}{cs:List SV}{z:Int}(h:bl[b]?=some (.box cs))(h4:cs[4]?=some (acH z)):Bv bl b=z:=by
 unfold Bv;rw[h];simp only[h4];rfl
theorem oO{f:Fi}{s:Int}{Z:List Ac}{i k:Nat}{x:A.Em}(hi:i≤Z.length)(h:(aW f s Z i)[k]?=some x):∃a,x.n.toNat<Z.length∧x.n=(x.n.toNat:Int)∧Z[x.n.toNat]?=some a∧x=jb f s x.n.toNat a:=by
 obtain⟨j,a,h1,h2,_,h4⟩:=ep f s Z i k x h
 have e:x.n=(j:Int):=by rw[h4];rfl
 have hn:x.n.toNat=j:=by rw[e];omega
 exact⟨a,by omega,by rw[hn,e],by rw[hn];exact h2,by rw[hn];exact h4⟩
theorem PI.key{f:Fi}{s:Int}{Z:List Ac}{fl:Bool}{q:List Nat}{bl:List aD}(h:PI f s Z fl Z.length q bl) :
 Q.fk (Bv bl) q=(fF (aW f s Z Z.length)).map fun k=>q.getD k 0:=by
 have hq:q=(List.range (aW f s Z Z.length).length).map fun k=>q.getD k 0:=by
  apply aa2
  intro k
  rw[aat,←h.lq]
  rcases Zl k q.length with hlt|hge
  ·rw[aa0 hlt]
   simp[List.getD,Zq hlt]
  ·rw[aao hge,aao (by simpa using hge)];rfl
 conv=>lhs;rw[hq]
 rw[Q.E5]
 unfold fF
 congr 1
 refine Q.yK _ (fun k hk=>?_)
 have hkl:=ZF.1 hk
 obtain⟨x,hx⟩:=bV hkl
 rw[hx]
 obtain⟨b,hb⟩:=bV (show k<q.length by rw[h.lq];exact hkl)
 obtain⟨a,h1,h2,h3,h4⟩:=oO (Zp _) hx
 have g:=h.bq k b x a hb hx h3
 show Bv bl (q.getD k 0)=x.y
 rw[show q.getD k 0=b by simp[List.getD,hb]]
 exact yg g rfl
theorem uD{ar:List A.Em}{k:Nat}(h:k∈fF ar):k<ar.length:=ZF.1 ((Q.kB _ _ _).1 h)
theorem iL(ar:List A.Em):(fF ar).length=ar.length:=by unfold fF;rw[Q.kI,abW]
theorem sQ(f:Fi)(hb:Bd f)(s:Int)(Z:List Ac)(x:A.Em)(j:Nat)(a:Ac)(st:St):∀i,(jC f hb s Z x j a st i).L.length≤st.L.length+i
 |0=>Zp _
 |i+1=>by
  have ih:=sQ f hb s Z x j a st i
  show(gM f hb s Z x j a (jC f hb s Z x j a st i) i).L.length≤_
  unfold gM
  split
  ·rename_i b _
   cases hc:(decide (b.kd=2)&&CP (jC f hb s Z x j a st i).L (nG (lI f hb) (jC f hb s Z x j a st i).L (qE f s i b)) x)with
   |false=>simp only[Zu];omega
   |true=>
    cases decide (a.d=(i:Int))with
    |false=>simp only[Zr,Zu];omega
    |true=>simp only[Zr,Y9,Zw,Zx];omega
  ·omega
theorem PI.start{f:Fi}{s:Int}{Z:List Ac}{fl:Bool}{q:List Nat}{bl:List aD}(h:PI f s Z fl Z.length q bl){lb fb v v':Nat}(hb2:bl[2]?=some (.box (mM f s Z fl (.bp lb v 0 (aW f s Z Z.length).length) (.bp fb v' 0 q.length) (.bp 1 0 0 Z.length))))
 (hlb:bl[lb]?=some (.arr v 4 (A.bM (aW f s Z Z.length)) false)) (hfb:bl[fb]?=some (.arr v' 1 (pS q) false)) (sq:List Nat) :
 PJ f s Z fl (aW f s Z Z.length) q sq lb fb v' bl.length (oP (aW f s Z Z.length) Z.length) (bl.set fb (.arr v' 1 (pS sq) false)):=by
 have lf:=(Y8.1 hfb).1
 have nf2:fb≠2:=bA hfb hb2 (fun h=>by cases h)
 have nfl:fb≠lb:=bA hfb hlb (fun h=>by injection h with _ h2;cases h2)
 refine⟨by simp,?_,?_,⟨v,?_,?_⟩,?_,Zz lf,fun k b x a h1 h2 h3=>?_,by simp[oP],by simp[oP]⟩
 ·rw[Zg (bA hfb h.b0 (fun h=>by cases h))];exact h.b0
 ·rw[Zg (bA hfb h.b1 (fun h=>by injection h with _ h2;cases h2))];exact h.b1
 ·rw[Zg nf2,hb2];simp[oP]
 ·rw[Zg nfl,hlb];rfl
 ·rw[Zg (bA hfb h.b3 (fun h=>by cases h))];exact h.b3
 ·have g:=h.bq k b x a h1 h2 h3
  refine⟨(-1,0),?_,?_⟩
  ·simp only[oP]
   rw[aa7,if_pos (Y8.1 h3).1]
  ·rw[Zg (bA hfb g (fun h=>by cases h))];exact g
theorem rG(R:List Rs):Still (kM R):=fun cs hcs c hc=>by
 obtain⟨r,_,rfl⟩:=Z3.1 hcs
 revert c
 simp[BU,SV.refs,ec]
theorem qu(L:List A.Em):Still (A.bM L):=fun cs hcs c hc=>by
 obtain⟨r,_,rfl⟩:=Z3.1 hcs
 revert c
 simp[A.qC,SV.refs,ec]
theorem S6(bl:List aD)(fb v:Nat)(hfb:fb<bl.length)(key:Nat→Int)(k:Nat)(M:List Nat)(es0:List (Nat×Nat))(hM:M.length<40)(hm:∀x∈M,fy bl fb key x)(h0:bl[fb]?=some (.arr v 1 (pS M) false)) :
 ∃es',aa T (k+47) (.fn 42) [.bp fb v 0 M.length,.fn 43 []] ⟨bl,es0,0⟩=some (.ba [],pH bl fb v (Q.fk key M) es'):=by
 suffices h:∃r,aa T (k+47) (.fn 42) [.bp fb v 0 M.length,.fn 43 []] ⟨bl,es0,0⟩=some r∧∃es',r=(.ba [],pH bl fb v (Q.fk key M) es') by
  obtain⟨r,h1,es',rfl⟩:=h
  exact⟨es',h1⟩
 refine dt VT (by rfl) ?_
 have hl:∀X,(bl.set fb X).length=bl.length:=fun X=>Zv
 have ht:∀X,(bl.set fb X).take bl.length=bl.set fb X:=fun X=>by rw[←hl X,aaj]
 obtain⟨es1,he1,h79⟩:=YC bl fb v hfb key k M [] M.length rfl hM hm (aV _)
 have hb:bl.set fb (.arr v 1 (pS M) false)=bl:=by
  obtain⟨g1,g2⟩:=Y8.1 h0
  rw[←g2];exact List.set_getElem_self g1
 unfold pH at h79
 rw[hb]at h79
 simp only[Wd,go_sem,simprocAttr,hl,h0,h79,ht,af,cK he1]
 exact⟨_,rfl⟩
theorem Dv(f:Fi)(hb:Bd f)(s:Int)(Z:List Ac)(ar:List A.Em)(st:St)(k:Nat):(fe f hb s Z ar st k).L.length≤st.L.length+Z.length:=by
 unfold fe
 split
 ·split
  ·exact sQ _ _ _ _ _ _ _ _ _
  ·omega
 ·omega
theorem su(f:Fi)(hb:Bd f)(s:Int)(Z:List Ac)(ar:List A.Em):∀(l:List Nat) (st:St),(l.foldl (fe f hb s Z ar) st).L.length≤st.L.length+l.length*Z.length
 |[],st=>by simp
 |k::l,st=>by
  have h1:=su f hb s Z ar l (fe f hb s Z ar st k)
  have h2:=Dv f hb s Z ar st k
  rw[aad,Zw,aac,aaW]
  omega
theorem xp{α β:Type}(g:β→α→β)(b:β){l:List α}{i:Nat}{x:α}(h:l[i]?=some x):(l.take (i+1)).foldl g b=g ((l.take i).foldl g b) x:=by
 rw[aaE,h,acn];rfl
theorem Ah(f:Fi)(hb:Bd f)(s:Int)(Z:List Ac)(x:A.Em)(j:Nat)(a:Ac)(st:St){i:Nat}{b:Ac}(h:Z[i]?=some b)(hk:decide (b.kd=2)=false):gM f hb s Z x j a st i=st:=by
 unfold gM;rw[h];simp only[hk,ZJ,Zu]
theorem BJ{f:Fi}{hb:Bd f}{s:Int}{Z:List Ac}{ar:List A.Em}{st:St}{k:Nat}{x:A.Em}{a:Ac}(hx:ar[k]?=some x)(ha:Z[x.n.toNat]?=some a):fe f hb s Z ar st k=jC f hb s Z x x.n.toNat a st Z.length:=by
 unfold fe;rw[hx];simp only[ha]
theorem Cq{f:Fi}{hb:Bd f}{st:St}{ar:List A.Em}{R:List Rs}{k:Nat}{x:A.Em}{z:Int×Int}(hx:ar[k]?=some x)(hz:st.Q[x.n.toNat]?=some z) :
 iX f hb st ar R k=bif decide (z.1<0)then R else bif sT (lI f hb) st.L z.1 x.n.toNat then R.set x.n.toNat (Gb z.2)else R:=by
 unfold iX;rw[hx];simp only[hz]
theorem PZ(n N:Nat)(f:Fi)(s:Int)(Z:List Ac)(fl:Bool)(X0:aD)(q:eN)(hZ:Z.length≤maxLen)(I:Nat→List aD→Prop)
 (hI:∀i bl,I i bl→bl.length=N∧2<N∧∃x y z,bl[2]?=some (.box (mM f s Z fl x y z)))
 (hno:∀i bl b,I i bl→Z[i]?=some b→decide (b.kd=2)=false→I (i+1) bl)
 (hy:∀i bl b X es,cP N es→I i bl→Z[i]?=some b→decide (b.kd=2)=true→∃bl' es',I (i+1) bl'∧cP N es'∧aa T (n+1) (.fp (N+2)) [acH i] ⟨bl++[X0,.box [.ptr 2 0 0 0],.loop q .ready .normal,X],es,0⟩=some (.bool true,⟨bl'++[X0,.box [.ptr 2 0 0 0],.loop q .ready .normal,X],es',0⟩))
 (bl:List aD) (es:List (Nat×Nat)) (he:cP N es) (h0:I 0 bl) :
 ∃r,aa T (n+2) (.fn 81) [.fp (N+2),.ptr (N+1) 0 0 0] ⟨bl++[X0,.box [.ptr 2 0 0 0],.loop q .ready .normal],es,0⟩=some r∧∃bl' es',I Z.length bl'∧cP N es'∧r=(.ba [],⟨bl'++[X0,.box [.ptr 2 0 0 0],.loop q .ready .normal],es',0⟩):=by
 obtain⟨bl',es',h1,h2,h3⟩:=Yu n N f s Z fl X0 _ q rfl hZ I hI hno hy bl es he h0
 exact⟨_,h3,bl',es',h1,h2,rfl⟩
theorem PJ.Up{f:Fi}{s:Int}{Z:List Ac}{fl:Bool}{ar:List A.Em}{q sq:List Nat}{lb fb v' N:Nat}{L:List A.Em}{R:List Rs}{Q:List (Int×Int)}{bl:List aD}(h:PJ f s Z fl ar q sq lb fb v' N ⟨L,R,Q⟩ bl)(i:Nat)(r:Rs) :
 PJ f s Z fl ar q sq lb fb v' N ⟨L,R.set i r,Q⟩ (bl.set 1 (.arr 0 15 (kM (R.set i r)) true)):=by
 have b1:=h.b1
 obtain⟨v,h2,hlb⟩:=h.b2
 have l1:=(Y8.1 b1).1
 have nl1:lb≠1:=bA hlb b1 (fun e=>by injection e with _ e;cases e)
 have nf1:fb≠1:=bA h.bf b1 (fun e=>by injection e with _ e;cases e)
 refine⟨by rw[Zv];exact h.len,?_,Zz l1,⟨v,?_,?_⟩,?_,?_,fun k' b' x' a' hk' hx' ha'=>?_,by rw[Zv];exact h.lR,h.lQ⟩
 ·rw[Zg (by omega)];exact h.b0
 ·rw[Zg (by omega),Zv];exact h2
 ·rw[Zg (Ne.symm nl1)];exact hlb
 ·rw[Zg (by omega)];exact h.b3
 ·rw[Zg (Ne.symm nf1)];exact h.bf
 ·obtain⟨z',g1,g2⟩:=h.bq k' b' x' a' hk' hx' ha'
  exact⟨z',g1,by rw[Zg (Ne.symm (bA g2 b1 (fun e=>by cases e)))];exact g2⟩
theorem vU{α:Type}{v:Option α}{x:α}(h:post v (fun o=>o=x)):v=some x:=by
 obtain⟨o,h1,rfl⟩:=h
 exact h1
theorem ml{p:ct}{N:Nat}{H0 H:ab}{e env:Env}(hv:p.bB=[])(hk:jD p.live=true)(henv:dx p.live.tail e=env):kU p N H0 (e,H) (fun s=>s=(env,H)):=by
 subst henv
 exact⟨_,yq hv hk,rfl⟩
theorem vb{nc:Nat}:∀{j:Nat} {L:List Ac},FP nc j L=0→∀(k:Nat) (a:Ac),L[k]?=some a→CK nc ((j+k:Nat):Int) a=0
 |j,[],_,k,a,h=>by simp at h
 |j,b::L,h0,0,a,h=>by
  simp only[aax,Zs]at h
  subst h
  unfold FP at h0
  cases hc:decide (CK nc j b=0)with
  |true=>simpa using ZE hc
  |false=>rw[hc]at h0;exact h0
 |j,b::L,h0,k+1,a,h=>by
  unfold FP at h0
  cases hc:decide (CK nc j b=0)with
  |true=>
   rw[hc]at h0
   have:=vb (j:=j+1) h0 k a (by simpa using h)
   rw[show j+(k+1)=j+1+k by omega];exact this
  |false=>
   rw[hc]at h0
   exact absurd h0 (aak hc)
theorem iY{f:Fi}{s:Int}{Z:List Ac}(h:qA f s Z=0):okF f=true∧Z.length=f.K.length∧FM f s=true∧∀(i:Nat) (a:Ac),Z[i]?=some a→CK f.C.length i a=0:=by
 unfold qA at h
 cases h1:okF f with
 |false=>rw[h1]at h;cases h
 |true=>
  rw[h1]at h
  cases h2:decide (Z.length=f.K.length)with
  |false=>rw[h2]at h;cases h
  |true=>
   rw[h2]at h
   cases h3:FM f s with
   |false=>rw[h3]at h;cases h
   |true=>
    rw[h3]at h
    refine⟨rfl,ZE h2,rfl,fun i a ha=>?_⟩
    have:=vb (j:=0) h i a ha
    rwa [aae]at this
theorem FK{f:Fi}(h:okF f=true):f.K.length≤32:=by
 unfold okF at h
 simp only[Zh,Ze,G.jg,G.okB]at h
 omega
theorem vM{f:Fi}{s:Int}{Z:List Ac}{i:Nat}{a:Ac}(ha:Z[i]?=some a)(h:tC f s i a=true):xk f s Z=true:=by
 unfold xk
 rw[aav]
 exact⟨i,ZF.2 (Y8.1 ha).1,by rw[ha];exact h⟩
theorem GM{f:Fi}{s:Int}{Z:List Ac}(h:∀(j:Nat) (a:Ac),j<Z.length→Z[j]?=some a→tC f s j a=false):xk f s Z=false:=by
 unfold xk
 rw[aau]
 intro i hi
 have hil:=ZF.1 hi
 obtain⟨a,ha⟩:=bV hil
 rw[ha]
 simp only[h i a hil ha]
 exact Bool.false_ne_true
theorem grow{f:Fi}{s:Int}{Z:List Ac}(i:Nat)(a:Ac)(ha:Z[i]?=some a)(h:∀(j:Nat) (a:Ac),j<i→Z[j]?=some a→tC f s j a=false)(h0:tC f s i a=false):∀(j:Nat) (a:Ac),j<i+1→Z[j]?=some a→tC f s j a=false:=fun j b hj hb=>by
 rcases Zl j i with h1|h1
 ·exact h j b h1 hb
 ·obtain rfl:j=i:=by omega
  rw[ha]at hb;cases hb
  exact h0
theorem UX(n:Nat)(H:ab):aa T (n+10) (.fn 42) [.aA 0 [] true,.fn 43 []] H=some (.ba [],H):=fS VT (by rfl) (iE (T:=T) 100 (n+10) (.fn 42) [.aA 0 [] true,.fn 43 []] ah (.ba [],ah) (by kernel_rfl))
theorem Q1(n:Nat)(H:ab)(f:Fi)(hbd:Bd f)(s:Int)(Z:List Ac)(fl:Bool)(hZ:Z.length≤1000) :
 aa T (n+60) (.fn 11) [.agg (sx f),acH s,.aA 14 (oU Z) fl] H=some (SZ f hbd s Z,H):=by
 have hZ':Z.length≤maxLen:=ZN hZ (by decide)
 have h38:=fun H=>GA (n+49) H f s Z fl hbd.q hZ'
 refine ae sS (by rfl) ?_
 unfold SZ C8
 cases he:decide (qA f s Z=0)with
 |false=>
  have he2:decide (qA f s Z=0)=false:=he
  simp only[Zu,he2]
  simp only[Pl,ah,go_sem,simprocAttr,h38,he]
 |true=>
  have he0:=ZE he
  rw[he0]at h38
  obtain⟨k1,k2,k3,k4⟩:=iY he0
  have k5:=FK k1
  refine vU ?_
  have mk:mF 15 [.bool false,.bool false,acI,acI,acI,acI,acI,acI,acI,acI,acI,acI,acI,.str ⟨⟨[]⟩⟩,acI] 120 ⟨[.box (sx f)],[],1⟩ (acH Z.length) (acH Z.length)=some (.bp 1 0 0 Z.length,⟨[.box (sx f),.arr 0 15 (kM (List.replicate Z.length Ee)) true],[],1⟩):=by
   have h1:decide ((Z.length:Int)*((120:Nat):Int)≤(ch:Int))=true:=Zc (by have:(ch:Int)=1099511627776:=rfl;omega)
   have h2:decide ((0:Int)≤(Z.length:Int))=true:=Zc (by omega)
   have h3:decide ((Z.length:Int)≤(Z.length:Int))=true:=Zc (by omega)
   rw[←E7]
   simp only[mF,h1,h2,h3,ZD,Zr,ZX]
   rfl
  simp only[Pl,ah,go_sem,simprocAttr,h38,mk,List.isEmpty_nil]
  refine cr (fun i s'=>∃bl q es',PI f s Z fl i q bl∧(∀(j:Nat) (a:Ac),j<i→Z[j]?=some a→tC f s j a=false)∧s'=([(3,.ptr 0 0 0 0),(6,.aA 0 [] true),(7,.aA 0 [] true),(8,acI),(10,.ptr 3 0 0 0),(11,.mp 4),(45,.aA 14 (oU Z) fl),(46,acH Z.length),(47,acH i)],⟨bl,es',0⟩)) Z.length ?_ ?_
  ·refine aX (ml rfl rfl (by simp only[go_sem,simprocAttr]<;>rfl)) ?_
   rintro s' rfl
   refine⟨_,[],_,⟨rfl,rfl,⟨_,_,rfl,.inl ⟨rfl,rfl,rfl,rfl⟩⟩,rfl,rfl,rfl,by simp,fun k b x a h=>by simp at h⟩,fun j a h=>by omega,rfl⟩
  ·rintro i s' hi ⟨bl,q,es,hPI,hno,rfl⟩
   rcases Zl i Z.length with hlt|hge
   ·obtain⟨a,ha⟩:=bV hlt
    have hw:=bR hlt hZ'
    have hik:i<f.K.length:=by omega
    have hfm:=k4 i a ha
    have hPa:=hPI.app [.box (FU a)]
    obtain⟨x,y,g2,g2'⟩:=hPa.b2
    have g3:=hPa.b3
    have g4:=hPa.b4
    have EU:∀l:List aD,(bl++l)[4]?=bl[4]?:=fun l=>by rw[hPI.b4];exact fa hPI.b4
    have q4:∀l:List aD,(bl++l)[4]?=some (.map [(acH 1,.oC 39 [.ptr 2 0 0 0]),(acH 2,.oC 40 [.ptr 2 0 0 0]),(acI,.oC 41 [.ptr 2 0 0 0])]):=fun l=>fa hPI.b4
    rcases u3 a.kd with⟨e0,e1,e2⟩|⟨e0,e1,e2⟩|⟨e0,e1,e2⟩|⟨e0,e1,e2⟩
    ·have hn0:tC f s i a=false:=by unfold tC;rw[e1,e2];rfl
     have h41:=fun H=>WK (n+58) 2 i H
     simp only[go_sem,simprocAttr,aF,aB,aG,aE,az,av,ay,ax,bc,aS,bg,aU,aP,aT,aH,aQ,aJ,aI,aw,af,bK,bL,Za,Y9,Zk,hlt,ha,q4,e0,e1,e2,h41,hw]
     refine⟨trivial,aX (ml rfl rfl (by simp only[go_sem,simprocAttr]<;>rfl)) ?_⟩
     rintro s' rfl
     exact⟨_,q,_,hPa.next ha e1,grow i a ha hno hn0,rfl⟩
    ·obtain⟨H',h39,hok⟩:∃H',aa T (n+59) (.fn 39) [.ptr 2 0 0 0,acH i] ⟨bl++[.box (FU a)],es,0⟩=some (acH (bif pg f s i a then 15 else 0),H')∧(pg f s i a=false→∃bl' q' es',H'=⟨bl',es',0⟩∧PI f s Z fl (i+1) q' bl'):=by
      rcases g2' with⟨w1,w2,w3,w4⟩|⟨lb,fb,v,v',w1,w2,w3,w4⟩
      ·subst w2 w3 w4
       obtain⟨H',h1,h2⟩:=R4 (n+49) 2 i (bl++[.box (FU a)]) es f s Z fl (.bp 1 0 0 Z.length) a hbd.C g2 ha hik
       refine⟨H',h1,fun h=>?_⟩
       obtain⟨es',h3⟩:=h2 h
       exact⟨_,_,es',h3,PI.first hPa w1 ha e1 g2⟩
      ·subst w1 w2
       have lq:=hPa.lq
       have la:=mR f s Z i
       obtain⟨H',h1,h2⟩:=Sd (n+49) 2 lb fb v v' i (aW f s Z i) q (bl++[.box (FU a)]) es f s Z fl (.bp 1 0 0 Z.length) a hbd.C g2 ha hik w3 w4.1 (by omega) (by omega)
       refine⟨H',h1,fun h=>?_⟩
       obtain⟨es',h3⟩:=h2 h
       exact⟨_,_,es',h3,PI.more hPa hi ha e1 g2 w3 w4.1⟩
     cases hX:pg f s i a with
     |true=>
      rw[hX]at h39
      have hpl:=vM (f:=f) (s:=s) ha (by unfold tC;rw[e1];exact hX)
      simp only[Zr]at h39
      simp only[go_sem,simprocAttr,aF,aB,aG,aE,az,av,ay,ax,bc,aS,bg,aU,aP,aT,aH,aQ,aJ,aI,aw,af,bK,bL,Za,Y9,Zk,hlt,ha,q4,e0,e1,e2,h39,hw]
      rw[hpl]
      rfl
     |false=>
      rw[hX]at h39
      have hn0:tC f s i a=false:=by unfold tC;rw[e1];exact hX
      obtain⟨bl',q',es',rfl,hP'⟩:=hok hX
      simp only[Zu]at h39
      simp only[go_sem,simprocAttr,aF,aB,aG,aE,az,av,ay,ax,bc,aS,bg,aU,aP,aT,aH,aQ,aJ,aI,aw,af,bK,bL,Za,Y9,Zk,hlt,ha,q4,e0,e1,e2,h39,hw]
      refine⟨trivial,aX (ml rfl rfl (by simp only[go_sem,simprocAttr]<;>rfl)) ?_⟩
      rintro s' rfl
      exact⟨_,q',_,hP',grow i a ha hno hn0,rfl⟩
    ·have h40:=fun H hv=>Xy (n+52) 2 i H f s Z fl x y (.bp 1 0 0 Z.length) hv hik
     cases hX:Cw f s i with
     |true=>
      rw[hX]at h40
      have hpl:=vM (f:=f) (s:=s) ha (by unfold tC;rw[e1,e2];exact hX)
      simp only[Zr]at h40
      simp only[go_sem,simprocAttr,aF,aB,aG,aE,az,av,ay,ax,bc,aS,bg,aU,aP,aT,aH,aQ,aJ,aI,aw,af,bK,bL,Za,Y9,Zk,hlt,ha,q4,e0,e1,e2,h40,g2,hw]
      rw[hpl]
      rfl
     |false=>
      rw[hX]at h40
      have hn0:tC f s i a=false:=by unfold tC;rw[e1,e2];exact hX
      simp only[Zu]at h40
      simp only[go_sem,simprocAttr,aF,aB,aG,aE,az,av,ay,ax,bc,aS,bg,aU,aP,aT,aH,aQ,aJ,aI,aw,af,bK,bL,Za,Y9,Zk,hlt,ha,q4,e0,e1,e2,h40,g2,hw]
      refine⟨trivial,aX (ml rfl rfl (by simp only[go_sem,simprocAttr]<;>rfl)) ?_⟩
      rintro s' rfl
      exact⟨_,q,_,hPa.next ha e1,grow i a ha hno hn0,rfl⟩
    ·exfalso
     unfold CK at hfm
     rw[e0,e1,e2]at hfm
     cases hfm
   ·obtain rfl:i=Z.length:=by omega
    have hd:decide (Z.length<Z.length)=false:=Zf (by omega)
    have hpl:=GM hno
    have h3:=hPI.b3
    have h4:=hPI.b4
    obtain⟨x,y,g2,g3⟩:=hPI.b2
    rcases g3 with⟨w1,w2,w3,w4⟩|⟨lb,fb,v,v',w1,w2,w3,w4⟩
    ·subst w2 w3 w4
     have h42:=fun H=>UX (n+49) H
     simp only[go_sem,simprocAttr,aF,aB,aG,aE,az,av,ay,ax,bc,aS,bg,aU,aP,aT,aH,aQ,aJ,aI,aw,af,bK,bL,Za,Y9,Zk,hd,h3,g2,h42]
     have l4:=(Y8.1 h4).1
     refine cr (fun i s'=>∃es',cP bl.length es'∧s'=([(3,.ptr 0 0 0 0),(6,.aA 0 [] true),(7,.aA 0 [] true),(8,acI),(10,.ptr 3 0 0 0),(70,.aA 0 [] true),(71,acI),(72,acI)],⟨bl,es',0⟩)) 0 ?_ ?_
     ·refine aX (bC rfl rfl (by simp only[go_sem,simprocAttr]<;>rfl) (by simp[SV.refs,SV.refs.au];omega) rfl (aV _) (aV _)) ?_
      rintro s' ⟨es',h,rfl⟩
      exact⟨es',h,rfl⟩
     ·rintro i s' _ ⟨es',he',rfl⟩
      simp only[go_sem,simprocAttr,aF,aB,aG,aE,az,av,ay,ax,bc,aS,bg,aU,aP,aT,aH,aQ,aJ,aI,aw,af,bK,bL,Za,Y9,Zk,h3,g2]
      refine cr (fun i s'=>∃es',cP bl.length es'∧s'=([(3,.ptr 0 0 0 0),(10,.ptr 3 0 0 0),(87,.aA 0 [] true),(88,acI),(89,acI)],⟨bl,es',0⟩)) 0 ?_ ?_
      ·refine aX (bC rfl rfl (by simp only[go_sem,simprocAttr]<;>rfl) (by simp[SV.refs,SV.refs.au];omega) rfl (by first|exact he'|exact aV _) (by first|exact he'|exact aV _)) ?_
       rintro s' ⟨es',h,rfl⟩
       exact⟨es',h,rfl⟩
      ·rintro i s' _ ⟨es2,he2,rfl⟩
       simp only[go_sem,simprocAttr,aF,aB,aG,aE,az,av,ay,ax,bc,aS,bg,aU,aP,aT,aH,aQ,aJ,aI,aw,af,bK,bL,Za,Y9,Zk,h3,g2]
       have hf:=(rG (List.replicate Z.length Ee)).fz 0 ⟨bl,es++(es'++es2),0⟩ 5 0 Z.length 15 true (by rw[xG,List.length_replicate])
       have hR:gp f hbd s Z=List.replicate Z.length Ee:=by unfold gp eO;rw[w1];rfl
       simp only[hPI.b1,hf,hpl,w1,go_sem,simprocAttr,hR]
    ·obtain⟨w4,w5⟩:=w4
     have lq:=hPI.lq
     have la:=mR f s Z Z.length
     have l4:=(Y8.1 h4).1
     have lfb:=(Y8.1 w4).1
     subst w1 w2
     obtain⟨es1,h42⟩:=S6 bl fb v' lfb (Bv bl) (n+12) q es (by omega) (fun b hb=>by
      obtain⟨k,hk⟩:=ZH hb
      obtain⟨x,hx⟩:=bV (show k<(aW f s Z Z.length).length by rw[←lq];exact(Y8.1 hk).1)
      obtain⟨a,_,_,h2,_⟩:=oO (Zp _) hx
      have g:=hPI.bq k b x a hk hx h2
      exact⟨bA g w4 (fun h=>by cases h),_,g,by rw[yg g rfl];rfl⟩) w4
     rw[hPI.key]at h42
     obtain⟨sq,hsq⟩:∃sq,((fF (aW f s Z Z.length)).map fun k=>q.getD k 0)=sq:=⟨_,rfl⟩
     rw[hsq]at h42
     have hP0:=hPI.start g2 w3 w4 sq
     obtain⟨bS0,hbS⟩:∃b,bl.set fb (.arr v' 1 (pS sq) false)=b:=⟨_,rfl⟩
     unfold pH at h42
     rw[hbS]at h42 hP0
     obtain⟨N,hN⟩:∃N,bl.length=N:=⟨_,rfl⟩
     have hl0:bS0.length=N:=by rw[←hbS,Zv,hN]
     rw[hN]at hP0
     obtain⟨vv,g20,_⟩:=hP0.b2
     have g30:=hP0.b3
     have gf0:=hP0.bf
     simp only[go_sem,simprocAttr,aF,aB,aG,aE,az,av,ay,ax,bc,aS,bg,aU,aP,aT,aH,aQ,aJ,aI,aw,af,bK,bL,Za,Y9,Zk,hd,h3,g2,h42,g20,g30,gf0,hl0]
     refine cr (fun i s'=>∃bl' es',PJ f s Z fl (aW f s Z Z.length) q sq lb fb v' N (((fF (aW f s Z Z.length)).take i).foldl (fe f hbd s Z (aW f s Z Z.length)) (oP (aW f s Z Z.length) Z.length)) bl'∧cP N es'∧s'=([(3,.ptr 0 0 0 0),(6,.aA 0 [] true),(7,.aA 0 [] true),(8,acI),(10,.ptr 3 0 0 0),(70,.bp fb v' 0 q.length),(71,acH q.length),(72,acH i)],⟨bl',es',0⟩)) q.length ?_ ?_
     ·refine aX (bC rfl rfl (by simp only[go_sem,simprocAttr]<;>rfl) (by simp[SV.refs,SV.refs.au];omega) hl0 (aV _) (aV _)) ?_
      rintro s' ⟨es',h,rfl⟩
      exact⟨_,es',hP0,h,rfl⟩
     ·rintro i s' hi ⟨bl',es',hP,he',rfl⟩
      have hl:=hP.len
      have lsq:sq.length=q.length:=by rw[←hsq,ab9,iL,lq]
      have gbf:=hP.bf
      have gb3:=hP.b3
      obtain⟨vw,gb2,_⟩:=hP.b2
      rcases Zl i q.length with hlt|hge
      ·obtain⟨k,hk⟩:=bV (show i<(fF (aW f s Z Z.length)).length by rw[iL];omega)
       have hkl:=uD (Zj hk)
       obtain⟨x,hx⟩:=bV hkl
       obtain⟨xb,hxb⟩:=bV (show k<q.length by omega)
       obtain⟨a,n1,_,n2,_⟩:=oO (Zp _) hx
       have gi:sq[i]?=some xb:=by rw[←hsq,aat,hk];simp[List.getD,hxb]
       have hw:=bR hlt (show q.length≤maxLen by omega)
       have hap:∀l:List aD,(bl'++l)[fb]?=bl'[fb]?:=fun l=>by rw[gbf];exact fa gbf
       have hap3:∀l:List aD,(bl'++l)[3]?=some (.box [.ptr 2 0 0 0]):=fun l=>fa gb3
       simp only[go_sem,simprocAttr,aF,aB,aG,aE,az,av,ay,ax,bc,aS,bg,aU,aP,aT,aH,aQ,aJ,aI,aw,af,bK,bL,Za,Y9,Zk,hlt,gbf,gi,hl,sR hl,gq hl,xB hl,ng hl,mO hl,hap3,Se]
       obtain⟨z,_,gxb⟩:=hP.bq k xb x a hxb hx n2
       have lxb:xb<N:=by rw[←hl];exact(Y8.1 gxb).1
       have hL0:(((fF (aW f s Z Z.length)).take i).foldl (fe f hbd s Z (aW f s Z Z.length)) (oP (aW f s Z Z.length) Z.length)).L.length≤32+32*32:=by
        refine ZN (su f hbd s Z (aW f s Z Z.length) _ _) ?_
        have e1:((fF (aW f s Z Z.length)).take i).length≤32:=by rw[Z8];omega
        have e2:=ach e1 (show Z.length≤32 by omega)
        have e3:(oP (aW f s Z Z.length) Z.length).L.length=(aW f s Z Z.length).length:=rfl
        omega
       refine zu (PZ (n+57) N f s Z fl _ _ hZ' (fun j b=>PJ f s Z fl (aW f s Z Z.length) q sq lb fb v' N (jC f hbd s Z x x.n.toNat a (((fF (aW f s Z Z.length)).take i).foldl (fe f hbd s Z (aW f s Z Z.length)) (oP (aW f s Z Z.length) Z.length)) j) b∧j≤32) ?_ ?_ ?_ bl' _ (fM he' (by omega)) ⟨hP,by omega⟩) ?_
       ·rintro j b ⟨hJ,_⟩
        obtain⟨v2,g,_⟩:=hJ.b2
        exact⟨hJ.len,by omega,_,_,_,g⟩
       ·rintro j b c ⟨hJ,_⟩ hc hkd
        have:=(Y8.1 hc).1
        refine⟨?_,by omega⟩
        show PJ _ _ _ _ _ _ _ _ _ _ _ (gM _ _ _ _ _ _ _ _ _) _
        rw[Ah _ _ _ _ _ _ _ _ hc hkd]
        exact hJ
       ·rintro j b c X es2 he2 ⟨hJ,hj⟩ hc hkd
        have:=(Y8.1 hc).1
        have hLL:=sQ f hbd s Z x x.n.toNat a (((fF (aW f s Z Z.length)).take i).foldl (fe f hbd s Z (aW f s Z Z.length)) (oP (aW f s Z Z.length) Z.length)) j
        obtain⟨b3,es3,k1,k2,k3⟩:=KO (n+26) N {env:=[(77,.fn 81 [.ptr (N+1) 0 0 0]),(76,.ptr 2 0 0 0),(16,.ptr N 0 0 0),(75,.ptr xb 0 0 0),(74,.ptr fb v' i 0),(73,.bool true),(3,.ptr 0 0 0 0),(6,.aA 0 [] true),(7,.aA 0 [] true),(8,acI),(10,.ptr 3 0 0 0),(70,.bp fb v' 0 q.length),(71,acH q.length),(72,acH i)],ps:=[78],assign:=.ops [OM 17 78],body:=.block 5 (.ops [OL 79 10,OM 80 17,OL 81 16,OC 82 46 [79,80,81]])} rfl rfl rfl rfl rfl f hbd s Z fl _ q sq lb fb v' _ b hJ hPI.nd (iV f s Z Z.length) (by omega) (by omega) hxb hx n2 hc hkd X es2 he2
        exact⟨b3,es3,⟨k1,by omega⟩,k2,k3⟩
       ·rintro r ⟨b2,es2,⟨hP2,_⟩,he2,rfl⟩
        have hl2:=hP2.len
        have d23:decide (N+2<N+3)=true:=Zc (by omega)
        simp only[Y9,Zw,Zx,hl,hl2,d23,go_sem,simprocAttr,gq hl2,ng hl2,mO hl2,hw]
        have hst:((fF (aW f s Z Z.length)).take (i+1)).foldl (fe f hbd s Z (aW f s Z Z.length)) (oP (aW f s Z Z.length) Z.length)=jC f hbd s Z x x.n.toNat a (((fF (aW f s Z Z.length)).take i).foldl (fe f hbd s Z (aW f s Z Z.length)) (oP (aW f s Z Z.length) Z.length)) Z.length:=by rw[xp _ _ hk,BJ hx n2]
        refine⟨hlt,aX (zQ rfl rfl (by simp only[go_sem,simprocAttr]<;>rfl) (by simp[SV.refs,SV.refs.au];omega) hl2 (N:=N) he2 (aV _)) ?_⟩
        rintro s' ⟨es',h,rfl⟩
        exact⟨b2,es',by rw[hst];exact hP2,h,rfl⟩
      ·obtain rfl:i=q.length:=by omega
       have hd2:decide (q.length<q.length)=false:=Zf (by omega)
       have htk:(fF (aW f s Z Z.length)).take q.length=fF (aW f s Z Z.length):=ZM (by rw[iL];omega)
       rw[htk]at hP gb2
       have hP:PJ f s Z fl (aW f s Z Z.length) q sq lb fb v' N ⟨(eO f hbd s Z).L,(eO f hbd s Z).R,(eO f hbd s Z).Q⟩ bl':=hP
       simp only[go_sem,simprocAttr,aF,aB,aG,aE,az,av,ay,ax,bc,aS,bg,aU,aP,aT,aH,aQ,aJ,aI,aw,af,bK,bL,Za,Y9,Zk,hd2,gb3,gb2,gbf,hl]
       refine cr (fun i s'=>∃bl2 es2,PJ f s Z fl (aW f s Z Z.length) q sq lb fb v' N ⟨(eO f hbd s Z).L,((fF (aW f s Z Z.length)).take i).foldl (iX f hbd (eO f hbd s Z) (aW f s Z Z.length)) (eO f hbd s Z).R,(eO f hbd s Z).Q⟩ bl2∧cP N es2∧s'=([(3,.ptr 0 0 0 0),(10,.ptr 3 0 0 0),(87,.bp fb v' 0 q.length),(88,acH q.length),(89,acH i)],⟨bl2,es2,0⟩)) q.length ?_ ?_
       ·refine aX (bC rfl rfl (by simp only[go_sem,simprocAttr]<;>rfl) (by simp[SV.refs,SV.refs.au];omega) hl (by first|exact he'|exact aV _) (aV _)) ?_
        rintro s' ⟨es',h,rfl⟩
        exact⟨bl',es',hP,h,rfl⟩
       ·have hLN:(eO f hbd s Z).L.length≤maxLen:=by
         refine ZN (su f hbd s Z (aW f s Z Z.length) _ _) ?_
         have e2:=ach (show(fF (aW f s Z Z.length)).length≤32 by rw[iL];omega) (show Z.length≤32 by omega)
         have e3:(oP (aW f s Z Z.length) Z.length).L.length=(aW f s Z Z.length).length:=rfl
         have:=mx
         refine ZN (show _≤2000 by omega) (by decide)
        rintro i s' hi ⟨bl2,es2,hP2,he2,rfl⟩
        have hl2:=hP2.len
        have gcf:=hP2.bf
        have gc3:=hP2.b3
        have gc0:=hP2.b0
        have gc1:=hP2.b1
        obtain⟨vx,gc2,gcl⟩:=hP2.b2
        rcases Zl i q.length with hlt|hge
        ·obtain⟨k,hk⟩:=bV (show i<(fF (aW f s Z Z.length)).length by rw[iL];omega)
         have hkl:=uD (Zj hk)
         obtain⟨x,hx⟩:=bV hkl
         obtain⟨xb,hxb⟩:=bV (show k<q.length by omega)
         obtain⟨a,n1,n1',n2,_⟩:=oO (Zp _) hx
         have gi:sq[i]?=some xb:=by rw[←hsq,aat,hk];simp[List.getD,hxb]
         have hw:=bR hlt (show q.length≤maxLen by omega)
         obtain⟨z,hz,gxb⟩:=hP2.bq k xb x a hxb hx n2
         have hfs:=xp (iX f hbd (eO f hbd s Z) (aW f s Z Z.length)) (eO f hbd s Z).R hk
         rw[Cq (st:=eO f hbd s Z) hx hz]at hfs
         have l0:=(Y8.1 gc0).1
         cases hz0:decide (z.1<0)with
         |true=>
          rw[hz0]at hfs
          simp only[Zr]at hfs
          simp only[go_sem,simprocAttr,aF,aB,aG,aE,az,av,ay,ax,bc,aS,bg,aU,aP,aT,aH,aQ,aJ,aI,aw,af,bK,bL,Za,Y9,Zk,hlt,gcf,gi,hl2,gxb,hz0,hw]
          refine⟨trivial,aX (bC rfl rfl (by simp only[go_sem,simprocAttr]<;>rfl) (by simp[SV.refs,SV.refs.au];omega) hl2 he2 (by first|exact he'|exact aV _)) ?_⟩
          rintro s' ⟨es',h,rfl⟩
          exact⟨bl2,es',by rw[hfs];exact hP2,h,rfl⟩
         |false=>
          rw[hz0]at hfs
          have hfz:=fun H d=>(qu (eO f hbd s Z).L).fz 0 H 6 d (eO f hbd s Z).L.length 4 false A.dq
          obtain⟨e,hrc⟩:=Ic (lI f hbd) (eO f hbd s Z).L z.1 x.n.toNat
          have h47:=A.WS (n+41) ⟨[],[],0⟩ (lI f hbd) (eO f hbd s Z).L false z.1 x.n.toNat hLN
          rw[hrc]at h47
          have d0:decide (lb<0)=false:=rfl
          cases hrv:sT (lI f hbd) (eO f hbd s Z).L z.1 x.n.toNat with
          |false=>
           rw[hrv]at h47 hfs
           simp only[lI,A.vB,A.zG]at h47
           simp only[Zu]at hfs
           simp only[go_sem,simprocAttr,aF,aB,aG,aE,az,av,ay,ax,bc,aS,bg,aU,aP,aT,aH,aQ,aJ,aI,aw,af,bK,bL,Za,Y9,Zk,hlt,gcf,gi,hl2,gxb,hz0,hw,gc0,gc3,gc2,gcl,hfz,d0,h47]
           refine⟨trivial,aX (bC rfl rfl (by simp only[go_sem,simprocAttr]<;>rfl) (by simp[SV.refs,SV.refs.au];omega) hl2 he2 (by first|exact he'|exact aV _)) ?_⟩
           rintro s' ⟨es',h,rfl⟩
           exact⟨bl2,es',by rw[hfs];exact hP2,h,rfl⟩
          |true=>
           rw[hrv]at h47 hfs
           simp only[lI,A.vB,A.zG]at h47
           simp only[Zr,Zu]at hfs
           obtain⟨Rx,hRx⟩:∃Rx,((fF (aW f s Z Z.length)).take i).foldl (iX f hbd (eO f hbd s Z) (aW f s Z Z.length)) (eO f hbd s Z).R=Rx:=⟨_,rfl⟩
           rw[hRx]at hfs hP2 gc1 gc2
           have lRx:x.n.toNat<Rx.length:=by rw[show Rx.length=Z.length from hP2.lR];exact n1
           obtain⟨row,hrow⟩:=bV lRx
           have hrw:(kM Rx).set x.n.toNat [.bool true,.bool false,acI,acI,acI,acI,acI,acI,acI,acI,acI,acI,acI,.str ⟨⟨[]⟩⟩,acH z.2]=kM (Rx.set x.n.toNat (Gb z.2)):=xh Rx x.n.toNat (Gb z.2)
           have hP3:=hP2.Up x.n.toNat (Gb z.2)
           obtain⟨bl3,hb3⟩:∃b,bl2.set 1 (.arr 0 15 (kM (Rx.set x.n.toNat (Gb z.2))) true)=b:=⟨_,rfl⟩
           rw[hb3]at hP3
           have hl3:=hP3.len
           have d1:decide (1<N)=true:=Zc (by omega)
           simp only[go_sem,simprocAttr,aF,aB,aG,aE,az,av,ay,ax,bc,aS,bg,aU,aP,aT,aH,aQ,aJ,aI,aw,af,bK,bL,Za,Y9,Zk,hlt,gcf,gi,hl2,gxb,hz0,hw,gc0,gc3,gc2,gcl,gc1,lRx,hrow,hrw,hb3,hl3,hfz,d0,d1,h47,Zp,aaq]
           refine⟨trivial,aX (bC rfl rfl (by simp only[go_sem,simprocAttr]<;>rfl) (by simp[SV.refs,SV.refs.au];omega) hl3 he2 (by first|exact he'|exact aV _)) ?_⟩
           rintro s' ⟨es',h,rfl⟩
           exact⟨bl3,es',by rw[hfs];exact hP3,h,rfl⟩
        ·obtain rfl:i=q.length:=by omega
         rw[htk]at hP2 gc1 gc2
         have hF:((fF (aW f s Z Z.length)).foldl (iX f hbd (eO f hbd s Z) (aW f s Z Z.length)) (eO f hbd s Z).R)=gp f hbd s Z:=rfl
         rw[hF]at gc1 gc2
         have hfz1:=fun H=>(rG (gp f hbd s Z)).fz 0 H 5 0 (gp f hbd s Z).length 15 true xG
         have hfz2:=fun H=>(qu (eO f hbd s Z).L).fz 0 H 5 vx (eO f hbd s Z).L.length 4 false A.dq
         have hne:(aW f s Z Z.length).isEmpty=false:=by
          cases h:aW f s Z Z.length with
          |nil=>exact absurd h w5
          |cons _ _=>rfl
         have d0:decide (lb<0)=false:=rfl
         simp only[go_sem,simprocAttr,aF,aB,aG,aE,az,av,ay,ax,bc,aS,bg,aU,aP,aT,aH,aQ,aJ,aI,aw,af,bK,bL,Za,Y9,Zk,hd2,gc3,gc2,hl2,gc1,gcl,hfz1,hfz2,hpl,hne,d0]

def kA(ar:List A.Em)(k:Nat):Int:=match ar[k]? with|some x=>x.y|none=>0
structure Sg where
 L:List A.Em
 R:List Rs
 P:List Nat
def nm(f:Fi)(hb:Bd f)(s:Int)(Z:List Ac)(x:A.Em)(k j:Nat)(a:Ac)(st:Sg)(i:Nat):Sg:=match Z[i]? with
 |some b=>bif decide (b.kd=2)&&decide (nG (lI f hb) st.L (qE f s i b)=some k)then
   (bif decide (a.d=(i:Int))then⟨st.L++[vD x i],st.R.set i (oI a (qx (dE f i).1 (dE f i).2 s x.x)),st.P.set j st.L.length⟩
    else⟨st.L,st.R.set i (oI a (qx (dE f i).1 (dE f i).2 s x.x)),st.P⟩)else st
 |none=>st
def qW(f:Fi)(hb:Bd f)(s:Int)(Z:List Ac)(x:A.Em)(k j:Nat)(a:Ac)(st:Sg):Nat→Sg
 |0=>st
 |i+1=>nm f hb s Z x k j a (qW f hb s Z x k j a st i) i
def Ep(f:Fi)(hb:Bd f)(s:Int)(Z:List Ac)(ar:List A.Em)(st:Sg)(k:Nat):Sg:=match ar[k]? with
 |some x=>match Z[x.n.toNat]? with
  |some a=>qW f hb s Z x k x.n.toNat a st Z.length
  |none=>st
 |none=>st
def g0(ar:List A.Em)(n:Nat):Sg:=⟨ar,List.replicate n Ee,List.replicate n 0⟩
structure PG(n:Nat)(ar:List A.Em)(st:Sg):Prop where
 lR:st.R.length=n
 lP:st.P.length=n
 pre:∀(i:Nat) (x:A.Em),ar[i]?=some x→st.L[i]?=some x
 rg:∀y∈st.L,0≤y.n∧y.n<(n:Int)
theorem PG.step{Z:List Ac}{ar:List A.Em}{st:Sg}(h:PG Z.length ar st)(f:Fi)(hb:Bd f)(s:Int)(x:A.Em)(k j:Nat)(a:Ac)(i:Nat):PG Z.length ar (nm f hb s Z x k j a st i)∧(nm f hb s Z x k j a st i).L.length≤st.L.length+1:=by
 unfold nm
 split
 ·rename_i b hib
  cases hc:(decide (b.kd=2)&&decide (nG (lI f hb) st.L (qE f s i b)=some k))with
  |false=>simp only[Zu];exact⟨h,by omega⟩
  |true=>
   cases decide (a.d=(i:Int))with
   |false=>simp only[Zr,Zu];exact⟨⟨by simpa using h.lR,h.lP,h.pre,h.rg⟩,by omega⟩
   |true=>
    simp only[Zr]
    exact⟨⟨by simpa using h.lR,by simpa using h.lP,fun i x hx=>by
     have:=h.pre i x hx
     show(st.L++_)[i]?=_
     rw[Zm (Y8.1 this).1];exact this,fun y hy=>by
     rcases Z1.1 hy with hy|hy
     ·exact h.rg y hy
     ·simp only[aab]at hy
      subst hy
      have:=(Y8.1 hib).1
      show 0≤((i:Nat):Int)∧((i:Nat):Int)<(Z.length:Int)
      omega⟩,by simp⟩
 ·exact⟨h,by omega⟩
theorem PG.loop{Z:List Ac}{ar:List A.Em}{st:Sg}(h:PG Z.length ar st)(f:Fi)(hb:Bd f)(s:Int)(x:A.Em)(k j:Nat)(a:Ac):∀i,PG Z.length ar (qW f hb s Z x k j a st i)∧(qW f hb s Z x k j a st i).L.length≤st.L.length+i
 |0=>⟨h,Zp _⟩
 |i+1=>by
  obtain⟨h1,h2⟩:=PG.loop h f hb s x k j a i
  obtain⟨h3,h4⟩:=h1.step f hb s x k j a i
  exact⟨h3,by show(nm _ _ _ _ _ _ _ _ _ _).L.length≤_;omega⟩
theorem Jp{z x:A.Em}(h:Ia z x=true):z.n=x.n:=by
 unfold Ia at h
 simp only[Zh,Ze]at h
 exact h.1
theorem Ew(x:A.Em):Ia x x=true:=by simp[Ia]
theorem zR{f:Fi}{s:Int}{Z:List Ac}{L:List A.Em}(hpre:∀(i:Nat) (x:A.Em),(aW f s Z Z.length)[i]?=some x→L[i]?=some x)
 (hack:∀(q:Nat) (y:A.Em),(aW f s Z Z.length).length≤q→L[q]?=some y→∃b,Z[y.n.toNat]?=some b∧decide (b.kd=2)=true)
 {k:Nat} {x:A.Em} (hx:(aW f s Z Z.length)[k]?=some x) (o:Option Nat) (ho:∀q,o=some q→q<L.length):CP L o x=decide (o=some k):=by
 cases o with
 |none=>rfl
 |some q=>
  obtain⟨y,hy⟩:=bV (ho q rfl)
  unfold CP
  simp only[hy]
  by_cases hq:q=k
  ·subst hq
   rw[hpre q x hx]at hy
   cases hy
   rw[Ew];exact(Zc rfl).symm
  ·rw[Zf (fun h=>hq (by injection h))]
   cases he:Ia y x with
   |false=>rfl
   |true=>
    exfalso
    have hn:=Jp he
    rcases Zl q (aW f s Z Z.length).length with h1|h1
    ·obtain⟨x',hx'⟩:=bV h1
     have hxy:y=x':=by
      have h2:=hpre q x' hx'
      rw[hy]at h2
      exact aaV h2
     exact hq (iV f s Z Z.length q k x' x hx' hx (by rw[←hxy,hn]))
    ·obtain⟨b,hb1,hb2⟩:=hack q y h1 hy
     obtain⟨j,a,_,ha,hk1,hxe⟩:=ep f s Z Z.length k x hx
     have hj:x.n.toNat=j:=by rw[hxe];show((j:Nat):Int).toNat=j;omega
     rw[hn,hj,ha]at hb1
     cases hb1
     rw[Ze]at hk1 hb2
     omega
structure EQ(ar:List A.Em)(Z:List Ac)(st:St)(t:Sg):Prop where
 L:st.L=t.L
 R:st.R=t.R
 lR:st.R.length=Z.length
 lQ:st.Q.length=Z.length
 lP:t.P.length=Z.length
 pre:∀(i:Nat) (x:A.Em),ar[i]?=some x→st.L[i]?=some x
 Ek:∀(q:Nat) (y:A.Em),ar.length≤q→st.L[q]?=some y→∃b,Z[y.n.toNat]?=some b∧decide (b.kd=2)=true
 qp:∀(j:Nat) (z:Int×Int) (p:Nat),st.Q[j]?=some z→t.P[j]?=some p→(p=0∧z.1= -1)∨(p≠0∧z.1=p)
theorem EQ.step{f:Fi}{hb:Bd f}{s:Int}{Z:List Ac}{st:St}{t:Sg}(h:EQ (aW f s Z Z.length) Z st t){k:Nat}{x:A.Em}{a:Ac}(hx:(aW f s Z Z.length)[k]?=some x)(ha:Z[x.n.toNat]?=some a)(i:Nat) :
 EQ (aW f s Z Z.length) Z (gM f hb s Z x x.n.toNat a st i) (nm f hb s Z x k x.n.toNat a t i):=by
 unfold gM nm
 cases hz:Z[i]? with
 |none=>exact h
 |some b=>
  have hh:=zR h.pre h.Ek hx (nG (lI f hb) st.L (qE f s i b)) (fun q hq=>tk hq)
  simp only
  rw[hh,←h.L,←h.R]
  cases hc:(decide (b.kd=2)&&decide (nG (lI f hb) st.L (qE f s i b)=some k))with
  |false=>simp only[Zu];exact h
  |true=>
   have hkd:decide (b.kd=2)=true:=(abF.1 hc).1
   cases hdi:decide (a.d=(i:Int))with
   |false=>
    simp only[Zr,Zu]
    exact⟨rfl,rfl,by simpa using h.lR,h.lQ,h.lP,h.pre,h.Ek,h.qp⟩
   |true=>
    simp only[Zr]
    have hn:=(Y8.1 ha).1
    have hL0:0<st.L.length:=Nat.lt_of_le_of_lt (abc _) (Y8.1 (h.pre k x hx)).1
    have hLa:(aW f s Z Z.length).length≤st.L.length:=by
     rcases Zl st.L.length (aW f s Z Z.length).length with h1|h1
     ·obtain⟨x',hx'⟩:=bV h1
      have:=(Y8.1 (h.pre _ x' hx')).1
      omega
     ·exact h1
    refine⟨rfl,rfl,by simpa using h.lR,by simpa using h.lQ,by simpa using h.lP,fun j y hy=>?_,fun q y hq hy=>?_,fun j z p hz1 hp1=>?_⟩
    ·have:=h.pre j y hy
     show(st.L++_)[j]?=_
     rw[Zm (Y8.1 this).1];exact this
    ·rcases Zl q st.L.length with h1|h1
     ·have hy2:(st.L++[vD x i])[q]?=some y:=hy
      rw[Zm h1]at hy2
      exact h.Ek q y hq hy2
     ·have hy2:(st.L++[vD x i])[q]?=some y:=hy
      rw[ZR h1]at hy2
      have hm:=Zj hy2
      simp only[aab]at hm
      subst hm
      exact⟨b,by show Z[((i:Nat):Int).toNat]?=_;rw[ZX];exact hz,hkd⟩
    ·by_cases hj:j=x.n.toNat
     ·subst hj
      rw[Zz (by rw[h.lQ];exact hn)]at hz1
      rw[Zz (by rw[h.lP];exact hn)]at hp1
      cases hz1;cases hp1
      exact .inr ⟨by omega,rfl⟩
     ·rw[Zg (Ne.symm hj)]at hz1 hp1
      exact h.qp j z p hz1 hp1
theorem EQ.loop{f:Fi}{hb:Bd f}{s:Int}{Z:List Ac}{st:St}{t:Sg}(h:EQ (aW f s Z Z.length) Z st t){k:Nat}{x:A.Em}{a:Ac}(hx:(aW f s Z Z.length)[k]?=some x)(ha:Z[x.n.toNat]?=some a):∀i,
 EQ (aW f s Z Z.length) Z (jC f hb s Z x x.n.toNat a st i) (qW f hb s Z x k x.n.toNat a t i)
 |0=>h
 |i+1=>(EQ.loop h hx ha i).step hx ha i
theorem EQ.fold{f:Fi}{hb:Bd f}{s:Int}{Z:List Ac}:∀(l:List Nat) {st:St} {t:Sg},EQ (aW f s Z Z.length) Z st t→EQ (aW f s Z Z.length) Z (l.foldl (fe f hb s Z (aW f s Z Z.length)) st) (l.foldl (Ep f hb s Z (aW f s Z Z.length)) t)
 |[],_,_,h=>h
 |k::l,st,t,h=>by
  rw[aad,aad]
  refine EQ.fold l ?_
  unfold fe Ep
  cases hx:(aW f s Z Z.length)[k]? with
  |none=>exact h
  |some x=>
   simp only
   cases ha:Z[x.n.toNat]? with
   |none=>exact h
   |some a=>exact h.loop hx ha Z.length
theorem EQ.zero(ar:List A.Em)(Z:List Ac):EQ ar Z (oP ar Z.length) (g0 ar Z.length):=
 ⟨rfl,rfl,by simp[oP],by simp[oP],by simp[g0],fun i x h=>h,fun q y hq hy=>by
  have:=(Y8.1 (show ar[q]?=some y from hy)).1
  omega,fun j z p h1 h2=>by
  have e1:=Zj h1
  have e2:=Zj h2
  simp only[oP,abS]at e1
  simp only[g0,abS]at e2
  rw[e1.2,e2.2]
  exact .inl ⟨rfl,rfl⟩⟩
namespace A
def zM(s:Sn)(L:List Em)(y:Em)(q:Nat)(x:Em):Bool:=decide (x.c=y.c)&&!decide (x.x<y.x)&&!decide (y.y<x.x)&&gO s L q x y.n
def Gv(s:Sn)(L:List Em)(y:Em)(q b:Nat):Prop:=b<q∧∃x,L[b]?=some x∧zM s L y b x=true∧∀q' x',q'<q→L[q']?=some x'→zM s L y q' x'=true→x.x<x'.x∨x.x=x'.x∧b≤q'
theorem pV(s:Sn)(L:List Em)(y:Em):∀q,(∃b,jH s L y q=some b∧Gv s L y q b)∨(jH s L y q=none∧∀q' x',q'<q→L[q']?=some x'→zM s L y q' x'=false)
 |0=>.inr ⟨rfl,fun q' x' h=>by omega⟩
 |q+1=>by
  have ih:=pV s L y q
  cases hx:L[q]? with
  |none=>
   have he:jH s L y (q+1)=jH s L y q:=by simp only[jH,hx]
   rw[he]
   rcases ih with⟨b,h1,h2,x,h3,h4,h5⟩|⟨h1,h2⟩
   ·refine .inl ⟨b,h1,by omega,x,h3,h4,fun q' x' hq hx' hc=>?_⟩
    rcases Zl q' q with h|h
    ·exact h5 q' x' h hx' hc
    ·obtain rfl:q'=q:=by omega
     rw[hx]at hx';cases hx'
   ·refine .inr ⟨h1,fun q' x' hq hx'=>?_⟩
    rcases Zl q' q with h|h
    ·exact h2 q' x' h hx'
    ·obtain rfl:q'=q:=by omega
     rw[hx]at hx';cases hx'
  |some x=>
   have he:jH s L y (q+1)=bif yX L y (jH s L y q) x&&gO s L q x y.n then some q else jH s L y q:=by simp only[jH,hx]
   have hcn:zM s L y q x=(decide (x.c=y.c)&&!decide (x.x<y.x)&&!decide (y.y<x.x)&&gO s L q x y.n):=rfl
   rw[he]
   rcases ih with⟨b,h1,h2,z,h3,h4,h5⟩|⟨h1,h2⟩
   ·have hh:(yX L y (jH s L y q) x&&gO s L q x y.n)=(zM s L y q x&&!decide (z.x≤x.x)):=by
     rw[h1,hcn]
     simp only[yX,h3]
     cases decide (x.c=y.c)<;>cases decide (x.x<y.x)<;>cases decide (y.y<x.x)<;>cases decide (z.x≤x.x)<;>cases gO s L q x y.n<;>rfl
    rw[hh]
    cases hc:zM s L y q x&&!decide (z.x≤x.x)with
    |true=>
     simp only[Zh,ZK,Zi]at hc
     refine .inl ⟨q,rfl,by omega,x,hx,hc.1,fun q' x' hq hx' hc'=>?_⟩
     rcases Zl q' q with h|h
     ·have:=h5 q' x' h hx' hc'
      left;omega
     ·obtain rfl:q'=q:=by omega
      rw[hx]at hx';cases hx'
      exact .inr ⟨rfl,Zp _⟩
    |false=>
     refine .inl ⟨b,h1,by omega,z,h3,h4,fun q' x' hq hx' hc'=>?_⟩
     rcases Zl q' q with h|h
     ·exact h5 q' x' h hx' hc'
     ·obtain rfl:q'=q:=by omega
      rw[hx]at hx';cases hx'
      rw[hc',ZP]at hc
      simp only[abv,Ze]at hc
      omega
   ·have hh:(yX L y (jH s L y q) x&&gO s L q x y.n)=zM s L y q x:=by
     rw[h1,hcn]
     simp only[yX]
     cases decide (x.c=y.c)<;>cases decide (x.x<y.x)<;>cases decide (y.y<x.x)<;>cases gO s L q x y.n<;>rfl
    rw[hh]
    cases hc:zM s L y q x with
    |true=>
     refine .inl ⟨q,rfl,by omega,x,hx,hc,fun q' x' hq hx' hc'=>?_⟩
     rcases Zl q' q with h|h
     ·rw[h2 q' x' h hx']at hc';cases hc'
     ·obtain rfl:q'=q:=by omega
      rw[hx]at hx';cases hx'
      exact .inr ⟨rfl,Zp _⟩
    |false=>
     refine .inr ⟨h1,fun q' x' hq hx'=>?_⟩
     rcases Zl q' q with h|h
     ·exact h2 q' x' h hx'
     ·obtain rfl:q'=q:=by omega
      rw[hx]at hx';cases hx'
      exact hc
theorem ph{s:Sn}{L:List Em}{y:Em}{q b:Nat}(h:jH s L y q=some b):Gv s L y q b:=by
 rcases pV s L y q with⟨b',h1,h2⟩|⟨h1,_⟩
 ·rw[h1]at h;cases h;exact h2
 ·rw[h1]at h;cases h
theorem zZ{s:Sn}{L:List Em}{y:Em}{q b:Nat}(h:Gv s L y q b):jH s L y q=some b:=by
 obtain⟨h0,x,h3,h4,h5⟩:=h
 rcases pV s L y q with⟨b',h1,h2,x',h6,h7,h8⟩|⟨_,h2⟩
 ·have a1:=h5 b' x' h2 h6 h7
  have a2:=h8 b x h0 h3 h4
  rw[h1,show b'=b by omega]
 ·rw[h2 b x h0 h3]at h4;cases h4
theorem po{g:Em→Int}(a:Em)(i:Nat)(k:Int)(L E:List Em):∀q,q≤L.length→ju g a i k (L++E) q=ju g a i k L q
 |0,_=>rfl
 |q+1,hq=>by
  have ih:=po (g:=g) a i k L E q (by omega)
  simp only[ju,Zm (show q<L.length by omega),ih]
theorem og{g:Em→Int}(h:∀x,0≤g x∧g x≤68719476736)(a:Em)(i:Nat)(k:Int)(L E:List Em):∀r,ju g a i k L L.length≤ju g a i k (L++E) (L.length+r)
 |0=>by rw[aaN,po a i k L E _ (Zp _)];exact abk _
 |r+1=>by
  have ih:=og h a i k L E r
  rw[←Zk,ju]
  cases(L++E)[L.length+r]? with
  |none=>exact ih
  |some x=>
   have:=h x
   simp only
   cases mT a i k (L.length+r) x<;>simp only[Zr,Zu]<;>omega
theorem ot{g:Em→Int}(a:Em)(i:Nat)(k:Int)(L E:List Em)(hE:∀x∈E,uy a x=false):∀r,ju g a i k (L++E) (L.length+r)=ju g a i k L L.length
 |0=>by rw[aaN,po a i k L E _ (Zp _)]
 |r+1=>by
  have ih:=ot (g:=g) a i k L E hE r
  rw[←Zk,ju]
  cases hx:(L++E)[L.length+r]? with
  |none=>exact ih
  |some x=>
   have hm:x∈E:=by
    rw[ZR (by omega)]at hx
    exact Zj hx
   have:mT a i k (L.length+r) x=false:=by simp only[mT,hE x hm,Z2]
   simp only[this,Zu,Int.add_zero]
   exact ih
theorem z5{s:Sn}(h:fT s=true){L E:List Em}(hL:(L++E).length≤1000){i:Nat}{a:Em}{k:Int}(hr:gO s (L++E) i a k=true):gO s L i a k=true:=by
 unfold gO at hr⊢
 simp only[Zh]at hr⊢
 refine⟨?_,?_⟩
 ·have:=hr.1
  unfold jW at this⊢
  rw[List.any_append]at this
  simp only[ZK,aaw]at this⊢
  exact this.1
 ·have:=hr.2
  unfold Cg at this⊢
  simp only[Ze]at this⊢
  rw[kN h hL]at this
  rw[kN h (L:=L) (by rw[Y9]at hL;omega)]
  have h2:=og (g:=fun x=>sig s x k) (fun x=>xZ h x k) a i k L E E.length
  rw[Y9]at this
  omega
theorem A9{s:Sn}(h:fT s=true){L E:List Em}(hL:(L++E).length≤1000){i:Nat}{a:Em}{k:Int}(hE:∀x∈E,uy a x=false):gO s (L++E) i a k=gO s L i a k:=by
 unfold gO
 have h1:jW (L++E) a k=jW L a k:=by
  unfold jW
  rw[List.any_append]
  have:(E.any fun b=>decide (b.n=k)&&uy b a)=false:=by
   rw[aau]
   intro x hx
   rw[Eu,hE x hx];simp
  rw[this,aa3]
 have h2:inter s (L++E) i a k=inter s L i a k:=by
  rw[kN h hL,kN h (L:=L) (by rw[Y9]at hL;omega),Y9,ot a i k L E hE]
 rw[h1,h2]
theorem yD{s:Sn}(h:fT s=true){L E:List Em}(hL:(L++E).length≤1000){y x:Em}{b:Nat}(hb:jH s L y L.length=some b)(hx:L[b]?=some x)(hxy:x.x<x.y)(hE:∀e∈E,x.y≤e.x):jH s (L++E) y (L++E).length=some b:=by
 obtain⟨h0,x',h3,h4,h5⟩:=ph hb
 rw[hx]at h3;cases h3
 have hov:∀e∈E,uy x e=false:=fun e he=>by
  have:=hE e he
  simp only[uy,Zi]
  omega
 refine zZ ⟨by rw[Y9];omega,x,by rw[Zm h0];exact hx,?_,fun q' x' hq hx' hc=>?_⟩
 ·unfold zM at h4⊢
  rw[A9 h hL hov];exact h4
 ·rcases Zl q' L.length with hlt|hge
  ·rw[Zm hlt]at hx'
   refine h5 q' x' hlt hx' ?_
   unfold zM at hc⊢
   simp only[Zh]at hc⊢
   exact⟨hc.1,z5 h hL hc.2⟩
  ·rw[ZR hge]at hx'
   have:=hE x' (Zj hx')
   left;omega
end A
theorem ud{n:Nat}{L:List A.Em}:∀(k i:Nat),A.yf n L k i=0→∀(j:Nat) (a:A.Em),i≤j→j<i+k→L[j]?=some a→A.sX n (L.take j) a=0
 |0,i,_,j,a,h1,h2,_=>by omega
 |k+1,i,h,j,a,h1,h2,ha=>by
  obtain⟨b,hb⟩:=bV (show i<L.length by have:=(Y8.1 ha).1;omega)
  unfold A.yf at h
  rw[hb]at h
  cases he:decide (A.sX n (L.take i) b=0)with
  |false=>
   simp only[he,Zu]at h
   exact absurd h (aak he)
  |true=>
   simp only[he,Zr]at h
   by_cases hj:j=i
   ·subst hj
    rw[ha]at hb;cases hb
    exact ZE he
   ·exact ud k (i+1) h j a (by omega) (by omega) ha
theorem iR{ok:Bool}{n:Nat}{L:List A.Em}(h:A.rr ok n L=0):ok=true∧L.length≤48∧∀(j:Nat) (a:A.Em),L[j]?=some a→A.zi a=true:=by
 unfold A.rr at h
 cases ok with
 |false=>cases h
 |true=>
  cases hl:decide (48<L.length)with
  |true=>rw[hl]at h;cases h
  |false=>
   rw[hl]at h
   simp only[Zr,Zu]at h
   refine⟨rfl,by have:=aak hl;omega,fun j a ha=>?_⟩
   have h0:=ud L.length 0 h j a (by omega) (by have:=(Y8.1 ha).1;omega) ha
   unfold A.sX at h0
   cases h1:U.eB n a.n with
   |false=>rw[h1]at h0;cases h0
   |true=>
    cases h2:A.zi a with
    |true=>rfl
    |false=>rw[h1,h2]at h0;cases h0
theorem uX{a:A.Em}(h:A.zi a=true):0≤a.x∧a.x<a.y∧a.y≤1099511627776:=by
 unfold A.zi at h
 simp only[Zh,Ze]at h
 exact⟨h.1.1.2,h.1.2,h.2⟩
theorem kg{sn:A.Sn}{L:List A.Em}{y:A.Em}{b:Nat}(h:nG sn L y=some b):A.rr (A.fT sn) sn.N.length L=0∧A.jH sn L y L.length=some b:=by
 unfold nG at h
 cases h1:decide (A.rr (A.fT sn) sn.N.length L=0)with
 |false=>rw[h1]at h;cases h
 |true=>
  cases h2:decide (y.n<0)||decide ((sn.N.length:Int)≤y.n)with
  |true=>rw[h1,h2]at h;cases h
  |false=>
   cases h3:A.Iu y with
   |true=>rw[h1,h2,h3]at h;cases h
   |false=>
    rw[h1,h2,h3]at h
    exact⟨ZE h1,h⟩
theorem once{sn:A.Sn}{L E:List A.Em}{y x:A.Em}{b b':Nat}(hb:nG sn L y=some b)(hx:L[b]?=some x)(hE:∀e∈E,x.y≤e.x)(hb':nG sn (L++E) y=some b'):b'=b:=by
 obtain⟨k1,k2⟩:=kg hb
 obtain⟨k3,k4⟩:=kg hb'
 obtain⟨hok,hl,_⟩:=iR k3
 obtain⟨_,_,he⟩:=iR k1
 have hxy:=(uX (he b x hx)).2.1
 rw[A.yD hok (by omega) k2 hx hxy hE]at k4
 exact(aaV k4).symm
structure IB(f:Fi)(hb:Bd f)(s:Int)(Z:List Ac)(ar:List A.Em)(Y:Int)(st:St)(j p:Nat):Prop where
 ge:ar.length≤p
 ex:∃(k i:Nat) (x y:A.Em) (b:Ac) (z:Int×Int) (r:Rs) (L0 E:List A.Em),ar[k]?=some x∧x.n.toNat=j∧x.y≤Y∧st.L[p]?=some y∧y.n=(i:Int)∧Z[i]?=some b∧decide (b.kd=2)=true∧
  st.Q[j]?=some z∧z.2=qx (dE f i).1 (dE f i).2 s x.x∧st.R[i]?=some r∧r.er=z.2∧st.L=L0++E∧nG (lI f hb) L0 (qE f s i b)=some k∧L0[k]?=some x∧∀e∈E,x.y≤e.x
def HQ(f:Fi)(hb:Bd f)(s:Int)(Z:List Ac)(ar:List A.Em)(Y:Int)(st:St)(t:Sg):Prop:=∀(j p:Nat),t.P[j]?=some p→p≠0→IB f hb s Z ar Y st j p
theorem IB.mono{f:Fi}{hb:Bd f}{s:Int}{Z:List Ac}{ar:List A.Em}{Y Y':Int}{st:St}{j p:Nat}(h:IB f hb s Z ar Y st j p)(hY:Y≤Y'):IB f hb s Z ar Y' st j p:=by
 obtain⟨g,k,i,x,y,b,z,r,L0,E,h1,h2,h3,h4⟩:=h
 exact⟨g,k,i,x,y,b,z,r,L0,E,h1,h2,by omega,h4⟩
theorem HQ.step{f:Fi}{hb:Bd f}{s:Int}{Z:List Ac}{st:St}{t:Sg}(h:EQ (aW f s Z Z.length) Z st t){k:Nat}{x:A.Em}{a:Ac}(hx:(aW f s Z Z.length)[k]?=some x)(ha:Z[x.n.toNat]?=some a)
 (g:HQ f hb s Z (aW f s Z Z.length) x.y st t) (i:Nat):HQ f hb s Z (aW f s Z Z.length) x.y (gM f hb s Z x x.n.toNat a st i) (nm f hb s Z x k x.n.toNat a t i):=by
 unfold gM nm
 cases hz:Z[i]? with
 |none=>exact g
 |some b=>
  have hh:=zR h.pre h.Ek hx (nG (lI f hb) st.L (qE f s i b)) (fun q hq=>tk hq)
  simp only
  rw[hh,←h.L]
  cases hc:(decide (b.kd=2)&&decide (nG (lI f hb) st.L (qE f s i b)=some k))with
  |false=>simp only[Zu];exact g
  |true=>
   obtain⟨hkd,hhr⟩:=abF.1 hc
   have hhr:=ZE hhr
   have hil:=(Y8.1 hz).1
   have hLk:=h.pre k x hx
   have hem:=uX ((iR (kg hhr).1).2.2 k x hLk)
   have hwy:bb (x.y+1000)=x.y+1000:=ao (by omega) (by omega)
   have keep:∀(j p:Nat) (L':List A.Em) (Q':List (Int×Int)) (E':List A.Em),L'=st.L++E'→(∀e∈E',x.y≤e.x)→Q'[j]?=st.Q[j]?→IB f hb s Z (aW f s Z Z.length) x.y st j p→
    IB f hb s Z (aW f s Z Z.length) x.y ⟨L',st.R.set i (oI a (qx (dE f i).1 (dE f i).2 s x.x)),Q'⟩ j p:=by
    rintro j p L' Q' E' rfl hE' hQ' ⟨ge,k1,i1,x1,y1,b1,z1,r1,L0,E,e1,e2,e3,e4,e5,e6,e7,e8,e9,tE,sS,FH,C4,EY,IV⟩
    have e4':(st.L++E')[p]?=some y1:=by rw[Zm (Y8.1 e4).1];exact e4
    have e15':∀e∈E++E',x1.y≤e.x:=fun e he=>by
     rcases Z1.1 he with he|he
     ·exact IV e he
     ·exact acx e3 (hE' e he)
    by_cases hi:i1=i
    ·subst hi
     rw[hz]at e6;cases e6
     have hk:k=k1:=by
      rw[FH]at hhr
      exact once C4 EY IV hhr
     subst hk
     rw[hx]at e1;cases e1
     exact⟨ge,k,i1,x,y1,b,z1,_,L0,E++E',hx,e2,e3,e4',e5,hz,e7,hQ'.trans e8,e9,Zz (by rw[h.lR];exact hil),e9.symm,by rw[FH,Za],C4,EY,e15'⟩
    ·exact⟨ge,k1,i1,x1,y1,b1,z1,r1,L0,E++E',e1,e2,e3,e4',e5,e6,e7,hQ'.trans e8,e9,by show(st.R.set i _)[i1]?=_;rw[Zg (Ne.symm hi)];exact tE,sS,by rw[FH,Za],C4,EY,e15'⟩
   cases hdi:decide (a.d=(i:Int))with
   |false=>
    simp only[Zr,Zu]
    intro j p hp hp0
    exact keep j p st.L st.Q [] (by simp) (fun e he=>by cases he) rfl (g j p hp hp0)
   |true=>
    simp only[Zr]
    intro j p hp hp0
    have hp':(t.P.set x.n.toNat st.L.length)[j]?=some p:=hp
    have hE:∀e∈[vD x i],x.y≤e.x:=fun e he=>by
     simp only[aab]at he
     subst he
     show x.y≤bb (x.y+1000)
     omega
    by_cases hj:j=x.n.toNat
    ·subst hj
     rw[Zz (by rw[h.lP];exact(Y8.1 ha).1)]at hp'
     cases hp'
     have hLa:(aW f s Z Z.length).length≤st.L.length:=by
      rcases Zl st.L.length (aW f s Z Z.length).length with h1|h1
      ·obtain⟨x',hx'⟩:=bV h1
       have:=(Y8.1 (h.pre _ x' hx')).1
       omega
      ·exact h1
     exact⟨hLa,k,i,x,vD x i,b,_,_,st.L,[vD x i],hx,rfl,abk _,by simp,rfl,hz,hkd,Zz (by rw[h.lQ];exact(Y8.1 ha).1),rfl,Zz (by rw[h.lR];exact hil),rfl,rfl,hhr,hLk,hE⟩
    ·rw[Zg (Ne.symm hj)]at hp'
     exact keep j p _ _ [vD x i] rfl hE (Zg (Ne.symm hj)) (g j p hp' hp0)
theorem HQ.loop{f:Fi}{hb:Bd f}{s:Int}{Z:List Ac}{st:St}{t:Sg}(h:EQ (aW f s Z Z.length) Z st t){k:Nat}{x:A.Em}{a:Ac}(hx:(aW f s Z Z.length)[k]?=some x)(ha:Z[x.n.toNat]?=some a)
 (g:HQ f hb s Z (aW f s Z Z.length) x.y st t):∀i,HQ f hb s Z (aW f s Z Z.length) x.y (jC f hb s Z x x.n.toNat a st i) (qW f hb s Z x k x.n.toNat a t i)
 |0=>g
 |i+1=>HQ.step (h.loop hx ha i) hx ha (HQ.loop h hx ha g i) i
theorem HQ.fold{f:Fi}{hb:Bd f}{s:Int}{Z:List Ac}:∀(l:List Nat) {st:St} {t:Sg} {Y:Int},EQ (aW f s Z Z.length) Z st t→HQ f hb s Z (aW f s Z Z.length) Y st t→Q.pI (kA (aW f s Z Z.length)) l→(∀k∈l,Y≤kA (aW f s Z Z.length) k)→
 ∃Y',HQ f hb s Z (aW f s Z Z.length) Y' (l.foldl (fe f hb s Z (aW f s Z Z.length)) st) (l.foldl (Ep f hb s Z (aW f s Z Z.length)) t)
 |[],_,_,Y,_,g,_,_=>⟨Y,g⟩
 |k::l,st,t,Y,h,g,hs,hY=>by
  obtain⟨hs1,hs2⟩:=aag.1 hs
  rw[aad,aad]
  have hY2:∀k∈l,Y≤kA (aW f s Z Z.length) k:=fun k hk=>hY k (ZS _ hk)
  unfold fe Ep
  cases hx:(aW f s Z Z.length)[k]? with
  |none=>exact HQ.fold l h g hs2 hY2
  |some x=>
   simp only
   cases ha:Z[x.n.toNat]? with
   |none=>exact HQ.fold l h g hs2 hY2
   |some a=>
    have hk:kA (aW f s Z Z.length) k=x.y:=by unfold kA;rw[hx]
    have hYx:=hY k ZI
    rw[hk]at hYx
    refine HQ.fold l (h.loop hx ha Z.length) (HQ.loop h hx ha (fun j p hp hp0=>(g j p hp hp0).mono hYx) Z.length) hs2 (fun k' hk'=>?_)
    have:=hs1 k' hk'
    rw[hk]at this
    exact this
def wv(f:Fi)(hb:Bd f)(st:St)(j:Nat):Option Rs:=match st.Q[j]? with
 |some z=>bif decide (z.1<0)then none else bif sT (lI f hb) st.L z.1 j then some (Gb z.2)else none
 |none=>none
def Fb(R:List Rs)(j:Nat):Option Rs→List Rs
 |some r=>R.set j r
 |none=>R
theorem Cn(R:List Rs)(j:Nat)(o:Option Rs):(Fb R j o).length=R.length:=by cases o<;>simp[Fb]
theorem xr{R:List Rs}{j m:Nat}(o:Option Rs)(h:m≠j):(Fb R j o)[m]?=R[m]?:=by
 cases o with
 |none=>rfl
 |some r=>exact Zg (Ne.symm h)
theorem rZ(f:Fi)(hb:Bd f)(st:St)(ar:List A.Em)(R:List Rs)(k:Nat):iX f hb st ar R k=match ar[k]? with
 |some x=>Fb R x.n.toNat (wv f hb st x.n.toNat)
 |none=>R:=by
 unfold iX wv
 cases ar[k]? with
 |none=>rfl
 |some x=>
  simp only
  cases st.Q[x.n.toNat]? with
  |none=>rfl
  |some z=>
   simp only
   cases decide (z.1<0)with
   |true=>rfl
   |false=>
    cases sT (lI f hb) st.L z.1 x.n.toNat<;>rfl
theorem qO{f:Fi}{hb:Bd f}{st:St}{ar:List A.Em}{j:Nat}(h:wv f hb st j=none):∀(l:List Nat) (R:List Rs),(l.foldl (iX f hb st ar) R)[j]?=R[j]?
 |[],R=>rfl
 |k::l,R=>by
  rw[aad,qO h l,rZ]
  cases ar[k]? with
  |none=>rfl
  |some x=>
   simp only
   by_cases hj:j=x.n.toNat
   ·rw[←hj,h];rfl
   ·exact xr _ hj
theorem nz(f:Fi)(hb:Bd f)(st:St)(ar:List A.Em):∀(l:List Nat) (R:List Rs),(l.foldl (iX f hb st ar) R).length=R.length
 |[],R=>rfl
 |k::l,R=>by
  rw[aad,nz f hb st ar l,rZ]
  cases ar[k]? with
  |none=>rfl
  |some x=>exact Cn _ _ _
theorem nJ{f:Fi}{hb:Bd f}{st:St}{ar:List A.Em}{j:Nat}{r:Rs}(h:wv f hb st j=some r):∀(l:List Nat) (R:List Rs),j<R.length→(R[j]?=some r∨∃k∈l,∃x,ar[k]?=some x∧x.n.toNat=j)→(l.foldl (iX f hb st ar) R)[j]?=some r
 |[],R,_,hk=>by
  rcases hk with hk|⟨k,hk,_⟩
  ·exact hk
  ·cases hk
 |k::l,R,hl,hk=>by
  rw[aad]
  have hlen:(iX f hb st ar R k).length=R.length:=nz f hb st ar [k] R
  refine nJ h l _ (by rw[hlen];exact hl) ?_
  rw[rZ]
  cases hx:ar[k]? with
  |none=>
   rcases hk with hk|⟨k',hk',x',hx',hn⟩
   ·exact .inl hk
   ·rcases ZU.1 hk' with rfl|hk'
    ·rw[hx]at hx';cases hx'
    ·exact .inr ⟨k',hk',x',hx',hn⟩
  |some x=>
   simp only
   by_cases hj:j=x.n.toNat
   ·refine .inl ?_
    rw[←hj,h]
    exact Zz hl
   ·rw[xr _ hj]
    rcases hk with hk|⟨k',hk',x',hx',hn⟩
    ·exact .inl hk
    ·rcases ZU.1 hk' with rfl|hk'
     ·rw[hx]at hx';cases hx';exact absurd hn.symm hj
     ·exact .inr ⟨k',hk',x',hx',hn⟩

namespace Q
theorem pB(key:Nat→Int):∀X Y,(cN key X Y).Perm (X++Y)
 |[],Y=>by rw[cE];exact List.Perm.refl _
 |x::X,[]=>by rw[db,ZW]
 |x::X,y::Y=>by
  by_cases h:key y<key x
  ·rw[cX h]
   exact((pB key (x::X) Y).cons y).trans (List.perm_middle (l₁:=x::X)).symm
  ·rw[dw h]
   exact(pB key X (y::Y)).cons x
theorem BE(key:Nat→Int)(X:List Nat):(fk key X).Perm X:=by
 induction X with
 |nil=>exact List.Perm.refl _
 |cons x X ih=>
  have:=ks key [x] X
  rw[abg]at this
  rw[this]
  refine(pB key _ _).trans ?_
  rw[oS]
  exact ih.cons x
end Q
theorem vN(ar:List A.Em):(fF ar).Nodup:=(Q.BE _ _).nodup_iff.2 ab3
abbrev jL(f:Fi)(s:Int)(Z:List Ac):List A.Em:=aW f s Z Z.length
abbrev xl(f:Fi)(s:Int)(i:Nat)(x:A.Em):Int:=qx (dE f i).1 (dE f i).2 s x.x
def Hd(f:Fi)(hb:Bd f)(s:Int)(Z:List Ac)(D:Nat→Nat→Prop)(Y:Int)(st:St)(k i:Nat):Prop:=
 ∃(x:A.Em) (a b:Ac) (L0 E:List A.Em),(jL f s Z)[k]?=some x∧Z[x.n.toNat]?=some a∧Z[i]?=some b∧decide (b.kd=2)=true∧D k i∧st.R[i]?=some (oI a (xl f s i x))∧
  st.L=L0++E∧nG (lI f hb) L0 (qE f s i b)=some k∧L0[k]?=some x∧x.y≤Y∧∀e∈E,x.y≤e.x
def Ak(f:Fi)(s:Int)(Z:List Ac)(st:St)(p k i:Nat):Prop:=
 ∃(x:A.Em) (a:Ac),(jL f s Z)[k]?=some x∧Z[x.n.toNat]?=some a∧a.d=(i:Int)∧st.L[p]?=some (vD x i)∧st.Q[x.n.toNat]?=some ((p:Int),xl f s i x)∧(jL f s Z).length≤p
structure lF(f:Fi)(hb:Bd f)(s:Int)(Z:List Ac)(D:Nat→Nat→Prop)(Y:Int)(st:St):Prop where
 lR:st.R.length=Z.length
 lQ:st.Q.length=Z.length
 pre:∀(i:Nat) (x:A.Em),(jL f s Z)[i]?=some x→st.L[i]?=some x
 row:∀(i:Nat) (r:Rs),st.R[i]?=some r→r=Ee∨∃k,Hd f hb s Z D Y st k i∧∀(x:A.Em) (a:Ac),(jL f s Z)[k]?=some x→Z[x.n.toNat]?=some a→a.d=(i:Int)→∃p,Ak f s Z st p k i
 Ek:∀p,(jL f s Z).length≤p→p<st.L.length→∃k i,Ak f s Z st p k i∧Hd f hb s Z D Y st k i
 q:∀(j:Nat) (z:Int×Int),st.Q[j]?=some z→z.1= -1∨∃(p k i:Nat) (x:A.Em),z.1=(p:Int)∧(jL f s Z)[k]?=some x∧x.n.toNat=j∧Ak f s Z st p k i∧Hd f hb s Z D Y st k i
theorem Hd.uniq{f:Fi}{hb:Bd f}{s:Int}{Z:List Ac}{D D':Nat→Nat→Prop}{Y Y':Int}{st:St}{k k' i:Nat}(h:Hd f hb s Z D Y st k i)(h':Hd f hb s Z D' Y' st k' i):k=k':=by
 obtain⟨x,a,b,L0,E,e1,e2,e3,e4,e5,e6,e7,e8,e9,tE,sS⟩:=h
 obtain⟨x',a',b',L0',E',d1,d2,d3,d4,d5,d6,d7,d8,d9,d10,d11⟩:=h'
 rw[e3]at d3
 cases d3
 rw[e7]at d7
 rcases List.append_eq_append_iff.1 d7 with⟨F,h1,h2⟩|⟨F,h1,h2⟩
 ·rw[h1]at d8
  exact(once e8 e9 (fun e he=>sS e (by rw[h2];exact aas _ he)) d8).symm
 ·rw[h1]at e8
  exact once d8 d9 (fun e he=>d11 e (by rw[h2];exact aas _ he)) e8
theorem Hd.keep{f:Fi}{hb:Bd f}{s:Int}{Z:List Ac}{D D':Nat→Nat→Prop}{Y Y':Int}{st st':St}{k i:Nat}{E':List A.Em}(h:Hd f hb s Z D Y st k i)(hY:Y≤Y')(hD:∀k i,D k i→D' k i)(hL:st'.L=st.L++E')
 (hE:∀e∈E',Y≤e.x) (hR:st'.R[i]?=st.R[i]?):Hd f hb s Z D' Y' st' k i:=by
 obtain⟨x,a,b,L0,E,e1,e2,e3,e4,e5,e6,e7,e8,e9,tE,sS⟩:=h
 refine⟨x,a,b,L0,E++E',e1,e2,e3,e4,hD _ _ e5,by rw[hR];exact e6,by rw[hL,e7,Za],e8,e9,acx tE hY,fun e he=>?_⟩
 rcases Z1.1 he with he|he
 ·exact sS e he
 ·exact acx tE (hE e he)
theorem lF.mono{f:Fi}{hb:Bd f}{s:Int}{Z:List Ac}{D D':Nat→Nat→Prop}{Y Y':Int}{st:St}(g:lF f hb s Z D Y st)(hY:Y≤Y')(hD:∀k i,D k i→D' k i):lF f hb s Z D' Y' st:=by
 have hk:∀k i,Hd f hb s Z D Y st k i→Hd f hb s Z D' Y' st k i:=fun k i h=>h.keep hY hD (E':=[]) (by rw[ZW]) (fun e he=>by cases he) rfl
 refine⟨g.lR,g.lQ,g.pre,fun i r h=>?_,fun p h1 h2=>?_,fun j z h=>?_⟩
 ·rcases g.row i r h with h|⟨k,h1,h2⟩
  ·exact .inl h
  ·exact .inr ⟨k,hk _ _ h1,h2⟩
 ·obtain⟨k,i,h3,h4⟩:=g.Ek p h1 h2
  exact⟨k,i,h3,hk _ _ h4⟩
 ·rcases g.q j z h with h|⟨p,k,i,x,h1,h2,h3,h4,h5⟩
  ·exact .inl h
  ·exact .inr ⟨p,k,i,x,h1,h2,h3,h4,hk _ _ h5⟩
theorem lF.lL{f:Fi}{hb:Bd f}{s:Int}{Z:List Ac}{D:Nat→Nat→Prop}{Y:Int}{st:St}(g:lF f hb s Z D Y st):(jL f s Z).length≤st.L.length:=by
 rcases Zl st.L.length (jL f s Z).length with h1|h1
 ·obtain⟨x',hx'⟩:=bV h1
  have:=(Y8.1 (g.pre _ x' hx')).1
  omega
 ·exact h1
theorem lF.aA{f:Fi}{hb:Bd f}{s:Int}{Z:List Ac}{D:Nat→Nat→Prop}{Y:Int}{st:St}(g:lF f hb s Z D Y st)(q:Nat)(y:A.Em)(hq:(jL f s Z).length≤q)(hy:st.L[q]?=some y):∃b,Z[y.n.toNat]?=some b∧decide (b.kd=2)=true:=by
 obtain⟨k,i,⟨x,a,_,_,_,h1,_⟩,⟨_,_,b,_,_,_,_,h2,h3,_⟩⟩:=g.Ek q hq (Y8.1 hy).1
 rw[hy]at h1
 cases h1
 exact⟨b,by show Z[((i:Nat):Int).toNat]?=_;rw[ZX];exact h2,h3⟩
theorem Ak.keep{f:Fi}{s:Int}{Z:List Ac}{st st':St}{p k i:Nat}{E':List A.Em}(h:Ak f s Z st p k i)(hL:st'.L=st.L++E')(hQ:∀x,(jL f s Z)[k]?=some x→st'.Q[x.n.toNat]?=st.Q[x.n.toNat]?):Ak f s Z st' p k i:=by
 obtain⟨x,a,h1,h2,h3,h4,h5,h6⟩:=h
 exact⟨x,a,h1,h2,h3,by rw[hL,Zm (Y8.1 h4).1];exact h4,by rw[hQ x h1];exact h5,h6⟩
theorem lF.step{f:Fi}{hb:Bd f}{s:Int}{Z:List Ac}{D:Nat→Nat→Prop}{st:St}{k:Nat}{x:A.Em}{a:Ac}(hx:(jL f s Z)[k]?=some x)(ha:Z[x.n.toNat]?=some a)(g:lF f hb s Z D x.y st)(i:Nat)(hD:¬D k i) :
 lF f hb s Z (fun k' i'=>D k' i'∨k'=k∧i'=i) x.y (gM f hb s Z x x.n.toNat a st i):=by
 unfold gM
 have g0:=g.mono (D':=fun k' i'=>D k' i'∨k'=k∧i'=i) (abk _) (fun _ _ h=>.inl h)
 cases hz:Z[i]? with
 |none=>exact g0
 |some b=>
  have hh:=zR g.pre g.aA hx (nG (lI f hb) st.L (qE f s i b)) (fun q hq=>tk hq)
  simp only
  rw[hh]
  cases hc:(decide (b.kd=2)&&decide (nG (lI f hb) st.L (qE f s i b)=some k))with
  |false=>simp only[Zu];exact g0
  |true=>
   obtain⟨hkd,hhr⟩:=abF.1 hc
   have hhr:=ZE hhr
   have hil:=(Y8.1 hz).1
   have hnl:=(Y8.1 ha).1
   have hLk:=g.pre k x hx
   have hem:=uX ((iR (kg hhr).1).2.2 k x hLk)
   have hwy:bb (x.y+1000)=x.y+1000:=ao (by omega) (by omega)
   have hlL:=g.lL
   have fresh:∀k1,¬Hd f hb s Z D x.y st k1 i:=fun k1 h=>by
    obtain⟨x1,a1,b1,L0,E,e1,e2,e3,e4,e5,e6,e7,e8,e9,tE,sS⟩:=h
    rw[hz]at e3;cases e3
    rw[e7]at hhr
    have:=once e8 e9 sS hhr
    subst this
    exact hD e5
   have all:∀(L':List A.Em) (Q':List (Int×Int)) (E':List A.Em),L'=st.L++E'→(∀e∈E',x.y≤e.x)→Q'.length=Z.length→(∀k1 i1 x1,Hd f hb s Z D x.y st k1 i1→(jL f s Z)[k1]?=some x1→(∃a1,Z[x1.n.toNat]?=some a1∧a1.d=(i1:Int))→Q'[x1.n.toNat]?=st.Q[x1.n.toNat]?)→
    (a.d=(i:Int)→∃p,Ak f s Z ⟨L',st.R.set i (oI a (xl f s i x)),Q'⟩ p k i)→
    (∀p,st.L.length≤p→p<L'.length→∃k1 i1,Ak f s Z ⟨L',st.R.set i (oI a (xl f s i x)),Q'⟩ p k1 i1∧(k1=k∧i1=i))→
    (∀(j:Nat) (z:Int×Int),Q'[j]?=some z→st.Q[j]?=some z∨∃p:Nat,z.1=(p:Int)∧j=x.n.toNat∧Ak f s Z ⟨L',st.R.set i (oI a (xl f s i x)),Q'⟩ p k i)→
    lF f hb s Z (fun k' i'=>D k' i'∨k'=k∧i'=i) x.y ⟨L',st.R.set i (oI a (xl f s i x)),Q'⟩:=by
    intro L' Q' E' hL' hE' lQ' hQ' hT hA hq
    have ri:∀k1 i1,Hd f hb s Z D x.y st k1 i1→Hd f hb s Z (fun k' i'=>D k' i'∨k'=k∧i'=i) x.y ⟨L',st.R.set i (oI a (xl f s i x)),Q'⟩ k1 i1:=fun k1 i1 h=>by
     refine h.keep (abk _) (fun _ _ h=>.inl h) hL' hE' ?_
     have:i1≠i:=fun e=>by subst e;exact fresh k1 h
     exact Zg (Ne.symm this)
    have newH:Hd f hb s Z (fun k' i'=>D k' i'∨k'=k∧i'=i) x.y ⟨L',st.R.set i (oI a (xl f s i x)),Q'⟩ k i:=
     ⟨x,a,b,st.L,E',hx,ha,hz,hkd,.inr ⟨rfl,rfl⟩,Zz (by rw[g.lR];exact hil),hL',hhr,hLk,abk _,hE'⟩
    have keepA:∀p k1 i1,Ak f s Z st p k1 i1→Hd f hb s Z D x.y st k1 i1→Ak f s Z ⟨L',st.R.set i (oI a (xl f s i x)),Q'⟩ p k1 i1:=fun p k1 i1 h h2=>by
     refine h.keep hL' (fun x1 hx1=>hQ' k1 i1 x1 h2 hx1 ?_)
     obtain⟨x2,a2,h3,h4,h5,_⟩:=h
     rw[hx1]at h3;cases h3
     exact⟨a2,h4,h5⟩
    refine⟨by simpa using g.lR,lQ',fun j y hy=>?_,fun i1 r h=>?_,fun p h1 h2=>?_,fun j z h=>?_⟩
    ·show L'[j]?=_
     rw[hL',Zm (Y8.1 (g.pre j y hy)).1];exact g.pre j y hy
    ·by_cases hi:i1=i
     ·subst hi
      refine .inr ⟨k,newH,fun x1 a1 h1 h2 h3=>?_⟩
      rw[hx]at h1;cases h1
      rw[ha]at h2;cases h2
      exact hT h3
     ·have h':st.R[i1]?=some r:=by rw[←h];exact(Zg (Ne.symm hi)).symm
      rcases g.row i1 r h' with h0|⟨k1,h1,h2⟩
      ·exact .inl h0
      ·refine .inr ⟨k1,ri _ _ h1,fun x1 a1 h3 h4 h5=>?_⟩
       obtain⟨p,hp⟩:=h2 x1 a1 h3 h4 h5
       exact⟨p,keepA _ _ _ hp h1⟩
    ·rcases Zl p st.L.length with hl|hl
     ·obtain⟨k1,i1,h3,h4⟩:=g.Ek p h1 hl
      exact⟨k1,i1,keepA _ _ _ h3 h4,ri _ _ h4⟩
     ·obtain⟨k1,i1,h3,rfl,rfl⟩:=hA p hl h2
      exact⟨k1,i1,h3,newH⟩
    ·rcases hq j z h with h0|⟨p,h1,rfl,h3⟩
     ·rcases g.q j z h0 with h1|⟨p,k1,i1,x1,h1,h2,h3,h4,h5⟩
      ·exact .inl h1
      ·exact .inr ⟨p,k1,i1,x1,h1,h2,h3,keepA _ _ _ h4 h5,ri _ _ h5⟩
     ·exact .inr ⟨p,k,i,x,h1,hx,rfl,h3,newH⟩
   cases hdi:decide (a.d=(i:Int))with
   |false=>
    simp only[Zr,Zu]
    refine all st.L st.Q [] (by rw[ZW]) (fun e he=>by cases he) g.lQ (fun _ _ _ _ _ _=>rfl) (fun h=>absurd h (aak hdi)) (fun p h1 h2=>by omega) (fun j z h=>.inl h)
   |true=>
    simp only[Zr]
    have hdi:=ZE hdi
    have nA:Ak f s Z ⟨st.L++[vD x i],st.R.set i (oI a (xl f s i x)),st.Q.set x.n.toNat ((st.L.length:Int),xl f s i x)⟩ st.L.length k i:=
     ⟨x,a,hx,ha,hdi,by simp,Zz (by rw[g.lQ];exact hnl),hlL⟩
    refine all _ _ [vD x i] rfl (fun e he=>?_) (by simpa using g.lQ) (fun k1 i1 x1 h1 h2 h3=>?_) (fun _=>⟨_,nA⟩) (fun p h1 h2=>?_) (fun j z h=>?_)
    ·simp only[aab]at he
     subst he
     show x.y≤bb (x.y+1000)
     omega
    ·refine Zg (fun e=>?_)
     have:=iV f s Z Z.length k k1 x x1 hx h2 e
     subst this
     rw[hx]at h2;cases h2
     obtain⟨a1,h3,h4⟩:=h3
     rw[ha]at h3;cases h3
     have:i1=i:=by omega
     subst this
     exact fresh k h1
    ·have:p=st.L.length:=by simp only[Y9,Zw,Zx]at h2;omega
     subst this
     exact⟨k,i,nA,rfl,rfl⟩
    ·by_cases hj:j=x.n.toNat
     ·subst hj
      rw[Zz (by rw[g.lQ];exact hnl)]at h
      cases h
      exact .inr ⟨st.L.length,rfl,rfl,nA⟩
     ·rw[Zg (Ne.symm hj)]at h
      exact .inl h
theorem lF.loop{f:Fi}{hb:Bd f}{s:Int}{Z:List Ac}{D:Nat→Nat→Prop}{st:St}{k:Nat}{x:A.Em}{a:Ac}(hx:(jL f s Z)[k]?=some x)(ha:Z[x.n.toNat]?=some a)(g:lF f hb s Z D x.y st)(hD:∀i,¬D k i) :
 ∀i,lF f hb s Z (fun k' i'=>D k' i'∨k'=k∧i'<i) x.y (jC f hb s Z x x.n.toNat a st i)
 |0=>g.mono (abk _) (fun _ _ h=>.inl h)
 |i+1=>(lF.step hx ha (lF.loop hx ha g hD i) i (fun h=>by rcases h with h|⟨_,h⟩;exact hD i h;omega)).mono (abk _) (fun k' i' h=>by
  rcases h with(h|⟨h1,h2⟩)|⟨h1,h2⟩
  ·exact .inl h
  ·exact .inr ⟨h1,by omega⟩
  ·exact .inr ⟨h1,by omega⟩)
theorem lF.fold{f:Fi}{hb:Bd f}{s:Int}{Z:List Ac}:∀(l:List Nat) {st:St} {D:Nat→Nat→Prop} {Y:Int},lF f hb s Z D Y st→Q.pI (kA (jL f s Z)) l→(∀k∈l,Y≤kA (jL f s Z) k)→l.Nodup→(∀k∈l,∀i,¬D k i)→
 ∃D' Y',lF f hb s Z D' Y' (l.foldl (fe f hb s Z (jL f s Z)) st)
 |[],_,D,Y,g,_,_,_,_=>⟨D,Y,g⟩
 |k::l,st,D,Y,g,hs,hY,hn,hD=>by
  obtain⟨hs1,hs2⟩:=aag.1 hs
  obtain⟨hn1,hn2⟩:=aaX.1 hn
  rw[aad]
  have hY2:∀k∈l,Y≤kA (jL f s Z) k:=fun k hk=>hY k (ZS _ hk)
  have hD2:∀k∈l,∀i,¬D k i:=fun k hk=>hD k (ZS _ hk)
  unfold fe
  cases hx:(aW f s Z Z.length)[k]? with
  |none=>exact lF.fold l g hs2 hY2 hn2 hD2
  |some x=>
   simp only
   cases ha:Z[x.n.toNat]? with
   |none=>exact lF.fold l g hs2 hY2 hn2 hD2
   |some a=>
    have hk:kA (aW f s Z Z.length) k=x.y:=by unfold kA;rw[hx]
    have hYx:=hY k ZI
    rw[hk]at hYx
    refine lF.fold l (lF.loop hx ha (g.mono hYx (fun _ _ h=>h)) (hD k ZI) Z.length) hs2 (fun k' hk'=>?_) hn2 (fun k' hk' i h=>?_)
    ·have:=hs1 k' hk'
     rw[hk]at this
     exact this
    ·rcases h with h|⟨rfl,_⟩
     ·exact hD2 k' hk' i h
     ·exact hn1 hk'
theorem lF.zero(f:Fi)(hb:Bd f)(s:Int)(Z:List Ac)(Y:Int):lF f hb s Z (fun _ _=>False) Y (oP (jL f s Z) Z.length):=
 ⟨by simp[oP],by simp[oP],fun i x h=>h,fun i r h=>by
  have e1:=Zj h
  simp only[oP,abS]at e1
  exact .inl e1.2,fun p h1 h2=>absurd h2 (by show ¬p<(jL f s Z).length;omega),fun j z h=>by
  have e1:=Zj h
  simp only[oP,abS]at e1
  rw[e1.2]
  exact .inl rfl⟩
theorem inv(f:Fi)(hb:Bd f)(s:Int)(Z:List Ac):∃D Y,lF f hb s Z D Y (eO f hb s Z):=by
 have hs:Q.pI (kA (jL f s Z)) (fF (jL f s Z)):=Q.o6 _ _
 have hn:=vN (jL f s Z)
 unfold eO
 cases hl:fF (aW f s Z Z.length)with
 |nil=>exact⟨_,_,lF.zero f hb s Z 0⟩
 |cons k l=>
  rw[hl]at hs hn
  refine lF.fold (k::l) (lF.zero f hb s Z (kA (aW f s Z Z.length) k)) hs (fun k' hk'=>?_) hn (fun _ _ _ h=>h)
  rcases ZU.1 hk' with rfl|hk'
  ·exact abk _
  ·exact(aag.1 hs).1 k' hk'
theorem mP{f:Fi}{hb:Bd f}{s:Int}{Z:List Ac}{i:Nat}(h:wv f hb (eO f hb s Z) i=none):(gp f hb s Z)[i]?=(eO f hb s Z).R[i]?:=qO h _ _
theorem G3{f:Fi}{s:Int}{i:Nat}{a:Ac}:(jb f s i a).n.toNat=i:=ZX i
theorem sy{f:Fi}{s:Int}{Z:List Ac}{k:Nat}{x:A.Em}{a:Ac}(hx:(jL f s Z)[k]?=some x)(ha:Z[x.n.toNat]?=some a):decide (a.kd=1)=true∧x=jb f s x.n.toNat a:=by
 obtain⟨j,a',_,h2,h3,h4⟩:=ep f s Z Z.length k x hx
 have hj:x.n.toNat=j:=by rw[h4];exact G3
 rw[hj,h2]at ha
 cases ha
 exact⟨h3,by rw[hj];exact h4⟩
theorem qS{f:Fi}{hb:Bd f}{s:Int}{Z:List Ac}{i:Nat}{b:Ac}(hm:Z[i]?=some b)(hk:decide (b.kd=2)=true):wv f hb (eO f hb s Z) i=none:=by
 obtain⟨D,Y,g⟩:=inv f hb s Z
 unfold wv
 cases hz:(eO f hb s Z).Q[i]? with
 |none=>rfl
 |some z=>
  rcases g.q i z hz with h|⟨p,k,i',x,h1,h2,h3,⟨x',a,h4,h5,_⟩,_⟩
  ·simp only[h];rfl
  ·exfalso
   rw[h2]at h4;cases h4
   have:=(sy h2 h5).1
   rw[h3,hm]at h5
   cases h5
   simp only[Ze]at hk this
   omega
structure Wu(f:Fi)(s:Int)(Z:List Ac)(L:List A.Em)(r:Rs)(i:Nat):Prop where
 ex:∃(b:Ac) (k j:Nat) (a:Ac),Z[i]?=some b∧decide (b.kd=2)=true∧(jL f s Z)[k]?=some (jb f s j a)∧Z[j]?=some a∧decide (a.kd=1)=true∧r=oI a (xl f s i (jb f s j a))∧
  (jb f s j a).c=(qE f s i b).c∧(qE f s i b).x≤(jb f s j a).x∧(jb f s j a).x≤(qE f s i b).y∧0≤(jb f s j a).x∧(jb f s j a).x<(jb f s j a).y∧(jb f s j a).y≤1099511627776∧
  (a.d=(i:Int)→∃p,L[p]?=some (vD (jb f s j a) i)∧(jL f s Z).length≤p)
theorem FO{sn:A.Sn}{L:List A.Em}{y x:A.Em}{q:Nat}(h:A.zM sn L y q x=true):x.c=y.c∧y.x≤x.x∧x.x≤y.y:=by
 unfold A.zM at h
 simp only[Zh,Ze,ZK,Zi]at h
 omega
theorem Hd.CJ{f:Fi}{hb:Bd f}{s:Int}{Z:List Ac}{D:Nat→Nat→Prop}{Y:Int}{st:St}{k i:Nat}(h:Hd f hb s Z D Y st k i)(hA:∀(x:A.Em) (a:Ac),(jL f s Z)[k]?=some x→Z[x.n.toNat]?=some a→a.d=(i:Int)→∃p,Ak f s Z st p k i) :
 ∃r,st.R[i]?=some r∧Wu f s Z st.L r i:=by
 obtain⟨x,a,b,L0,E,e1,e2,e3,e4,e5,e6,e7,e8,e9,tE,sS⟩:=h
 obtain⟨k1,hx⟩:=sy e1 e2
 obtain⟨h0,x',h3,h4,_⟩:=A.ph (kg e8).2
 rw[e9]at h3;cases h3
 obtain⟨c1,c2,c3⟩:=FO h4
 have hem:=uX ((iR (kg e8).1).2.2 k x e9)
 have hA':=hA x a e1 e2
 obtain⟨j,hj⟩:∃j,x.n.toNat=j:=⟨_,rfl⟩
 rw[hj]at hx e2
 subst hx
 refine⟨_,e6,⟨b,k,j,a,e3,e4,e1,e2,k1,rfl,c1,c2,c3,hem.1,hem.2.1,hem.2.2,fun hd=>?_⟩⟩
 obtain⟨p,x2,a2,h5,h6,h7,h8,h9,h10⟩:=hA' hd
 rw[e1]at h5;cases h5
 exact⟨p,h8,h10⟩
theorem heard{f:Fi}{hb:Bd f}{s:Int}{Z:List Ac}{i:Nat}{r:Rs}(h:(gp f hb s Z)[i]?=some r)(hr:r.hd=true):Wu f s Z (eO f hb s Z).L r i:=by
 obtain⟨D,Y,g⟩:=inv f hb s Z
 cases hw:wv f hb (eO f hb s Z) i with
 |none=>
  rw[mP hw]at h
  rcases g.row i r h with h1|⟨k,h1,h2⟩
  ·rw[h1]at hr;cases hr
  ·obtain⟨r',h3,h4⟩:=h1.CJ h2
   rw[h]at h3;cases h3
   exact h4
 |some r'=>
  exfalso
  unfold wv at hw
  cases hz:(eO f hb s Z).Q[i]? with
  |none=>rw[hz]at hw;cases hw
  |some z=>
   have hfin:(gp f hb s Z)[i]?=some r':=by
    rcases g.q i z hz with h1|⟨p,k,i',x,h1,h2,h3,h4,h5⟩
    ·rw[hz]at hw;simp only[h1]at hw;cases hw
    ·refine nJ (by unfold wv;exact hw) _ _ (by rw[g.lR,←g.lQ];exact(Y8.1 hz).1) (.inr ⟨k,(Q.kB _ _ _).2 (ZF.2 (Y8.1 h2).1),x,h2,h3⟩)
   rw[h]at hfin
   cases hfin
   rw[hz]at hw
   simp only at hw
   cases hc:decide (z.1<0)with
   |true=>rw[hc]at hw;cases hw
   |false=>
    cases hd:sT (lI f hb) (eO f hb s Z).L z.1 i with
    |false=>rw[hc,hd]at hw;cases hw
    |true=>rw[hc,hd]at hw;cases hw;cases hr
theorem JT{f:Fi}{hb:Bd f}{s:Int}{Z:List Ac}{i:Nat}{r:Rs}(h:(gp f hb s Z)[i]?=some r)(hr:r.ak=true) :
 ∃(a b:Ac) (t:Nat),Z[i]?=some a∧decide (a.kd=1)=true∧a.d=(t:Int)∧Z[t]?=some b∧decide (b.kd=2)=true∧kR.oX f.v f.a f.b f.C s b.of=kR.oX f.v f.a f.b f.C s a.of∧(gp f hb s Z)[t]?=some (oI a r.er)∧
  (∃y∈(eO f hb s Z).L,y.n=(t:Int))∧(jL f s Z)≠[]:=by
 obtain⟨D,Y,g⟩:=inv f hb s Z
 cases hw:wv f hb (eO f hb s Z) i with
 |none=>
  exfalso
  rw[mP hw]at h
  rcases g.row i r h with h1|⟨k,h1,h2⟩
  ·rw[h1]at hr;cases hr
  ·obtain⟨r',h3,⟨_,_,_,_,_,_,_,_,_,h4,_⟩⟩:=h1.CJ h2
   rw[h]at h3;cases h3
   rw[h4]at hr;cases hr
 |some r'=>
  unfold wv at hw
  cases hz:(eO f hb s Z).Q[i]? with
  |none=>rw[hz]at hw;cases hw
  |some z=>
   rcases g.q i z hz with h1|⟨p,k,t,x,h1,h2,h3,⟨x',a,h4,h5,h6,h7,h8,h9⟩,h10⟩
   ·rw[hz]at hw;simp only[h1]at hw;cases hw
   ·have hfin:(gp f hb s Z)[i]?=some r':=
     nJ (by unfold wv;exact hw) _ _ (by rw[g.lR,←g.lQ];exact(Y8.1 hz).1) (.inr ⟨k,(Q.kB _ _ _).2 (ZF.2 (Y8.1 h2).1),x,h2,h3⟩)
    rw[h]at hfin
    cases hfin
    rw[h2]at h4;cases h4
    rw[h3]at h5 h8
    rw[hz]at h8;cases h8
    rw[hz]at hw
    simp only at hw
    have hrv:r=Gb (xl f s t x):=by
     cases hc:decide ((p:Int)<0)with
     |true=>rw[hc]at hw;cases hw
     |false=>
      cases hd:sT (lI f hb) (eO f hb s Z).L p i with
      |false=>rw[hc,hd]at hw;cases hw
      |true=>rw[hc,hd]at hw;cases hw;rfl
    obtain⟨x2,a2,b,L0,E,e1,e2,e3,e4,e5,e6,e7,e8,e9,tE,sS⟩:=h10
    rw[h2]at e1;cases e1
    rw[h3,h5]at e2;cases e2
    obtain⟨k1,hx⟩:=sy h2 (by rw[h3];exact h5)
    obtain⟨h0,x',g3,g4,_⟩:=A.ph (kg e8).2
    rw[e9]at g3;cases g3
    have c1:=(FO g4).1
    rw[hx]at c1
    refine⟨a,b,t,h5,k1,h6,e3,e4,c1.symm,?_,⟨_,Zj h7,rfl⟩,fun e=>?_⟩
    ·rw[mP (qS e3 e4),hrv];exact e6
    ·rw[e]at h2;cases h2
def uZ(T:FuncId→Option aC)(fu:Nat)(rec:Rec):Rec
 | .fn f,xs,H=>match T f with
   |none=>none
   |some F=>bif eA F xs then
     ((eH rec fu F.body (dR xs) ah).bind fun o=>match o.1 with
       | .exit _=>none
       |_=>(results1 o.2.1 o.2.2 F.res).bind fun v=>ec 0 o.2.2 cA v).map fun v=>(v,H)
    else(eH rec fu F.body (dR xs) {bl:=H.bl,bQ:=[],ro:=min H.ro H.bl.length}).bind fun o=>match o.1 with
     | .exit _=>none
     |_=>(results1 o.2.1 o.2.2 F.res).bind fun v=>cR F.keep H v o.2.2
 | .rW f,xs,H=>match T f with
   |none=>none
   |some F=>(eH rec fu F.body (dR xs) {bl:=H.bl,bQ:=[],ro:=min H.ro H.bl.length}).bind fun o=>match o.1 with
     | .exit _=>none
     |_=>(results1 o.2.1 o.2.2 F.res).bind fun v=>cR true H v o.2.2
 | .fp b,xs,H=>match bk H b with
   |some (.loop q .ready _)=>
    bif q.ps.length==xs.length then
     (eH rec fu q.assign ((q.ps.zip xs).reverse++q.env) {bl:=H.bl,bQ:=[],ro:=min H.ro H.bl.length}).bind fun o=>match o.1 with
      | .normal=>(ez b o.2.2).bind fun H'=>(eH rec fu q.body o.2.1 H').bind fun o=>
         (eX b (match o.1 with| .normal=>.ready|_=>.done) o.1 o.2.2).bind fun H'=>
          (cV H.bl.length H H').map fun H'=>(.bool (match o.1 with| .normal=>true|_=>false),H')
      |_=>none
    else none
   |_=>none
theorem AX{T:FuncId→Option aC}(fu n:Nat){rec:Rec}(hr:∀f xs H r,rec f xs H=some r→aa T n f xs H=some r):∀f xs H r,uZ T fu rec f xs H=some r→aa T (n+1) f xs H=some r:=by
 intro f xs H r h
 cases f with
 |fn f=>
  simp only[uZ]at h
  simp only[aa]
  split at h
  ·cases h
  ·rename_i F hF
   rw[hF]
   dsimp only
   cases hp:eA F xs with
   |true=>
    rw[hp]at h
    simp only[Zr]at h⊢
    obtain⟨v,hv,rfl⟩:=Zb.1 h
    obtain⟨o,h1,h2⟩:=Zd.1 hv
    rw[fN hr fu _ _ _ _ h1]
    obtain⟨x,e',H'⟩:=o
    cases x with
    |exit j=>cases h2
    |normal=>simp only at h2;simp only[h2,ZQ]
    |ret=>simp only at h2;simp only[h2,ZQ]
   |false=>
    rw[hp]at h
    simp only[Zu]at h⊢
    obtain⟨o,h1,h2⟩:=Zd.1 h
    rw[fN hr fu _ _ _ _ h1]
    obtain⟨x,e',H'⟩:=o
    cases x with
    |exit j=>cases h2
    |normal=>exact h2
    |ret=>exact h2
 |rW f=>
  simp only[uZ]at h
  simp only[aa]
  split at h
  ·cases h
  ·rename_i F hF
   rw[hF]
   dsimp only
   obtain⟨o,h1,h2⟩:=Zd.1 h
   rw[fN hr fu _ _ _ _ h1]
   obtain⟨x,e',H'⟩:=o
   cases x with
   |exit j=>cases h2
   |normal=>exact h2
   |ret=>exact h2
 |fp b=>
  simp only[uZ]at h
  simp only[aa]
  split at h
  ·rename_i q pend hg
   rw[hg]
   dsimp only
   cases hp:q.ps.length==xs.length with
   |false=>rw[hp]at h;cases h
   |true=>
    rw[hp]at h
    simp only[Zr]at h⊢
    obtain⟨o,h1,h2⟩:=Zd.1 h
    rw[fN hr fu _ _ _ _ h1]
    obtain⟨x,e',H'⟩:=o
    cases x with
    |exit j=>cases h2
    |ret=>cases h2
    |normal=>
     simp only at h2⊢
     obtain⟨H1,h3,h4⟩:=Zd.1 h2
     rw[h3]
     simp only[ZV]
     obtain⟨o,h5,h6⟩:=Zd.1 h4
     rw[fN hr fu _ _ _ _ h5]
     exact h6
  ·cases h
def xO(T:FuncId→Option aC)(fu:Nat)(O:Nat→Ow→List SV→Option SV):Nat→Rec
 |0,_,_,_=>none
 |n+1,c,xs,H=>match O n c xs with
  |some v=>some (v,H)
  |none=>uZ T fu (xO T fu O n) c xs H
theorem vd{T:FuncId→Option aC}(fu:Nat){O:Nat→Ow→List SV→Option SV}(hO:∀n c xs v,O n c xs=some v→∀H,aa T (n+1) c xs H=some (v,H)):∀n f xs H r,xO T fu O n f xs H=some r→aa T n f xs H=some r:=by
 intro n
 induction n with
 |zero=>intro f xs H r h;simp[xO]at h
 |succ n ih=>
  intro f xs H r h
  simp only[xO]at h
  split at h
  ·rename_i v hv
   rw[←h]
   exact hO n f xs v hv H
  ·exact AX fu n ih f xs H r h
def JI(m f:Nat)(ys:List SV)(w:SV):Nat→Ow→List SV→Option SV
 |n,.fn g,xs=>bif decide (g=f)&&decide (m≤n+1)&&gu (.agg xs) (.agg ys)then some w else none
 |_,_,_=>none
theorem xt{T:FuncId→Option aC}{m f:Nat}{ys:List SV}{w:SV}(h:∀n H,aa T (n+m) (.fn f) ys H=some (w,H)):∀n c xs v,JI m f ys w n c xs=some v→∀H,aa T (n+1) c xs H=some (v,H):=by
 intro n c xs v hv H
 cases c with
 |fn g=>
  simp only[JI]at hv
  cases hc:(decide (g=f)&&decide (m≤n+1)&&gu (.agg xs) (.agg ys))with
  |false=>rw[hc]at hv;cases hv
  |true=>
   rw[hc]at hv
   simp only[Zh,Ze]at hc
   obtain⟨⟨rfl,h1⟩,h2⟩:=hc
   have h3:=mJ _ _ h2
   injection h3 with h3
   subst h3
   have h4:=h (n+1-m) H
   rw[show n+1-m+m=n+1 by omega]at h4
   rw[h4]
   simp only[Zr,Zs]at hv
   rw[hv]
 |rW g=>cases hv
 |fp b=>cases hv
end Go.Sh
