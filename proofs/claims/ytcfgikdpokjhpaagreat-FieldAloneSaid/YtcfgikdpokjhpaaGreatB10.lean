/- A part of the proof: texts K19ra, K19rc, K19rd, K19re, K19rf, K19rg, K19rga, K19rh, K19ri, K19rj, K19rk, K19rl, K19rb, K19rm, K19rn, K19ro, K19rp, K19rq, K19va, K19vb, K19vx, ShOr. -/
import Derived.Test.YtcfgikdpokjhpaaGreatB6
import Derived.Test.YtcfgikdpokjhpaaGreatB8
import Derived.Test.YtcfgikdpokjhpaaGreatB9
import Derived.Test.YtcfgikdpokjhpaaGreatB3
namespace Go.Sh
set_option linter.unusedSectionVars false
set_option linter.unnecessarySimpa false
set_option linter.unusedSimpArgs false
set_option linter.unusedVariables false
set_option maxRecDepth 100000
set_option maxHeartbeats 4000000
structure Rs where
 ak:Bool
 hd:Bool
 k:Int
 s:Int
 d:Int
 q:Int
 o:Int
 c:Int
 m:Int
 e:Int
 t:Int
 u:Int
 v:Int
 x:ByteArray
 er:Int
abbrev CW(r:Rs):List SV:=[.bool r.ak,.bool r.hd,af5 r.k,af5 r.s,af5 r.d,af5 r.q,af5 r.o,af5 r.c,af5 r.m,af5 r.e,af5 r.t,af5 r.u,af5 r.v,.str r.x,af5 r.er]
def mj:Rs:=⟨false,false,0,0,0,0,0,0,0,0,0,0,0,⟨⟨[]⟩⟩,0⟩
def oN(a:Ac)(d:Int):Rs:=⟨false,true,a.k,a.s,a.d,a.q,a.o,a.c,a.m,a.e,a.t,a.u,a.v,a.x,d⟩
def Ij(d:Int):Rs:=⟨true,false,0,0,0,0,0,0,0,0,0,0,0,⟨⟨[]⟩⟩,d⟩
def kC(R:List Rs):List (List SV):=R.map CW
@[go_sem] theorem Aq {R:List Rs}:(kC R).length=R.length:=by simp[kC]
@[go_sem] theorem RO {R:List Rs}{i:Nat}:(kC R)[i]?=(R[i]?).map CW:=by simp[kC]
theorem Ag(R:List Rs)(i:Nat)(r:Rs):(kC R).set i (CW r)=kC (R.set i r):=by simp[kC,afO]
theorem Fx(n:Nat):List.replicate n (CW mj)=kC (List.replicate n mj):=by simp[kC]
def dZ(f:Fi)(hb:Bd f):A.Sn:=⟨f.N,f.P,f.W,f.f1,f.f2,f.f3,f.ex,f.no,f.th,f.S,f.g1,f.F,f.g2,hb.N,hb.P,hb.W,hb.S,hb.F⟩
def et(f:Fi)(s:Int)(i:Nat)(a:Ac):A.Em:=⟨i,fN.lK f.v f.a f.b f.C s a.of,nn (cT f i).1 (cT f i).2 s,bb (nn (cT f i).1 (cT f i).2 s+BU a)⟩
def Cs(f:Fi)(s:Int)(i:Nat)(a:Ac):Int:=bif decide (0≤a.d)then bb ((et f s i a).y+1832)else(et f s i a).y
def rz(f:Fi)(s:Int)(i:Nat)(a:Ac):Bool:=!decide (xl (cT f i).1 (cT f i).2 s=0)||decide (1099511627776<Cs f s i a)
def Cp(f:Fi)(s:Int)(i:Nat):Bool:=!decide (Fw (cT f i).1 (cT f i).2 s=0)
def vg(f:Fi)(s:Int)(i:Nat)(a:Ac):Bool:=bif decide (a.kd=1)then rz f s i a else bif decide (a.kd=2)then Cp f s i else false
theorem qd{f:Fi}{i:Nat}(h:i<f.K.length):f.K[i]?=some (cT f i):=by
 rw[cT,adg,adl,acK h];rfl
theorem s40(n b i:Nat)(H:ab)(f:Fi)(s:Int)(Z:List Ac)(fl:Bool)(x y z:SV)(hb:H.bl[b]?=some (.box (nI f s Z fl x y z)))(hi:i<f.K.length) :
 aa T (n+7) (.fn 40) [.ptr b 0 0 0,af5 i] H=some (af5 (bif Cp f s i then 15 else 0),H):=by
 refine de e40 rfl rfl (fun R k bl ro r hbl hk=>?_)
 obtain rfl:bl=H.bl:=by
  rcases hbl with⟨rfl,h0⟩|rfl
  ·simp[SV.refs.av,SV.refs]at h0
  ·rfl
 have h67:=fun H'=>TE n H' (cT f i).1 (cT f i).2 s
 have hg:=qd hi
 unfold Cp at hk
 generalize cT f i=p at hg h67 hk
 have:=hk []
 rw[adn]at this
 cases hc:decide (Fw p.1 p.2 s=0)with
 |true=>
  rw[hc]at this
  simp only[XR,aF,aE,aH,aG,az,aw,ax,ay,bj,aP,bg,aQ,aS,aR,aI,aO,aJ,aK,aA,ai,bM,bN,aco,acn,acD,go_sem,simprocAttr,hb,hg,hi,h67,hc,G.aM]
  exact this
 |false=>
  rw[hc]at this
  simp only[XR,aF,aE,aH,aG,az,aw,ax,ay,bj,aP,bg,aQ,aS,aR,aI,aO,aJ,aK,aA,ai,bM,bN,aco,acn,acD,go_sem,simprocAttr,hb,hg,hi,h67,hc,G.aM]
  exact this
theorem s41(n b i:Nat)(H:ab):aa T (n+1) (.fn 41) [.ptr b 0 0 0,af5 i] H=some (af6,H):=by
 refine de e41 rfl rfl (fun R k bl ro r hbl hk=>?_)
 simp only[Zn,aF,aE,aH,aG,az,aw,ax,ay,bj,aP,bg,aQ,aS,aR,aI,aO,aJ,aK,aA,ai,bM,bN,aco,acn,acD,go_sem,simprocAttr]
 have:=hk []
 rw[adn]at this
 exact this
abbrev Dn(i:Nat)(x:A.Em)(a:Ac)(ak er:Int):List SV:=[af5 i,af5 x.n,af5 x.c,af5 x.x,af5 x.y,af5 a.k,af5 a.s,af5 a.d,af5 a.q,af5 a.o,af5 a.c,af5 a.m,af5 a.e,af5 a.t,af5 a.u,af5 a.v,.str a.x,af5 ak,af5 er]
theorem sL(L:List A.Em)(x:A.Em):A.br L++[A.qK x]=A.br (L++[x]):=by simp[A.br]
theorem zH(M:List Nat)(b:Nat):pS M++[[.ptr b 0 0 0]]=pS (M++[b]):=by simp[pS]
theorem bB{A:Type}{bl:List A}{a b:Nat}{x y:A}(ha:bl[a]?=some x)(hb:bl[b]?=some y)(h:x≠y):a≠b:=fun e=>by
 subst e
 rw[ha]at hb
 cases hb
 exact h rfl
theorem m8:decide (8≤bV)=true:=by decide
theorem m32:decide (32≤bV)=true:=by decide
theorem TH(n pb i:Nat)(bl:List aC)(es:List (Nat×Nat))(f:Fi)(s:Int)(Z:List Ac)(fl:Bool)(rv:SV)(a:Ac)(hC:f.C.length≤1000)(hb:bl[pb]?=some (.box (nI f s Z fl (.ao 0 [] true) (.ao 0 [] true) rv)))
 (ha:Z[i]?=some a) (hi:i<f.K.length) :
 ∃H',aa T (n+10) (.fn 39) [.ptr pb 0 0 0,af5 i] ⟨bl,es,0⟩=some (af5 (bif rz f s i a then 15 else 0),H')∧(rz f s i a=false→∃es',
  H'=⟨bl.set pb (.box (nI f s Z fl (.bn (bl.length+4) 0 0 1) (.bn (bl.length+3) 0 0 1) rv))++[.box (Il a),.box (Dn i (et f s i a) a (-1) 0),.arr 0 1 (pS [bl.length+1]) true,.arr 0 1 (pS [bl.length+1]) false,.arr 0 4 (A.br [et f s i a]) false],es',0⟩):=by
 have hpl:=(acm.1 hb).1
 have hA:=(acm.1 ha).1
 have hg:=qd hi
 have h66:=fun H'=>XO (n+3) H' (cT f i).1 (cT f i).2 s
 have h78:=fun H'=>YQ n H' a
 have h58:=fun H' hv=>R9 (n+3) pb i H' f s Z fl (.ao 0 [] true) (.ao 0 [] true) rv a hC hv ha hA
 have g1:∀l,(bl++l)[pb]?=some (.box (nI f s Z fl (.ao 0 [] true) (.ao 0 [] true) rv)):=fun l=>fm hb
 have s1:∀l X,(bl++l).set pb X=bl.set pb X++l:=fun l X=>adZ _ _ hpl
 have l1:∀X,(bl.set pb X).length=bl.length:=fun X=>acU
 have g2:∀X l,(bl.set pb X++l)[pb]?=some X:=fun X l=>by rw[acF (by rw[l1];exact hpl),acM hpl]
 have s2:∀X Y l,(bl.set pb X++l).set pb Y=bl.set pb Y++l:=fun X Y l=>by rw[adZ _ _ (by rw[l1];exact hpl),aeU]
 have hpl2:decide (pb<bl.length+5)=true:=acp (by omega)
 have hp3:decide (bl.length+3≤pb)=false:=acs (by omega)
 have hp4:decide (bl.length+4≤pb)=false:=acs (by omega)
 unfold rz Cs et
 generalize cT f i=p at hg h66⊢
 obtain⟨X,hX⟩:∃X,bb (nn p.1 p.2 s+BU a)=X:=⟨_,rfl⟩
 rw[hX]
 suffices h:∃r,aa T (n+10) (.fn 39) [.ptr pb 0 0 0,af5 i] ⟨bl,es,0⟩=some r∧r.1=af5 (bif !decide (xl p.1 p.2 s=0)||decide (1099511627776<bif decide (0≤a.d)then bb (X+1832)else X)then 15 else 0)∧((!decide (xl p.1 p.2 s=0)||decide (1099511627776<bif decide (0≤a.d)then bb (X+1832)else X))=false→∃es',
  r.2=⟨bl.set pb (.box (nI f s Z fl (.bn (bl.length+4) 0 0 1) (.bn (bl.length+3) 0 0 1) rv))++[.box (Il a),.box (Dn i ⟨i,fN.lK f.v f.a f.b f.C s a.of,nn p.1 p.2 s,X⟩ a (-1) 0),.arr 0 1 (pS [bl.length+1]) true,.arr 0 1 (pS [bl.length+1]) false,.arr 0 4 (A.br [⟨i,fN.lK f.v f.a f.b f.C s a.of,nn p.1 p.2 s,X⟩]) false],es',0⟩) by
  obtain⟨⟨v,H'⟩,h1,rfl,h3⟩:=h
  exact⟨H',h1,h3⟩
 refine dN Zq (by rfl) ?_
 cases hc1:decide (xl p.1 p.2 s=0)with
 |false=>
  simp only[Dq,aF,aE,aH,aG,az,aw,ax,ay,bj,aP,bg,aQ,aS,aR,aI,aO,aJ,aK,aA,ai,bM,bN,aco,acn,acD,go_sem,simprocAttr,hb,g1,hg,hi,h66,hc1,G.aM]
  exact⟨trivial,fun h=>by cases h⟩
 |true=>
  cases hd:decide (0≤a.d)with
  |true=>
   cases hc2:decide (1099511627776<bb (X+1832))with
   |true=>
    simp only[Dq,aF,aE,aH,aG,az,aw,ax,ay,bj,aP,bg,aQ,aS,aR,aI,aO,aJ,aK,aA,ai,bM,bN,aco,acn,acD,go_sem,simprocAttr,hb,g1,hg,hi,hA,ha,h66,h78,h58,hc1,hc2,hd,hX,G.aM]
    exact⟨trivial,fun h=>by cases h⟩
   |false=>
    simp only[Dq,aF,aE,aH,aG,az,aw,ax,ay,bj,aP,bg,aQ,aS,aR,aI,aO,aJ,aK,aA,ai,bM,bN,aco,acn,acD,go_sem,simprocAttr,hb,g1,hg,hi,hA,ha,h66,h78,h58,hc1,hc2,hd,hX,G.aM,s1,l1,g2,s2,hpl2,hp3,hp4,m8,m32]
    exact⟨trivial,fun _=>⟨_,rfl⟩⟩
  |false=>
   cases hc2:decide (1099511627776<X)with
   |true=>
    simp only[Dq,aF,aE,aH,aG,az,aw,ax,ay,bj,aP,bg,aQ,aS,aR,aI,aO,aJ,aK,aA,ai,bM,bN,aco,acn,acD,go_sem,simprocAttr,hb,g1,hg,hi,hA,ha,h66,h78,h58,hc1,hc2,hd,hX,G.aM]
    exact⟨trivial,fun h=>by cases h⟩
   |false=>
    simp only[Dq,aF,aE,aH,aG,az,aw,ax,ay,bj,aP,bg,aQ,aS,aR,aI,aO,aJ,aK,aA,ai,bM,bN,aco,acn,acD,go_sem,simprocAttr,hb,g1,hg,hi,hA,ha,h66,h78,h58,hc1,hc2,hd,hX,G.aM,s1,l1,g2,s2,hpl2,hp3,hp4,m8,m32]
    exact⟨trivial,fun _=>⟨_,rfl⟩⟩
theorem Ux(n pb lb fb v v' i:Nat)(L:List A.Em)(q:List Nat)(bl:List aC)(es:List (Nat×Nat))(f:Fi)(s:Int)(Z:List Ac)(fl:Bool)(rv:SV)(a:Ac)(hC:f.C.length≤1000)(hb:bl[pb]?=some (.box (nI f s Z fl (.bn lb v 0 L.length) (.bn fb v' 0 q.length) rv)))
 (ha:Z[i]?=some a) (hi:i<f.K.length) (hlb:bl[lb]?=some (.arr v 4 (A.br L) false)) (hfb:bl[fb]?=some (.arr v' 1 (pS q) false)) (hL:L.length≤1000) (hq:q.length≤1000) :
 ∃H',aa T (n+10) (.fn 39) [.ptr pb 0 0 0,af5 i] ⟨bl,es,0⟩=some (af5 (bif rz f s i a then 15 else 0),H')∧(rz f s i a=false→∃es',
  H'=⟨((bl.set fb (.arr (v'+1) 1 (pS (q++[bl.length+1])) false)).set lb (.arr (v+1) 4 (A.br (L++[et f s i a])) false)).set pb (.box (nI f s Z fl (.bn lb (v+1) 0 (L.length+1)) (.bn fb (v'+1) 0 (q.length+1)) rv))++[.box (Il a),.box (Dn i (et f s i a) a (-1) 0),.arr 0 1 (pS [bl.length+1]) true],es',0⟩):=by
 have hpl:=(acm.1 hb).1
 have hA:=(acm.1 ha).1
 have hg:=qd hi
 have h66:=fun H'=>XO (n+3) H' (cT f i).1 (cT f i).2 s
 have h78:=fun H'=>YQ n H' a
 have h58:=fun H' hv=>R9 (n+3) pb i H' f s Z fl (.bn lb v 0 L.length) (.bn fb v' 0 q.length) rv a hC hv ha hA
 have g1:∀l,(bl++l)[pb]?=some (.box (nI f s Z fl (.bn lb v 0 L.length) (.bn fb v' 0 q.length) rv)):=fun l=>fm hb
 have hfl:=(acm.1 hfb).1
 have hll:=(acm.1 hlb).1
 have n1:fb≠pb:=bB hfb hb (fun h=>by cases h)
 have n2:lb≠pb:=bB hlb hb (fun h=>by cases h)
 have n3:fb≠lb:=bB hfb hlb (fun h=>by injection h with _ h2;cases h2)
 have g2:∀l,(bl++l)[fb]?=some (.arr v' 1 (pS q) false):=fun l=>fm hfb
 have g3:∀l,(bl++l)[lb]?=some (.arr v 4 (A.br L) false):=fun l=>fm hlb
 have s1:∀l X,(bl++l).set fb X=bl.set fb X++l:=fun l X=>adZ _ _ hfl
 have k1:∀X,(bl.set fb X).length=bl.length:=fun X=>acU
 have k2:∀X Y,((bl.set fb X).set lb Y).length=bl.length:=fun X Y=>by rw[acU,acU]
 have k3:∀X Y W,(((bl.set fb X).set lb Y).set pb W).length=bl.length:=fun X Y W=>by rw[acU,acU,acU]
 have s2:∀l X Y,(bl.set fb X++l).set lb Y=(bl.set fb X).set lb Y++l:=fun l X Y=>adZ _ _ (by rw[k1];exact hll)
 have s3:∀l X Y W,((bl.set fb X).set lb Y++l).set pb W=((bl.set fb X).set lb Y).set pb W++l:=fun l X Y W=>adZ _ _ (by rw[k2];exact hpl)
 have s4:∀l X Y W V,(((bl.set fb X).set lb Y).set pb W++l).set pb V=((bl.set fb X).set lb Y).set pb V++l:=fun l X Y W V=>by rw[adZ _ _ (by rw[k3];exact hpl),aeU]
 have t0:∀X l k,(bl.set fb X++l)[bl.length+k]?=l[k]?:=fun X l k=>by rw[←k1 X];exact aE _ _ _
 have t1:∀X l,(bl.set fb X++l)[pb]?=some (.box (nI f s Z fl (.bn lb v 0 L.length) (.bn fb v' 0 q.length) rv)):=fun X l=>by rw[acF (by rw[k1];exact hpl),acv n1,hb]
 have t2:∀X l,(bl.set fb X++l)[lb]?=some (.arr v 4 (A.br L) false):=fun X l=>by rw[acF (by rw[k1];exact hll),acv n3,hlb]
 have t3:∀X Y l,((bl.set fb X).set lb Y++l)[pb]?=some (.box (nI f s Z fl (.bn lb v 0 L.length) (.bn fb v' 0 q.length) rv)):=fun X Y l=>by rw[acF (by rw[k2];exact hpl),acv n2,acv n1,hb]
 have t4:∀X Y W l,(((bl.set fb X).set lb Y).set pb W++l)[pb]?=some W:=fun X Y W l=>by rw[acF (by rw[k3];exact hpl),acM (by rw[k2];exact hpl)]
 have hgF:=fun H X=>gH 1 H fb v' q.length X (pS q) yS
 have hgL:=fun H X=>gH 4 H lb v L.length X (A.br L) A.cD
 have m1:∀k,decide (fb<bl.length+k)=true:=fun k=>acp (by omega)
 have m2:∀k,decide (lb<bl.length+k)=true:=fun k=>acp (by omega)
 have m3:∀k,decide (pb<bl.length+k)=true:=fun k=>acp (by omega)
 have r1:decide ((q.length+1)*8≤bV)=true:=Dh hq
 have r2:decide ((L.length+1)*32≤bV)=true:=by rw[acr];exact ac7 (show(L.length+1)*32≤100000 by omega) (by decide)
 unfold rz Cs et
 generalize cT f i=p at hg h66⊢
 obtain⟨X,hX⟩:∃X,bb (nn p.1 p.2 s+BU a)=X:=⟨_,rfl⟩
 rw[hX]
 suffices h:∃r,aa T (n+10) (.fn 39) [.ptr pb 0 0 0,af5 i] ⟨bl,es,0⟩=some r∧r.1=af5 (bif !decide (xl p.1 p.2 s=0)||decide (1099511627776<bif decide (0≤a.d)then bb (X+1832)else X)then 15 else 0)∧((!decide (xl p.1 p.2 s=0)||decide (1099511627776<bif decide (0≤a.d)then bb (X+1832)else X))=false→∃es',
  r.2=⟨((bl.set fb (.arr (v'+1) 1 (pS (q++[bl.length+1])) false)).set lb (.arr (v+1) 4 (A.br (L++[⟨i,fN.lK f.v f.a f.b f.C s a.of,nn p.1 p.2 s,X⟩])) false)).set pb (.box (nI f s Z fl (.bn lb (v+1) 0 (L.length+1)) (.bn fb (v'+1) 0 (q.length+1)) rv))++[.box (Il a),.box (Dn i ⟨i,fN.lK f.v f.a f.b f.C s a.of,nn p.1 p.2 s,X⟩ a (-1) 0),.arr 0 1 (pS [bl.length+1]) true],es',0⟩) by
  obtain⟨⟨v,H'⟩,h1,rfl,h3⟩:=h
  exact⟨H',h1,h3⟩
 have hsn:A.br L++[[af5 i,af5 (fN.lK f.v f.a f.b f.C s a.of),af5 (nn p.1 p.2 s),af5 X]]=A.br (L++[⟨i,fN.lK f.v f.a f.b f.C s a.of,nn p.1 p.2 s,X⟩]):=sL L ⟨i,fN.lK f.v f.a f.b f.C s a.of,nn p.1 p.2 s,X⟩
 refine dN Zq (by rfl) ?_
 cases hc1:decide (xl p.1 p.2 s=0)with
 |false=>
  simp only[Dq,aF,aE,aH,aG,az,aw,ax,ay,bj,aP,bg,aQ,aS,aR,aI,aO,aJ,aK,aA,ai,bM,bN,aco,acn,acD,go_sem,simprocAttr,hb,g1,hg,hi,h66,hc1,G.aM]
  exact⟨trivial,fun h=>by cases h⟩
 |true=>
  cases hd:decide (0≤a.d)with
  |true=>
   cases hc2:decide (1099511627776<bb (X+1832))with
   |true=>
    simp only[Dq,aF,aE,aH,aG,az,aw,ax,ay,bj,aP,bg,aQ,aS,aR,aI,aO,aJ,aK,aA,ai,bM,bN,aco,acn,acD,go_sem,simprocAttr,hb,g1,hg,hi,hA,ha,h66,h78,h58,hc1,hc2,hd,hX,G.aM]
    exact⟨trivial,fun h=>by cases h⟩
   |false=>
    simp only[Dq,aF,aE,aH,aG,az,aw,ax,ay,bj,aP,bg,aQ,aS,aR,aI,aO,aJ,aK,aA,ai,bM,bN,aco,acn,acD,go_sem,simprocAttr,hb,g1,hg,hi,hA,ha,h66,h78,h58,hc1,hc2,hd,hX,G.aM,g2,g3,hgF,hgL,s1,k1,k2,k3,s2,s3,s4,t0,t1,t2,t3,t4,m1,m2,m3,r1,r2,hsn,zH,yS,A.cD,acU]
    exact⟨trivial,fun _=>⟨_,rfl⟩⟩
  |false=>
   cases hc2:decide (1099511627776<X)with
   |true=>
    simp only[Dq,aF,aE,aH,aG,az,aw,ax,ay,bj,aP,bg,aQ,aS,aR,aI,aO,aJ,aK,aA,ai,bM,bN,aco,acn,acD,go_sem,simprocAttr,hb,g1,hg,hi,hA,ha,h66,h78,h58,hc1,hc2,hd,hX,G.aM]
    exact⟨trivial,fun h=>by cases h⟩
   |false=>
    simp only[Dq,aF,aE,aH,aG,az,aw,ax,ay,bj,aP,bg,aQ,aS,aR,aI,aO,aJ,aK,aA,ai,bM,bN,aco,acn,acD,go_sem,simprocAttr,hb,g1,hg,hi,hA,ha,h66,h78,h58,hc1,hc2,hd,hX,G.aM,g2,g3,hgF,hgL,s1,k1,k2,k3,s2,s3,s4,t0,t1,t2,t3,t4,m1,m2,m3,r1,r2,hsn,zH,yS,A.cD,acU]
    exact⟨trivial,fun _=>⟨_,rfl⟩⟩
theorem oV{cs ds:List SV}(h:cs.length≠ds.length):aC.box cs≠aC.box ds:=fun e=>by
 injection e with e
 exact h (congrArg List.length e)
def iV(s:A.Sn)(L:List A.Em)(y:A.Em):Option Nat:=bif decide (A.pr (A.eN s) s.N.length L=0)then(bif decide (y.n<0)||decide ((s.N.length:Int)≤y.n)then none else bif A.Jv y then none else A.iy s L y L.length)else none
theorem Js(s:A.Sn)(L:List A.Em)(y:A.Em):∃e:Int,A.KZ s L y=.bc [af5 (A.Fl (iV s L y)),.bool (iV s L y).isSome,af5 e]∧((iV s L y).isSome=true→e=0):=by
 unfold A.KZ iV
 cases decide (A.pr (A.eN s) s.N.length L=0)with
 |false=>exact⟨_,rfl,fun h=>by cases h⟩
 |true=>
  cases decide (y.n<0)||decide ((s.N.length:Int)≤y.n)with
  |true=>exact⟨_,rfl,fun h=>by cases h⟩
  |false=>
   cases A.Jv y with
   |true=>exact⟨_,rfl,fun h=>by cases h⟩
   |false=>exact⟨_,rfl,fun _=>rfl⟩
theorem mN{s:A.Sn}{L:List A.Em}{y:A.Em}{b:Nat}(h:iV s L y=some b):b<L.length:=by
 unfold iV at h
 cases h1:decide (A.pr (A.eN s) s.N.length L=0)with
 |false=>rw[h1]at h;cases h
 |true=>
  rw[h1]at h
  cases h2:decide (y.n<0)||decide ((s.N.length:Int)≤y.n)with
  |true=>rw[h2]at h;cases h
  |false=>
   rw[h2]at h
   cases h3:A.Jv y with
   |true=>rw[h3]at h;cases h
   |false=>rw[h3]at h;exact(A.yf _ _ _ _ _ h).2
def gL(f:Fi)(s:Int)(i:Nat)(a:Ac):A.Em:=⟨i,fN.lK f.v f.a f.b f.C s a.of,BP (cT f i).1 (cT f i).2 s,Cg (cT f i).1 (cT f i).2 s⟩
def IP(z x:A.Em):Bool:=decide (z.n=x.n)&&(decide (z.c=x.c)&&(decide (z.x=x.x)&&decide (z.y=x.y)))
def BS(L:List A.Em)(o:Option Nat)(x:A.Em):Bool:=match o with
 |some q=>match L[q]? with|some z=>IP z x|none=>false
 |none=>false
def gC(x:A.Em)(i:Nat):A.Em:=⟨i,x.c,bb (x.y+1000),bb (bb (x.y+1000)+832)⟩
def jQ(bl:List aC)(pb rb lb xb v i j:Nat)(f:Fi)(s:Int)(Z:List Ac)(fl:Bool)(fv:SV)(L:List A.Em)(R:List Rs)(a:Ac)(x:A.Em)(d:Int)(hd:Bool):List aC:=
 bif hd then(bif decide (a.d=i)then(((bl.set rb (.arr 0 15 (kC (R.set i (oN a d))) true)).set xb (.box (Dn j x a L.length d))).set lb (.arr (v+1) 4 (A.br (L++[gC x i])) false)).set pb (.box (nI f s Z fl (.bn lb (v+1) 0 (L.length+1)) fv (.bn rb 0 0 R.length)))
  else bl.set rb (.arr 0 15 (kC (R.set i (oN a d))) true))else bl
theorem tp(L:List A.Em):Still (A.br L):=by
 intro cs hcs c hc
 simp only[A.br,adt]at hcs
 obtain⟨e,_,rfl⟩:=hcs
 simp only[A.qK,adj,List.mem_nil_iff,or_false]at hc
 rcases hc with rfl|rfl|rfl|rfl<;>exact⟨rfl,fun _ _ _=>rfl⟩
theorem Pa(a:Int)(b:Bool)(c:Int):zn (.bc [af5 a,.bool b,af5 c])=true:=rfl
theorem s46(n pb rb lb xb v i j:Nat)(bl:List aC)(es:List (Nat×Nat))(f:Fi)(hbd:Bd f)(s:Int)(Z:List Ac)(fl:Bool)(fv:SV)(L:List A.Em)(R:List Rs)(a b:Ac)(x:A.Em)(ak er:Int)
 (hp:bl[pb]?=some (.box (nI f s Z fl (.bn lb v 0 L.length) fv (.bn rb 0 0 R.length)))) (hlb:bl[lb]?=some (.arr v 4 (A.br L) false)) (hrb:bl[rb]?=some (.arr 0 15 (kC R) true))
 (hxb:bl[xb]?=some (.box (Dn j x a ak er))) (hb:Z[i]?=some b) (hi:i<f.K.length) (hR:R.length=Z.length) (hL:L.length≤10000) (M:Nat) (hlM:lb<M) (hMb:M≤bl.length) (he:c0 M es) :
 ∃es',c0 M es'∧aa T (n+30) (.fn 46) [.ptr pb 0 0 0,af5 i,.ptr xb 0 0 0] ⟨bl,es,0⟩=some (.bc [],⟨jQ bl pb rb lb xb v i j f s Z fl fv L R a x (tn (cT f i).1 (cT f i).2 s x.x) (BS L (iV (dZ f hbd) L (gL f s i b)) x),es',0⟩):=by
 have hlp:lb<bl.length:=by omega
 have hA:=(acm.1 hb).1
 have hpl:=(acm.1 hp).1
 have hrl:=(acm.1 hrb).1
 have hxl:=(acm.1 hxb).1
 have hg:=qd hi
 have h67:=fun H'=>TE (n+23) H' (cT f i).1 (cT f i).2 s
 have h58:=fun H' hv=>R9 (n+23) pb i H' f s Z fl (.bn lb v 0 L.length) fv (.bn rb 0 0 R.length) b hbd.C hv hb hA
 have h82:=fun y=>A.s82 (n+11) ⟨[],[],0⟩ (dZ f hbd) L false y (ac7 hL (by decide))
 have h83:=fun H' t=>s83 (n+25) H' (cT f i).1 (cT f i).2 s t
 have hfz:=fun H d=>(tp L).fz 0 H 6 d L.length 4 false (by simp[A.br])
 obtain⟨hr,hv,hr0⟩:=Js (dZ f hbd) L (gL f s i b)
 unfold gL at hv hr0⊢
 generalize cT f i=p at hg h67 h83 hv hr0⊢
 obtain⟨o,ho⟩:∃o,iV (dZ f hbd) L ⟨i,fN.lK f.v f.a f.b f.C s b.of,BP p.1 p.2 s,Cg p.1 p.2 s⟩=o:=⟨_,rfl⟩
 have ho':∀q,o=some q→q<L.length:=fun q h=>mN (ho.trans h)
 rw[ho]at hv hr0⊢
 suffices h:∃r,aa T (n+30) (.fn 46) [.ptr pb 0 0 0,af5 i,.ptr xb 0 0 0] ⟨bl,es,0⟩=some r∧∃es',c0 M es'∧r=(.bc [],⟨jQ bl pb rb lb xb v i j f s Z fl fv L R a x (tn p.1 p.2 s x.x) (BS L o x),es',0⟩) by
  obtain⟨r,h1,es',h2,rfl⟩:=h
  exact⟨es',h2,h1⟩
 refine dN e46 (qm (by simp[SV.refs.av,SV.refs])) ?_
 have h82:=h82 ⟨i,fN.lK f.v f.a f.b f.C s b.of,BP p.1 p.2 s,Cg p.1 p.2 s⟩
 rw[hv]at h82
 simp only[dZ,A.xF,A.BO,A.qK]at h82
 have n1:rb≠pb:=bB hrb hp (fun h=>by cases h)
 have n2:lb≠pb:=bB hlb hp (fun h=>by cases h)
 have n3:lb≠rb:=bB hlb hrb (fun h=>by injection h with _ h2;cases h2)
 have n4:xb≠pb:=bB hxb hp (oV (by simp))
 have n5:xb≠rb:=bB hxb hrb (fun h=>by cases h)
 have n6:xb≠lb:=bB hxb hlb (fun h=>by cases h)
 have l0:decide (lb<0)=false:=rfl
 have l1:∀X,(bl.set rb X).length=bl.length:=fun X=>acU
 have l2:∀X Y,((bl.set rb X).set xb Y).length=bl.length:=fun X Y=>by rw[acU,acU]
 have l3:∀X Y W,(((bl.set rb X).set xb Y).set lb W).length=bl.length:=fun X Y W=>by rw[acU,acU,acU]
 have l4:∀X Y W V,((((bl.set rb X).set xb Y).set lb W).set pb V).length=bl.length:=fun X Y W V=>by rw[acU,acU,acU,acU]
 have s1:∀X Y Y',((bl.set rb X).set xb Y).set xb Y'=(bl.set rb X).set xb Y':=fun X Y Y'=>aeU ..
 have p1:∀X,(bl.set rb X)[pb]?=some (.box (nI f s Z fl (.bn lb v 0 L.length) fv (.bn rb 0 0 R.length))):=fun X=>by rw[acv n1,hp]
 have p2:∀X,(bl.set rb X)[xb]?=some (.box (Dn j x a ak er)):=fun X=>by rw[acv (Ne.symm n5),hxb]
 have p3:∀X,(bl.set rb X)[lb]?=some (.arr v 4 (A.br L) false):=fun X=>by rw[acv (Ne.symm n3),hlb]
 have q1:∀X Y,((bl.set rb X).set xb Y)[pb]?=some (.box (nI f s Z fl (.bn lb v 0 L.length) fv (.bn rb 0 0 R.length))):=fun X Y=>by rw[acv n4,p1]
 have q2:∀X Y,((bl.set rb X).set xb Y)[xb]?=some Y:=fun X Y=>acM (by rw[l1];exact hxl)
 have q3:∀X Y,((bl.set rb X).set xb Y)[lb]?=some (.arr v 4 (A.br L) false):=fun X Y=>by rw[acv n6,p3]
 have r1:∀X Y W,(((bl.set rb X).set xb Y).set lb W)[pb]?=some (.box (nI f s Z fl (.bn lb v 0 L.length) fv (.bn rb 0 0 R.length))):=fun X Y W=>by rw[acv n2,q1]
 have ht:bl.take bl.length=bl:=adF
 have ht1:∀X,(bl.set rb X).take bl.length=bl.set rb X:=fun X=>by rw[←l1 X,adF]
 have ht4:∀X Y W V,((((bl.set rb X).set xb Y).set lb W).set pb V).take bl.length=(((bl.set rb X).set xb Y).set lb W).set pb V:=fun X Y W V=>by rw[←l4 X Y W V,adF]
 have hgL:=fun H X=>gH 4 H lb v L.length X (A.br L) A.cD
 have d1:decide (rb<bl.length)=true:=acp hrl
 have d2:decide (xb<bl.length)=true:=acp hxl
 have d3:decide (lb<bl.length)=true:=acp hlp
 have d4:decide (pb<bl.length)=true:=acp hpl
 have rm:decide ((L.length+1)*32≤bV)=true:=by rw[acr];exact ac7 (show(L.length+1)*32≤400000 by omega) (by decide)
 have hA2:i<R.length:=by omega
 obtain⟨row,hrow⟩:=bO hA2
 have hrw:(kC R).set i [.bool false,.bool true,af5 a.k,af5 a.s,af5 a.d,af5 a.q,af5 a.o,af5 a.c,af5 a.m,af5 a.e,af5 a.t,af5 a.u,af5 a.v,.str a.x,af5 (tn p.1 p.2 s x.x)]=kC (R.set i (oN a (tn p.1 p.2 s x.x))):=Ag R i (oN a (tn p.1 p.2 s x.x))
 have hsn:A.br L++[[af5 i,af5 x.c,af5 (bb (x.y+1000)),af5 (bb (bb (x.y+1000)+832))]]=A.br (L++[gC x i]):=sL L (gC x i)
 have he5:c0 M (bif decide (lb≤pb)then[]else[(pb,lb+1)]):=gu (aV _) (by omega)
 unfold jQ BS
 cases o with
 |none=>
  simp only[A.Fl,afN]at h82
  cases h0:decide (hr=0)with
  |true=>
   simp only[Lk,aF,aE,aH,aG,az,aw,ax,ay,bj,aP,bg,aQ,aS,aR,aI,aO,aJ,aK,aA,ai,bM,bN,aco,acn,acD,go_sem,simprocAttr,hp,hg,hi,h67,h58,hfz,hlb,h82,hb,G.aM,l0,Pa,ht,cO (aV _),h0]
   exact⟨es,he,rfl⟩
  |false=>
   simp only[Lk,aF,aE,aH,aG,az,aw,ax,ay,bj,aP,bg,aQ,aS,aR,aI,aO,aJ,aK,aA,ai,bM,bN,aco,acn,acD,go_sem,simprocAttr,hp,hg,hi,h67,h58,hfz,hlb,h82,hb,G.aM,l0,Pa,ht,cO (aV _),h0]
   exact⟨es,he,rfl⟩
 |some q=>
  have hq:=ho' q rfl
  obtain⟨z,hz⟩:=bO hq
  obtain rfl:=hr0 rfl
  simp only[A.Fl,aeZ]at h82
  simp only[hz]
  unfold IP
  cases e1:decide (z.n=x.n)&&(decide (z.c=x.c)&&(decide (z.x=x.x)&&decide (z.y=x.y)))with
  |false=>
   simp only[Lk,aF,aE,aH,aG,az,aw,ax,ay,bj,aP,bg,aQ,aS,aR,aI,aO,aJ,aK,aA,ai,bM,bN,aco,acn,acD,go_sem,simprocAttr,hp,hg,hi,h67,h58,hfz,hlb,h82,hb,G.aM,l0,Pa,ht,cO (aV _),hq,hz,hxb,e1]
   exact⟨es,he,rfl⟩
  |true=>
   cases e2:decide (a.d=(i:Int))with
   |false=>
    simp only[Lk,aF,aE,aH,aG,az,aw,ax,ay,bj,aP,bg,aQ,aS,aR,aI,aO,aJ,aK,aA,ai,bM,bN,aco,acn,acD,go_sem,simprocAttr,hp,hg,hi,h67,h58,hfz,hlb,h82,hb,G.aM,l0,Pa,ht,cO (aV _),hq,hz,hxb,e1,e2,h83,hrb,hA2,hrow,d1,p2,l1,ht1,hrw]
    exact⟨es,he,rfl⟩
   |true=>
    simp only[Lk,aF,aE,aH,aG,az,aw,ax,ay,bj,aP,bg,aQ,aS,aR,aI,aO,aJ,aK,aA,ai,bM,bN,aco,acn,acD,go_sem,simprocAttr,hp,hg,hi,h67,h58,hfz,hlb,h82,hb,G.aM,l0,Pa,ht,cO (aV _),hq,hz,hxb,e1,e2,h83,hrb,hA2,hrow,d1,d2,d3,d4,p1,p2,p3,q1,q2,q3,r1,s1,l1,l2,l3,l4,ht1,ht4,hgL,rm,hrw,hsn,cO (lG he5 hMb)]
    exact⟨_,cj he (cd _ he5),rfl⟩
theorem n9{A:Type}{bl:List A}{N:Nat}(h:bl.length=N)(l:List A):(bl++l)[N]?=l[0]?:=by rw[←h];exact aF _ _
theorem gX{A:Type}{bl:List A}{N:Nat}(h:bl.length=N)(l:List A)(k:Nat):(bl++l)[N+k]?=l[k]?:=by rw[←h];exact aE _ _ _
theorem qj{A:Type}{bl:List A}{N:Nat}(h:bl.length=N)(l:List A)(x:A):(bl++l).set N x=bl++l.set 0 x:=by rw[←h];exact aH _ _ _
theorem oe{A:Type}{bl:List A}{N:Nat}(h:bl.length=N)(l:List A)(x:A)(k:Nat):(bl++l).set (N+k) x=bl++l.set k x:=by rw[←h];exact aG _ _ _ _
theorem nE{A:Type}{bl:List A}{N:Nat}(h:bl.length=N)(l:List A)(k:Nat):(bl++l).take (N+k)=bl++l.take k:=by rw[←h];exact aw _ _ _
theorem Ch{p:cu}{N M:Nat}(hM:M≤N){H0:ab}{e env:Env}{bl:List aC}{es:List (Nat×Nat)}{ro:Nat}(hv:p.bC=[])(hk:ko p.live=false)(henv:dM p.live e=env)(hr:SV.refs.av (env.map (·.2))≤N)(hN:bl.length=N)(he:c0 M es)(h0:c0 M H0.bT) :
 mD p N H0 (e,⟨bl,es,ro⟩) (fun s=>∃es',c0 M es'∧s=(env,⟨bl,es',H0.ro⟩)):=by
 subst henv
 exact⟨_,sT hv hk hr hN (lG he hM),_,cj h0 (cd _ he),rfl⟩
theorem tw{p:cu}{N M:Nat}(hM:M≤N){H0:ab}{e env:Env}{bl l:List aC}{es:List (Nat×Nat)}{ro:Nat}(hv:p.bC=[])(hk:ko p.live=false)(henv:dM p.live e=env)(hr:SV.refs.av (env.map (·.2))≤N)(hN:bl.length=N)(he:c0 M es)(h0:c0 M H0.bT) :
 mD p N H0 (e,⟨bl++l,es,ro⟩) (fun s=>∃es',c0 M es'∧s=(env,⟨bl,es',H0.ro⟩)):=by
 subst henv
 exact⟨_,rO hv hk hr hN (lG he hM),_,cj h0 (cd _ he),rfl⟩
theorem s81(n N:Nat)(f:Fi)(s:Int)(Z:List Ac)(fl:Bool)(X0 X1:aC)(q:fj)(hX1:X1=.box [.ptr 2 0 0 0])(hZ:Z.length≤maxLen)(I:Nat→List aC→Prop)
 (hI:∀i bl,I i bl→bl.length=N∧2<N∧∃x y z,bl[2]?=some (.box (nI f s Z fl x y z)))
 (hno:∀i bl b,I i bl→Z[i]?=some b→decide (b.kd=2)=false→I (i+1) bl)
 (hy:∀i bl b X es,c0 N es→I i bl→Z[i]?=some b→decide (b.kd=2)=true→∃bl' es',I (i+1) bl'∧c0 N es'∧aa T (n+1) (.fP (N+2)) [af5 i] ⟨bl++[X0,X1,.loop q .ready .normal,X],es,0⟩=some (.bool true,⟨bl'++[X0,X1,.loop q .ready .normal,X],es',0⟩))
 (bl:List aC) (es:List (Nat×Nat)) (he:c0 N es) (h0:I 0 bl) :
 ∃bl' es',I Z.length bl'∧c0 N es'∧aa T (n+2) (.fn 81) [.fP (N+2),.ptr (N+1) 0 0 0] ⟨bl++[X0,X1,.loop q .ready .normal],es,0⟩=some (.bc [],⟨bl'++[X0,X1,.loop q .ready .normal],es',0⟩):=by
 subst hX1
 suffices h:∃r,aa T (n+2) (.fn 81) [.fP (N+2),.ptr (N+1) 0 0 0] ⟨bl++[X0,.box [.ptr 2 0 0 0],.loop q .ready .normal],es,0⟩=some r∧∃bl' es',I Z.length bl'∧c0 N es'∧r=(.bc [],⟨bl'++[X0,.box [.ptr 2 0 0 0],.loop q .ready .normal],es',0⟩) by
  obtain⟨r,h1,bl',es',h2,h3,rfl⟩:=h
  exact⟨bl',es',h2,h3,h1⟩
 refine dN ZS (qm (by simp[SV.refs.av,SV.refs])) ?_
 obtain⟨hN,h2N,x,y,z,hp⟩:=hI 0 bl h0
 have hp':∀l,(bl++l)[2]?=some (.box (nI f s Z fl x y z)):=fun l=>fm hp
 simp only[ZR,aF,aE,aH,aG,az,aw,ax,ay,bj,aP,bg,aQ,aS,aR,aI,aO,aJ,aK,aA,ai,bM,bN,aco,acn,acD,go_sem,simprocAttr,hp',nD,hN,gX hN]
 refine cw (fun i s=>∃bl' es',I i bl'∧c0 N es'∧s=([(0,.fP (N+2)),(8,.ao 14 (ic Z) fl),(9,af5 Z.length),(10,af5 i)],⟨bl'++[X0,.box [.ptr 2 0 0 0],.loop q .ready .normal],es',0⟩)) Z.length ?_ ?_
 ·refine aX (Ch (show N≤N+3 by omega) rfl rfl (by simp only[go_sem,simprocAttr]<;>rfl) (by simp[SV.refs,SV.refs.av]) (by simp[hN]) (aV _) (aV _)) ?_
  rintro s ⟨es',h,rfl⟩
  exact⟨bl,es',h0,h,rfl⟩
 ·rintro i s hi ⟨bl',es',hIi,he',rfl⟩
  have hl:=(hI i bl' hIi).1
  have t1:=n9 hl
  have t2:=gX hl
  have t3:=qj hl
  have t4:=oe hl
  have t5:=nE hl
  rcases acz i Z.length with hlt|hge
  ·obtain⟨b,hb⟩:=bO hlt
   have hw:=bE hlt hZ
   cases hk:decide (b.kd=2)with
   |false=>
    have hn:=hno i bl' b hIi hb hk
    simp only[go_sem,simprocAttr,hlt,hb,aF,aE,aH,aG,az,aw,ax,ay,bj,aP,bg,aQ,aS,aR,aI,aO,aJ,aK,aA,ai,bM,bN,aco,acn,acD,hl,t1,t2,t3,t4,t5,hk,hw]
    rw[show ∀Y,bl'++[X0,.box [.ptr 2 0 0 0],.loop q .ready .normal,Y]=(bl'++[X0,.box [.ptr 2 0 0 0],.loop q .ready .normal])++[Y]from fun Y=>by simp]
    refine⟨by first|trivial|omega,aX (tw (show N≤N+3 by omega) rfl rfl (by simp only[go_sem,simprocAttr]<;>rfl) (by simp[SV.refs,SV.refs.av]) (by simp[hl]) he' (aV _)) ?_⟩
    rintro s ⟨es3,h,rfl⟩
    exact⟨bl',es3,hn,h,rfl⟩
   |true=>
    obtain⟨bl2,es2,hI2,he2,hyc⟩:=hy i bl' b (.box (zT b)) es' he' hIi hb hk
    have hl2:=(hI _ bl2 hI2).1
    simp only[go_sem,simprocAttr,hlt,hb,aF,aE,aH,aG,az,aw,ax,ay,bj,aP,bg,aQ,aS,aR,aI,aO,aJ,aK,aA,ai,bM,bN,aco,acn,acD,hl,t1,t2,t3,t4,t5,hk,hw,hyc]
    rw[show ∀Y,bl2++[X0,.box [.ptr 2 0 0 0],.loop q .ready .normal,Y]=(bl2++[X0,.box [.ptr 2 0 0 0],.loop q .ready .normal])++[Y]from fun Y=>by simp]
    refine⟨by first|trivial|omega,aX (tw (show N≤N+3 by omega) rfl rfl (by simp only[go_sem,simprocAttr]<;>rfl) (by simp[SV.refs,SV.refs.av]) (by simp[hl2]) he2 (aV _)) ?_⟩
    rintro s ⟨es3,h,rfl⟩
    exact⟨bl2,es3,hI2,h,rfl⟩
  ·obtain rfl:i=Z.length:=by omega
   have hd:decide (Z.length<Z.length)=false:=acs (by omega)
   simp only[go_sem,simprocAttr,hd,aF,aE,aH,aG,az,aw,ax,ay,bj,aP,bg,aQ,aS,aR,aI,aO,aJ,aK,aA,ai,bM,bN,aco,acn,acD,hl,hN,t5,cO (lG he' (show N≤N+3 by omega))]
   exact⟨bl',_,hIi,cj he (cd _ he'),rfl⟩
structure St where
 L:List A.Em
 R:List Rs
 Q:List (Int×Int)
def dS(f:Fi)(hb:Bd f)(s:Int)(Z:List Ac)(x:A.Em)(j:Nat)(a:Ac)(st:St)(i:Nat):St:=match Z[i]? with
 |some b=>bif decide (b.kd=2)&&BS st.L (iV (dZ f hb) st.L (gL f s i b)) x then
   (bif decide (a.d=(i:Int))then⟨st.L++[gC x i],st.R.set i (oN a (tn (cT f i).1 (cT f i).2 s x.x)),st.Q.set j ((st.L.length:Int),tn (cT f i).1 (cT f i).2 s x.x)⟩
    else⟨st.L,st.R.set i (oN a (tn (cT f i).1 (cT f i).2 s x.x)),st.Q⟩)else st
 |none=>st
def fH(f:Fi)(hb:Bd f)(s:Int)(Z:List Ac)(x:A.Em)(j:Nat)(a:Ac)(st:St):Nat→St
 |0=>st
 |i+1=>dS f hb s Z x j a (fH f hb s Z x j a st i) i
structure PJ(f:Fi)(s:Int)(Z:List Ac)(fl:Bool)(ar:List A.Em)(q sq:List Nat)(lb fb v' N:Nat)(st:St)(bl:List aC):Prop where
 len:bl.length=N
 b0:bl[0]?=some (.box (tS f))
 b1:bl[1]?=some (.arr 0 15 (kC st.R) true)
 b2:∃v,bl[2]?=some (.box (nI f s Z fl (.bn lb v 0 st.L.length) (.bn fb v' 0 q.length) (.bn 1 0 0 st.R.length)))∧bl[lb]?=some (.arr v 4 (A.br st.L) false)
 b3:bl[3]?=some (.box [.ptr 2 0 0 0])
 bf:bl[fb]?=some (.arr v' 1 (pS sq) false)
 bq:∀(k b:Nat) (x:A.Em) (a:Ac),q[k]?=some b→ar[k]?=some x→Z[x.n.toNat]?=some a→∃z,st.Q[x.n.toNat]?=some z∧bl[b]?=some (.box (Dn x.n.toNat x a z.1 z.2))
 lR:st.R.length=Z.length
 lQ:st.Q.length=Z.length
theorem xU(bl l:List aC)(pb rb lb xb v i j:Nat)(f:Fi)(s:Int)(Z:List Ac)(fl:Bool)(fv:SV)(L:List A.Em)(R:List Rs)(a:Ac)(x:A.Em)(d:Int)(hd:Bool)(h1:pb<bl.length)(h2:rb<bl.length)(h3:lb<bl.length)(h4:xb<bl.length) :
 jQ (bl++l) pb rb lb xb v i j f s Z fl fv L R a x d hd=jQ bl pb rb lb xb v i j f s Z fl fv L R a x d hd++l:=by
 unfold jQ
 cases hd with
 |false=>rfl
 |true=>
  cases decide (a.d=(i:Int))with
  |false=>simp only[acG,acJ];rw[adZ _ _ h2]
  |true=>
   simp only[acG]
   rw[adZ _ _ h2,adZ _ _ (by simpa using h4),adZ _ _ (by simpa using h3),adZ _ _ (by simpa using h1)]
theorem AP{q:List Nat}(h:q.Nodup){i j b:Nat}(hi:q[i]?=some b)(hj:q[j]?=some b):i=j:=by
 obtain⟨h1,h2⟩:=acm.1 hi
 obtain⟨h3,h4⟩:=acm.1 hj
 have hp:=aeP.1 h
 rcases ad7 i j with hl|hl|hl
 ·exact absurd (h2.trans h4.symm) (hp i j h1 h3 hl)
 ·exact hl
 ·exact absurd (h4.trans h2.symm) (hp j i h3 h1 hl)
theorem PJ.WO{f:Fi}{hbd:Bd f}{s:Int}{Z:List Ac}{fl:Bool}{ar:List A.Em}{q sq:List Nat}{lb fb v' N:Nat}{st:St}{bl:List aC}(h:PJ f s Z fl ar q sq lb fb v' N st bl)
 (hq:q.Nodup) (hn:∀(k k':Nat) (x x':A.Em),ar[k]?=some x→ar[k']?=some x'→x.n.toNat=x'.n.toNat→k=k')
 {v k xb:Nat} {x:A.Em} {a b:Ac} {i:Nat} (hk:q[k]?=some xb) (hx:ar[k]?=some x) (ha:Z[x.n.toNat]?=some a) (hb:Z[i]?=some b) (hkd:decide (b.kd=2)=true)
 (h2:bl[2]?=some (.box (nI f s Z fl (.bn lb v 0 st.L.length) (.bn fb v' 0 q.length) (.bn 1 0 0 st.R.length)))) (hlb:bl[lb]?=some (.arr v 4 (A.br st.L) false)) :
 PJ f s Z fl ar q sq lb fb v' N (dS f hbd s Z x x.n.toNat a st i) (jQ bl 2 1 lb xb v i x.n.toNat f s Z fl (.bn fb v' 0 q.length) st.L st.R a x (tn (cT f i).1 (cT f i).2 s x.x) (BS st.L (iV (dZ f hbd) st.L (gL f s i b)) x)):=by
 obtain⟨z,hz,hxb⟩:=h.bq k xb x a hk hx ha
 unfold dS
 simp only[hb,hkd,ac9]
 unfold jQ
 cases hd:BS st.L (iV (dZ f hbd) st.L (gL f s i b)) x with
 |false=>exact h
 |true=>
  have b0:=h.b0
  have b1:=h.b1
  have b3:=h.b3
  have bf:=h.bf
  have n01:(1:Nat)≠0:=by omega
  have nx0:xb≠0:=bB hxb b0 (oV (by simp))
  have nx1:xb≠1:=bB hxb b1 (fun e=>by cases e)
  have nx2:xb≠2:=bB hxb h2 (oV (by simp))
  have nx3:xb≠3:=bB hxb b3 (oV (by simp))
  have nxl:xb≠lb:=bB hxb hlb (fun e=>by cases e)
  have nxf:xb≠fb:=bB hxb bf (fun e=>by cases e)
  have nl0:lb≠0:=bB hlb b0 (fun e=>by cases e)
  have nl1:lb≠1:=bB hlb b1 (fun e=>by injection e with _ e;cases e)
  have nl2:lb≠2:=bB hlb h2 (fun e=>by cases e)
  have nl3:lb≠3:=bB hlb b3 (fun e=>by cases e)
  have nlf:lb≠fb:=bB hlb bf (fun e=>by injection e with _ e;cases e)
  have nf1:fb≠1:=bB bf b1 (fun e=>by injection e with _ e;cases e)
  have nf2:fb≠2:=bB bf h2 (fun e=>by cases e)
  have l1:=(acm.1 b1).1
  have l2:=(acm.1 h2).1
  have ll:=(acm.1 hlb).1
  have lx:=(acm.1 hxb).1
  have other:∀(k' b':Nat) (x':A.Em) (a':Ac),q[k']?=some b'→ar[k']?=some x'→Z[x'.n.toNat]?=some a'→k'≠k→b'≠xb∧x'.n.toNat≠x.n.toNat:=fun k' b' x' a' hk' hx' _ hne=>by
   refine⟨fun e=>?_,fun e=>hne (hn k' k x' x hx' hx e)⟩
   subst e
   obtain⟨g1,g2⟩:=acm.1 hk
   obtain⟨g3,g4⟩:=acm.1 hk'
   exact hne (AP hq hk' hk)
  have bne:∀(k' b':Nat) (x':A.Em) (a':Ac),q[k']?=some b'→ar[k']?=some x'→Z[x'.n.toNat]?=some a'→b'≠1∧b'≠lb∧b'≠2:=fun k' b' x' a' hk' hx' ha'=>by
   obtain⟨z',_,hb'⟩:=h.bq k' b' x' a' hk' hx' ha'
   exact⟨bB hb' b1 (fun e=>by cases e),bB hb' hlb (fun e=>by cases e),bB hb' h2 (oV (by simp))⟩
  cases hdd:decide (a.d=(i:Int))with
  |false=>
   simp only[acG,acJ]
   refine⟨by rw[acU];exact h.len,?_,acM l1,⟨v,?_,?_⟩,?_,?_,fun k' b' x' a' hk' hx' ha'=>?_,by rw[acU];exact h.lR,h.lQ⟩
   ·rw[acv n01];exact b0
   ·rw[acv (by omega),acU];exact h2
   ·rw[acv (Ne.symm nl1)];exact hlb
   ·rw[acv (by omega)];exact b3
   ·rw[acv (Ne.symm nf1)];exact bf
   ·obtain⟨z',g1,g2⟩:=h.bq k' b' x' a' hk' hx' ha'
    exact⟨z',g1,by rw[acv (Ne.symm (bne k' b' x' a' hk' hx' ha').1)];exact g2⟩
  |true=>
   simp only[acG]
   refine⟨by simp only[acU];exact h.len,?_,?_,⟨v+1,?_,?_⟩,?_,?_,fun k' b' x' a' hk' hx' ha'=>?_,by rw[acU];exact h.lR,by rw[acU];exact h.lQ⟩
   ·rw[acv (by omega),acv nl0,acv nx0,acv n01];exact b0
   ·rw[acv (by omega),acv nl1,acv nx1];exact acM l1
   ·rw[acM (by simpa using l2),acU,acn];rfl
   ·rw[acv (Ne.symm nl2)];exact acM (by simpa using ll)
   ·rw[acv (by omega),acv nl3,acv nx3,acv (by omega)];exact b3
   ·rw[acv (Ne.symm nf2),acv nlf,acv nxf,acv (Ne.symm nf1)];exact bf
   ·obtain⟨z',g1,g2⟩:=h.bq k' b' x' a' hk' hx' ha'
    obtain⟨m1,m2,m3⟩:=bne k' b' x' a' hk' hx' ha'
    rw[acv (Ne.symm m3),acv (Ne.symm m2)]
    by_cases hkk:k'=k
    ·subst hkk
     rw[hk]at hk';cases hk'
     rw[hx]at hx';cases hx'
     rw[ha]at ha';cases ha'
     refine⟨_,acM (by rw[h.lQ];exact(acm.1 ha).1),?_⟩
     exact acM (by simpa using lx)
    ·obtain⟨o1,o2⟩:=other k' b' x' a' hk' hx' ha' hkk
     exact⟨z',by rw[acv (Ne.symm o2)];exact g1,by rw[acv (Ne.symm o1),acv (Ne.symm m1)];exact g2⟩
theorem Bt{α β:Type}{v:Option α}{k:α→Option β}{t:oH k}{Q:β→Prop}{Q':α→Prop}(h:∃r,v=some r∧Q' r)(hk:∀r,Q' r→post (k r) Q):post (aN v k t) Q:=by
 obtain⟨r,rfl,h2⟩:=h
 exact hk r h2
theorem Ws(n p:Nat)(bl es ro):aa T (n+1) (.se 45) [.ptr p 0 0 0] ⟨bl,es,ro⟩=some (.fn 81 [.ptr bl.length 0 0 0],⟨bl++[.box [.ptr p 0 0 0]],es,ro⟩):=by
 refine eJ e45 ?_
 simp only[Y9,aF,aE,aH,aG,az,aw,ax,ay,bj,aP,bg,aQ,aS,aR,aI,aO,aJ,aK,aA,ai,bM,bN,aco,acn,acD,go_sem,simprocAttr]
theorem GV{T:FuncId→Option aB}{b n:Nat}{xs:List SV}{H:ab}{q:fj}{pend:mA}{Q:SV×ab→Prop}(hg:bk H b=some (.loop q .ready pend))(hl:(q.ps.length==xs.length)=true)
 (h:post (runK (aa T n) (xc (aa T n) q.body b H) q.assign [] ((q.ps.zip xs).reverse++q.env) ⟨H.bl,[],min H.ro H.bl.length⟩ ()) Q):∃r,aa T (n+1) (.fP b) xs H=some r∧Q r:=by
 obtain⟨r,h1,h2⟩:=h
 exact⟨r,pd hg hl h1,h2⟩
theorem O6(n N:Nat)(q0:fj)(h1:q0.ps=[78])(h2:q0.assign=.ops [OM 17 78])(h3:q0.body=.block 5 (.ops [OL 79 10,OM 80 17,OL 81 16,OC 82 46 [79,80,81]]))(h10:get q0.env 10=.ptr 3 0 0 0)(h16:get q0.env 16=.ptr N 0 0 0)
 (f:Fi) (hbd:Bd f) (s:Int) (Z:List Ac) (fl:Bool) (ar:List A.Em) (q sq:List Nat) (lb fb v':Nat) (st:St) (bl:List aC) (h:PJ f s Z fl ar q sq lb fb v' N st bl)
 (hq:q.Nodup) (hn:∀(k k':Nat) (x x':A.Em),ar[k]?=some x→ar[k']?=some x'→x.n.toNat=x'.n.toNat→k=k') (hZ:Z.length=f.K.length) (hL:st.L.length≤10000)
 {k xb:Nat} {x:A.Em} {a b:Ac} {i:Nat} (hk:q[k]?=some xb) (hx:ar[k]?=some x) (ha:Z[x.n.toNat]?=some a) (hb:Z[i]?=some b) (hkd:decide (b.kd=2)=true) (X:aC) (es:List (Nat×Nat)) (he:c0 N es) :
 ∃bl' es',PJ f s Z fl ar q sq lb fb v' N (dS f hbd s Z x x.n.toNat a st i) bl'∧c0 N es'∧aa T (n+32) (.fP (N+2)) [af5 i] ⟨bl++[.box [.ptr xb 0 0 0],.box [.ptr 2 0 0 0],.loop q0 .ready .normal,X],es,0⟩=
  some (.bool true,⟨bl'++[.box [.ptr xb 0 0 0],.box [.ptr 2 0 0 0],.loop q0 .ready .normal,X],es',0⟩):=by
 obtain⟨v,g2,glb⟩:=h.b2
 obtain⟨z,hz,hxb⟩:=h.bq k xb x a hk hx ha
 have hN:=h.len
 have hi:i<f.K.length:=by rw[←hZ];exact(acm.1 hb).1
 have l1:=(acm.1 h.b1).1
 have l2:=(acm.1 g2).1
 have ll:=(acm.1 glb).1
 have lx:=(acm.1 hxb).1
 obtain⟨es1,he1,h46⟩:=s46 (n+1) 2 1 lb xb v i x.n.toNat (bl++[.box [.ptr xb 0 0 0],.box [.ptr 2 0 0 0],.loop q0 .busy .normal,X]) [] f hbd s Z fl (.bn fb v' 0 q.length) st.L st.R a b x z.1 z.2
  (fm g2) (fm glb) (fm h.b1) (fm hxb) hb hi h.lR hL N (by omega) (by simp[hN]) (aV _)
 rw[xU _ _ _ _ _ _ _ _ _ _ _ _ _ _ _ _ _ _ _ _ l2 l1 ll lx]at h46
 have hP:=h.WO hq hn hk hx ha hb hkd g2 glb (hbd:=hbd)
 obtain⟨bl',hbl'⟩:∃bl',jQ bl 2 1 lb xb v i x.n.toNat f s Z fl (.bn fb v' 0 q.length) st.L st.R a x (tn (cT f i).1 (cT f i).2 s x.x) (BS st.L (iV (dZ f hbd) st.L (gL f s i b)) x)=bl':=⟨_,rfl⟩
 rw[hbl']at h46 hP
 have hN':=hP.len
 suffices hh:∃r,aa T (n+32) (.fP (N+2)) [af5 i] ⟨bl++[.box [.ptr xb 0 0 0],.box [.ptr 2 0 0 0],.loop q0 .ready .normal,X],es,0⟩=some r∧∃es',c0 N es'∧r=(.bool true,⟨bl'++[.box [.ptr xb 0 0 0],.box [.ptr 2 0 0 0],.loop q0 .ready .normal,X],es',0⟩) by
  obtain⟨r,k1,es',k2,rfl⟩:=hh
  exact⟨bl',es',hP,k2,k1⟩
 refine GV (q:=q0) (pend:=.normal) (by simp only[bk];exact gX hN _ 2) (by rw[h1];rfl) ?_
 have t3:∀l,(bl++l)[3]?=some (.box [.ptr 2 0 0 0]):=fun l=>fm h.b3
 rw[h1,h2,h3]
 simp only[go_sem,simprocAttr,aF,aE,aH,aG,az,aw,ax,ay,bj,aP,bg,aQ,aS,aR,aI,aO,aJ,aK,aA,ai,bM,bN,aco,acn,acD,hN,n9 hN,gX hN,oe hN,h10,h16,t3,h46,hN',gX hN',oe hN',nE hN',cO (lG he1 (show N≤N+4 by omega))]
 exact⟨_,cj he (cd _ he1),rfl⟩
def aW(f:Fi)(s:Int)(Z:List Ac):Nat→List A.Em
 |0=>[]
 |i+1=>match Z[i]? with
  |some a=>bif decide (a.kd=1)then aW f s Z i++[et f s i a]else aW f s Z i
  |none=>aW f s Z i
theorem oq(f:Fi)(s:Int)(Z:List Ac):∀i,(aW f s Z i).length≤i
 |0=>by simp[aW]
 |i+1=>by
  have ih:=oq f s Z i
  unfold aW
  split
  ·rename_i a _
   cases decide (a.kd=1)
   ·exact Nat.le_succ_of_le ih
   ·simp only[acG,acn,acR,acV];omega
  ·exact Nat.le_succ_of_le ih
theorem ef(f:Fi)(s:Int)(Z:List Ac):∀(i k:Nat) (x:A.Em),(aW f s Z i)[k]?=some x→∃(j:Nat) (a:Ac),j<i∧Z[j]?=some a∧decide (a.kd=1)=true∧x=et f s j a
 |0,k,x,h=>by simp[aW]at h
 |i+1,k,x,h=>by
  unfold aW at h
  split at h
  ·rename_i a ha
   cases hk:decide (a.kd=1)with
   |false=>
    rw[hk]at h
    obtain⟨j,b,h1,h2⟩:=ef f s Z i k x h
    exact⟨j,b,by omega,h2⟩
   |true=>
    rw[hk]at h
    simp only[acG]at h
    rcases acz k (aW f s Z i).length with hlt|hge
    ·rw[acF hlt]at h
     obtain⟨j,b,h1,h2⟩:=ef f s Z i k x h
     exact⟨j,b,by omega,h2⟩
    ·rw[adf hge]at h
     have hm:=acy h
     simp only[adH]at hm
     exact⟨i,a,by omega,ha,hk,hm⟩
  ·obtain⟨j,b,h1,h2⟩:=ef f s Z i k x h
   exact⟨j,b,by omega,h2⟩
theorem kO(f:Fi)(s:Int)(Z:List Ac):∀(i k k':Nat) (x x':A.Em),(aW f s Z i)[k]?=some x→(aW f s Z i)[k']?=some x'→x.n.toNat=x'.n.toNat→k=k'
 |0,k,k',x,x',h,_,_=>by simp[aW]at h
 |i+1,k,k',x,x',h,h',hn=>by
  have ih:=kO f s Z i
  unfold aW at h h'
  split at h
  ·rename_i a ha
   rw[ha]at h'
   simp only at h'
   cases hk:decide (a.kd=1)with
   |false=>rw[hk]at h h';exact ih k k' x x' h h' hn
   |true=>
    rw[hk]at h h'
    simp only[acG]at h h'
    have old:∀(k:Nat) (x:A.Em),k<(aW f s Z i).length→(aW f s Z i++[et f s i a])[k]?=some x→x.n.toNat<i:=fun k x hlt hx=>by
     rw[acF hlt]at hx
     obtain⟨j,b,h1,_,_,h4⟩:=ef f s Z i k x hx
     rw[h4]
     show((j:Nat):Int).toNat<i
     omega
    have new:∀(k:Nat) (x:A.Em),(aW f s Z i).length≤k→(aW f s Z i++[et f s i a])[k]?=some x→x.n.toNat=i∧k=(aW f s Z i).length:=fun k x hge hx=>by
     have hl:=(acm.1 hx).1
     simp only[acn,acR,acV]at hl
     rw[adf hge]at hx
     have hm:=acy hx
     simp only[adH]at hm
     rw[hm]
     exact⟨by show((i:Nat):Int).toNat=i;omega,by omega⟩
    rcases acz k (aW f s Z i).length with h1|h1<;>rcases acz k' (aW f s Z i).length with h2|h2
    ·rw[acF h1]at h
     rw[acF h2]at h'
     exact ih k k' x x' h h' hn
    ·have:=old k x h1 h
     have:=(new k' x' h2 h').1
     omega
    ·have:=(new k x h1 h).1
     have:=old k' x' h2 h'
     omega
    ·rw[(new k x h1 h).2,(new k' x' h2 h').2]
  ·rename_i ha
   rw[ha]at h'
   exact ih k k' x x' h h' hn
def dh(f:Fi)(hb:Bd f)(s:Int)(Z:List Ac)(ar:List A.Em)(st:St)(k:Nat):St:=match ar[k]? with
 |some x=>match Z[x.n.toNat]? with
  |some a=>fH f hb s Z x x.n.toNat a st Z.length
  |none=>st
 |none=>st
def eg(ar:List A.Em):List Nat:=Q.fw (fun k=>match ar[k]? with|some x=>x.y|none=>0) (List.range ar.length)
def ks(ar:List A.Em)(n:Nat):St:=⟨ar,List.replicate n mj,List.replicate n (-1,0)⟩
def nK(s:A.Sn)(L:List A.Em)(i k:Int):Bool:=bif decide (A.Ap s L i k=0)then(match L[i.toNat]? with|some a=>A.fk s L i.toNat a k|none=>false)else false
theorem I6(s:A.Sn)(L:List A.Em)(i k:Int):∃e:Int,A.Q9 s L i k=.bc [.bool (nK s L i k),af5 e]:=by
 unfold A.Q9 nK
 cases decide (A.Ap s L i k=0)<;>exact⟨_,rfl⟩
def iu(f:Fi)(hb:Bd f)(st:St)(ar:List A.Em)(R:List Rs)(k:Nat):List Rs:=match ar[k]? with
 |some x=>match st.Q[x.n.toNat]? with
  |some z=>bif decide (z.1<0)then R else bif nK (dZ f hb) st.L z.1 x.n.toNat then R.set x.n.toNat (Ij z.2)else R
  |none=>R
 |none=>R
def cS(f:Fi)(hb:Bd f)(s:Int)(Z:List Ac):St:=(eg (aW f s Z Z.length)).foldl (dh f hb s Z (aW f s Z Z.length)) (ks (aW f s Z Z.length) Z.length)
def fe(f:Fi)(hb:Bd f)(s:Int)(Z:List Ac):List Rs:=(eg (aW f s Z Z.length)).foldl (iu f hb (cS f hb s Z) (aW f s Z Z.length)) (cS f hb s Z).R
def o9(f:Fi)(s:Int)(Z:List Ac):Bool:=(List.range Z.length).any fun i=>match Z[i]? with|some a=>vg f s i a|none=>false
def Cv(f:Fi)(s:Int)(Z:List Ac):Int:=bif decide (jr f s Z=0)then(bif o9 f s Z then 15 else 0)else jr f s Z
def Rr(f:Fi)(hb:Bd f)(s:Int)(Z:List Ac):SV:=bif decide (Cv f s Z=0)then .bc [.ao 15 (kC (fe f hb s Z)) true,(bif (aW f s Z Z.length).isEmpty then .ao 0 [] true else .ao 4 (A.br (cS f hb s Z).L) false),af6]
 else .bc [.ao 0 [] true,.ao 0 [] true,af5 (Cv f s Z)]
structure PI(f:Fi)(s:Int)(Z:List Ac)(fl:Bool)(i:Nat)(q:List Nat)(bl:List aC):Prop where
 b0:bl[0]?=some (.box (tS f))
 b1:bl[1]?=some (.arr 0 15 (kC (List.replicate Z.length mj)) true)
 b2:∃x y,bl[2]?=some (.box (nI f s Z fl x y (.bn 1 0 0 Z.length)))∧((aW f s Z i=[]∧q=[]∧x=.ao 0 [] true∧y=.ao 0 [] true)∨
  ∃lb fb v v',x=.bn lb v 0 (aW f s Z i).length∧y=.bn fb v' 0 q.length∧bl[lb]?=some (.arr v 4 (A.br (aW f s Z i)) false)∧bl[fb]?=some (.arr v' 1 (pS q) false)∧aW f s Z i≠[])
 b3:bl[3]?=some (.box [.ptr 2 0 0 0])
 b4:bl[4]?=some (.map [(af5 1,.pO 39 [.ptr 2 0 0 0]),(af5 2,.pO 40 [.ptr 2 0 0 0]),(af6,.pO 41 [.ptr 2 0 0 0])])
 lq:q.length=(aW f s Z i).length
 nd:q.Nodup
 bq:∀(k b:Nat) (x:A.Em) (a:Ac),q[k]?=some b→(aW f s Z i)[k]?=some x→Z[x.n.toNat]?=some a→bl[b]?=some (.box (Dn x.n.toNat x a (-1) 0))
theorem GJ{f:Fi}{s:Int}{Z:List Ac}{i:Nat}{a:Ac}(ha:Z[i]?=some a)(h:decide (a.kd=1)=false):aW f s Z (i+1)=aW f s Z i:=by
 unfold aW;rw[ha];simp only[h,acJ]
 cases i<;>rfl
theorem wx{f:Fi}{s:Int}{Z:List Ac}{i:Nat}{a:Ac}(ha:Z[i]?=some a)(h:decide (a.kd=1)=true):aW f s Z (i+1)=aW f s Z i++[et f s i a]:=by
 conv=>lhs;unfold aW
 rw[ha];simp only[h,acG]
theorem PI.app{f:Fi}{s:Int}{Z:List Ac}{fl:Bool}{i:Nat}{q:List Nat}{bl:List aC}(h:PI f s Z fl i q bl)(l:List aC):PI f s Z fl i q (bl++l):=by
 obtain⟨x,y,h2,h3⟩:=h.b2
 refine⟨fm h.b0,fm h.b1,⟨x,y,fm h2,?_⟩,fm h.b3,fm h.b4,h.lq,h.nd,fun k b x a h1 h2 h3=>fm (h.bq k b x a h1 h2 h3)⟩
 rcases h3 with h3|⟨lb,fb,v,v',e1,e2,e3,e4⟩
 ·exact .inl h3
 ·exact .inr ⟨lb,fb,v,v',e1,e2,fm e3,fm e4.1,e4.2⟩
theorem PI.next{f:Fi}{s:Int}{Z:List Ac}{fl:Bool}{i:Nat}{q:List Nat}{bl:List aC}(h:PI f s Z fl i q bl){a:Ac}(ha:Z[i]?=some a)(hk:decide (a.kd=1)=false):PI f s Z fl (i+1) q bl:=by
 have e:=GJ (f:=f) (s:=s) ha hk
 exact⟨h.b0,h.b1,by rw[e];exact h.b2,h.b3,h.b4,by rw[e];exact h.lq,h.nd,by rw[e];exact h.bq⟩
theorem PI.lt{f:Fi}{s:Int}{Z:List Ac}{fl:Bool}{i:Nat}{q:List Nat}{bl:List aC}(h:PI f s Z fl i q bl)(hi:i≤Z.length):∀b∈q,b<bl.length:=fun b hb=>by
 obtain⟨k,hk⟩:=ac4 hb
 have hkl:=(acm.1 hk).1
 obtain⟨x,hx⟩:=bO (show k<(aW f s Z i).length by rw[←h.lq];exact hkl)
 obtain⟨j,a,h1,h2,_,h4⟩:=ef f s Z i k x hx
 have hn:x.n.toNat=j:=by rw[h4];show((j:Nat):Int).toNat=j;omega
 exact(acm.1 (h.bq k b x a hk hx (by rw[hn];exact h2))).1
theorem PI.first{f:Fi}{s:Int}{Z:List Ac}{fl:Bool}{i:Nat}{bl:List aC}(h:PI f s Z fl i [] bl)(he:aW f s Z i=[]){a:Ac}(ha:Z[i]?=some a)(hk:decide (a.kd=1)=true)
 (hb2:bl[2]?=some (.box (nI f s Z fl (.ao 0 [] true) (.ao 0 [] true) (.bn 1 0 0 Z.length)))) :
 PI f s Z fl (i+1) [bl.length+1] (bl.set 2 (.box (nI f s Z fl (.bn (bl.length+4) 0 0 1) (.bn (bl.length+3) 0 0 1) (.bn 1 0 0 Z.length)))++[.box (Il a),.box (Dn i (et f s i a) a (-1) 0),.arr 0 1 (pS [bl.length+1]) true,.arr 0 1 (pS [bl.length+1]) false,.arr 0 4 (A.br [et f s i a]) false]):=by
 have e:=wx (f:=f) (s:=s) ha hk
 rw[he,adu]at e
 have l2:=(acm.1 hb2).1
 have hl:∀X,(bl.set 2 X).length=bl.length:=fun X=>acU
 have old:∀X (l:List aC) b x,b≠2→bl[b]?=some x→(bl.set 2 X++l)[b]?=some x:=fun X l b x hb hx=>by
  rw[acF (by rw[hl];exact(acm.1 hx).1),acv (Ne.symm hb),hx]
 have new:∀X (l:List aC) k,(bl.set 2 X++l)[bl.length+k]?=l[k]?:=fun X l k=>gX (hl X) l k
 refine⟨old _ _ _ _ (by omega) h.b0,old _ _ _ _ (by omega) h.b1,⟨.bn (bl.length+4) 0 0 1,.bn (bl.length+3) 0 0 1,?_,.inr ⟨bl.length+4,bl.length+3,0,0,by rw[e]<;>rfl,rfl,by rw[e,new]<;>rfl,by rw[new]<;>rfl,by rw[e];exact List.cons_ne_nil _ _⟩⟩,old _ _ _ _ (by omega) h.b3,old _ _ _ _ (by omega) h.b4,by rw[e]<;>rfl,by simp,?_⟩
 ·rw[acF (by rw[hl];exact l2),acM l2]
 ·intro k b x a' h1 h2 h3
  rw[e]at h2
  have hk0:k=0:=by have:=(acm.1 h1).1;simp at this;omega
  subst hk0
  simp only[List.getElem?_cons_zero,acN]at h1 h2
  subst h1 h2
  have hn:(et f s i a).n.toNat=i:=by show((i:Nat):Int).toNat=i;omega
  rw[hn]at h3⊢
  rw[ha]at h3;cases h3
  rw[new];rfl
theorem PI.more{f:Fi}{s:Int}{Z:List Ac}{fl:Bool}{i:Nat}{q:List Nat}{bl:List aC}(h:PI f s Z fl i q bl)(hi:i≤Z.length){a:Ac}(ha:Z[i]?=some a)(hk:decide (a.kd=1)=true){lb fb v v':Nat}
 (hb2:bl[2]?=some (.box (nI f s Z fl (.bn lb v 0 (aW f s Z i).length) (.bn fb v' 0 q.length) (.bn 1 0 0 Z.length)))) (hlb:bl[lb]?=some (.arr v 4 (A.br (aW f s Z i)) false)) (hfb:bl[fb]?=some (.arr v' 1 (pS q) false)) :
 PI f s Z fl (i+1) (q++[bl.length+1]) (((bl.set fb (.arr (v'+1) 1 (pS (q++[bl.length+1])) false)).set lb (.arr (v+1) 4 (A.br (aW f s Z i++[et f s i a])) false)).set 2 (.box (nI f s Z fl (.bn lb (v+1) 0 ((aW f s Z i).length+1)) (.bn fb (v'+1) 0 (q.length+1)) (.bn 1 0 0 Z.length)))++[.box (Il a),.box (Dn i (et f s i a) a (-1) 0),.arr 0 1 (pS [bl.length+1]) true]):=by
 have e:=wx (f:=f) (s:=s) ha hk
 have l2:=(acm.1 hb2).1
 have ll:=(acm.1 hlb).1
 have lf:=(acm.1 hfb).1
 have hl:∀X Y W,(((bl.set fb X).set lb Y).set 2 W).length=bl.length:=fun X Y W=>by simp
 have nf2:fb≠2:=bB hfb hb2 (fun h=>by cases h)
 have nl2:lb≠2:=bB hlb hb2 (fun h=>by cases h)
 have nfl:fb≠lb:=bB hfb hlb (fun h=>by injection h with _ h2;cases h2)
 have old:∀X Y W (l:List aC) b x,b≠2→b≠lb→b≠fb→bl[b]?=some x→(((bl.set fb X).set lb Y).set 2 W++l)[b]?=some x:=fun X Y W l b x h1 h2 h3 hx=>by
  rw[acF (by rw[hl];exact(acm.1 hx).1),acv (Ne.symm h1),acv (Ne.symm h2),acv (Ne.symm h3),hx]
 have new:∀X Y W (l:List aC) k,(((bl.set fb X).set lb Y).set 2 W++l)[bl.length+k]?=l[k]?:=fun X Y W l k=>gX (hl X Y W) l k
 refine⟨old _ _ _ _ _ _ (by omega) (bB h.b0 hlb (fun h=>by cases h)) (bB h.b0 hfb (fun h=>by cases h)) h.b0,old _ _ _ _ _ _ (by omega) (bB h.b1 hlb (fun h=>by injection h with _ h2;cases h2)) (bB h.b1 hfb (fun h=>by injection h with _ h2;cases h2)) h.b1,
  ⟨.bn lb (v+1) 0 ((aW f s Z i).length+1),.bn fb (v'+1) 0 (q.length+1),?_,.inr ⟨lb,fb,v+1,v'+1,by rw[e,acn]<;>rfl,by rw[acn]<;>rfl,?_,?_,by rw[e];simp⟩⟩,old _ _ _ _ _ _ (by omega) (bB h.b3 hlb (fun h=>by cases h)) (bB h.b3 hfb (fun h=>by cases h)) h.b3,old _ _ _ _ _ _ (by omega) (bB h.b4 hlb (fun h=>by cases h)) (bB h.b4 hfb (fun h=>by cases h)) h.b4,by rw[e];simp[h.lq],?_,?_⟩
 ·rw[acF (by rw[hl];exact l2),acM (by simpa using l2)]
 ·rw[acF (by rw[hl];exact ll),acv (Ne.symm nl2),acM (by simpa using ll),e]
 ·rw[acF (by rw[hl];exact lf),acv (Ne.symm nf2),acv (Ne.symm nfl),acM lf]
 ·rw[ad8]
  exact⟨h.nd,by simp,fun x hx y hy=>by
   simp only[adH]at hy
   subst hy
   have:=h.lt hi x hx
   omega⟩
 ·intro k b x a' h1 h2 h3
  rw[e]at h2
  rcases acz k q.length with hlt|hge
  ·rw[acF hlt]at h1
   rw[acF (by rw[←h.lq];exact hlt)]at h2
   have g:=h.bq k b x a' h1 h2 h3
   exact old _ _ _ _ _ _ (bB g hb2 (oV (by simp))) (bB g hlb (fun h=>by cases h)) (bB g hfb (fun h=>by cases h)) g
  ·rw[adf hge]at h1
   rw[adf (by rw[←h.lq];exact hge)]at h2
   have m1:=acy h1
   have m2:=acy h2
   simp only[adH]at m1 m2
   subst m1 m2
   have hn:(et f s i a).n.toNat=i:=by show((i:Nat):Int).toNat=i;omega
   rw[hn]at h3⊢
   rw[ha]at h3;cases h3
   rw[new];rfl
namespace Q
theorem uA(key:Nat→Int)(f:Nat→Nat):∀X Y,cU key (X.map f) (Y.map f)=(cU (fun x=>key (f x)) X Y).map f
 |[],Y=>by simp[cz]
 |x::X,[]=>by simp[cR]
 |x::X,y::Y=>by
  by_cases h:key (f y)<key (f x)
  ·rw[ada,ada,cV h,cV (key:=fun x=>key (f x)) h,ada,←uA key f (x::X) Y,ada]
  ·rw[ada,ada,dp h,dp (key:=fun x=>key (f x)) h,ada,←uA key f X (y::Y),ada]
termination_by X Y=>X.length+Y.length
theorem zF(key:Nat→Int)(f:Nat→Nat)(X:List Nat):fw key (X.map f)=(fw (fun x=>key (f x)) X).map f:=by
 suffices h:∀Z:List Nat,(X.map f).foldl (fun Z x=>cU key Z [x]) (Z.map f)=(X.foldl (fun Z x=>cU (fun x=>key (f x)) Z [x]) Z).map f by
  exact h []
 induction X with
 |nil=>intro Z;rfl
 |cons x X ih=>
  intro Z
  rw[ada,adB,adB,←ih]
  congr 1
  exact uA key f Z [x]
theorem pg{k k':Nat→Int}:∀X Y:List Nat,(∀x∈X,k x=k' x)→(∀x∈Y,k x=k' x)→cU k X Y=cU k' X Y
 |[],Y,_,_=>by simp[cz]
 |x::X,[],_,_=>by simp[cR]
 |x::X,y::Y,h,h'=>by
  have e:(k y<k x)=(k' y<k' x):=by rw[h x (by simp),h' y (by simp)]
  by_cases hc:k' y<k' x
  ·rw[cV hc,cV (by rw[e];exact hc),pg (x::X) Y h (fun z hz=>h' z (by simp[hz]))]
  ·rw[dp hc,dp (by rw[e];exact hc),pg X (y::Y) (fun z hz=>h z (by simp[hz])) h']
termination_by X Y=>X.length+Y.length
theorem tD{k k':Nat→Int}(X:List Nat)(h:∀x∈X,k x=k' x):fw k X=fw k' X:=by
 suffices hh:∀Z:List Nat,(∀x∈Z,k x=k' x)→X.foldl (fun Z x=>cU k Z [x]) Z=X.foldl (fun Z x=>cU k' Z [x]) Z by
  exact hh [] (by simp)
 induction X with
 |nil=>intro Z _;rfl
 |cons x X ih=>
  intro Z hZ
  have hx:=h x (by simp)
  rw[adB,adB,pg Z [x] hZ (by simpa using hx)]
  refine ih (fun y hy=>h y (by simp[hy])) _ (fun y hy=>?_)
  rcases(iR k' Z [x] y).1 hy with h1|h1
  ·exact hZ y h1
  ·simp only[adH]at h1
   rw[h1];exact hx
end Q
def Sv:Option SV→Int
 |some (.int _ z)=>z
 |_=>0
def DJ(bl:List aC)(b:Nat):Int:=match bl[b]? with
 |some (.box cs)=>Sv cs[4]?
 |_=>0
theorem Ae{bl:List aC}{b:Nat}{cs:List SV}{z:Int}(h:bl[b]?=some (.box cs))(h4:cs[4]?=some (af5 z)):DJ bl b=z:=by
 unfold DJ;rw[h];simp only[h4];rfl
theorem qg{f:Fi}{s:Int}{Z:List Ac}{i k:Nat}{x:A.Em}(hi:i≤Z.length)(h:(aW f s Z i)[k]?=some x):∃a,x.n.toNat<Z.length∧x.n=(x.n.toNat:Int)∧Z[x.n.toNat]?=some a∧x=et f s x.n.toNat a:=by
 obtain⟨j,a,h1,h2,_,h4⟩:=ef f s Z i k x h
 have e:x.n=(j:Int):=by rw[h4];rfl
 have hn:x.n.toNat=j:=by rw[e];omega
 exact⟨a,by omega,by rw[hn,e],by rw[hn];exact h2,by rw[hn];exact h4⟩
theorem PI.key{f:Fi}{s:Int}{Z:List Ac}{fl:Bool}{q:List Nat}{bl:List aC}(h:PI f s Z fl Z.length q bl) :
 Q.fw (DJ bl) q=(eg (aW f s Z Z.length)).map fun k=>q.getD k 0:=by
 have hq:q=(List.range (aW f s Z Z.length).length).map fun k=>q.getD k 0:=by
  apply aen
  intro k
  rw[ad2,←h.lq]
  rcases acz k q.length with hlt|hge
  ·rw[aeu hlt]
   simp[List.getD,acK hlt]
  ·rw[adS hge,adS (by simpa using hge)];rfl
 conv=>lhs;rw[hq]
 rw[Q.zF]
 unfold eg
 congr 1
 refine Q.tD _ (fun k hk=>?_)
 have hkl:=ac2.1 hk
 obtain⟨x,hx⟩:=bO hkl
 rw[hx]
 obtain⟨b,hb⟩:=bO (show k<q.length by rw[h.lq];exact hkl)
 obtain⟨a,h1,h2,h3,h4⟩:=qg (acH _) hx
 have g:=h.bq k b x a hb hx h3
 show DJ bl (q.getD k 0)=x.y
 rw[show q.getD k 0=b by simp[List.getD,hb]]
 exact Ae g rfl
theorem qQ{ar:List A.Em}{k:Nat}(h:k∈eg ar):k<ar.length:=ac2.1 ((Q.jW _ _ _).1 h)
theorem ju(ar:List A.Em):(eg ar).length=ar.length:=by unfold eg;rw[Q.lS,afr]
theorem u7(f:Fi)(hb:Bd f)(s:Int)(Z:List Ac)(x:A.Em)(j:Nat)(a:Ac)(st:St):∀i,(fH f hb s Z x j a st i).L.length≤st.L.length+i
 |0=>acH _
 |i+1=>by
  have ih:=u7 f hb s Z x j a st i
  show(dS f hb s Z x j a (fH f hb s Z x j a st i) i).L.length≤_
  unfold dS
  split
  ·rename_i b _
   cases hc:(decide (b.kd=2)&&BS (fH f hb s Z x j a st i).L (iV (dZ f hb) (fH f hb s Z x j a st i).L (gL f s i b)) x)with
   |false=>simp only[acJ];omega
   |true=>
    cases decide (a.d=(i:Int))with
    |false=>simp only[acG,acJ];omega
    |true=>simp only[acG,acn,acR,acV];omega
  ·omega
theorem PI.start{f:Fi}{s:Int}{Z:List Ac}{fl:Bool}{q:List Nat}{bl:List aC}(h:PI f s Z fl Z.length q bl){lb fb v v':Nat}(hb2:bl[2]?=some (.box (nI f s Z fl (.bn lb v 0 (aW f s Z Z.length).length) (.bn fb v' 0 q.length) (.bn 1 0 0 Z.length))))
 (hlb:bl[lb]?=some (.arr v 4 (A.br (aW f s Z Z.length)) false)) (hfb:bl[fb]?=some (.arr v' 1 (pS q) false)) (sq:List Nat) :
 PJ f s Z fl (aW f s Z Z.length) q sq lb fb v' bl.length (ks (aW f s Z Z.length) Z.length) (bl.set fb (.arr v' 1 (pS sq) false)):=by
 have lf:=(acm.1 hfb).1
 have nf2:fb≠2:=bB hfb hb2 (fun h=>by cases h)
 have nfl:fb≠lb:=bB hfb hlb (fun h=>by injection h with _ h2;cases h2)
 refine⟨by simp,?_,?_,⟨v,?_,?_⟩,?_,acM lf,fun k b x a h1 h2 h3=>?_,by simp[ks],by simp[ks]⟩
 ·rw[acv (bB hfb h.b0 (fun h=>by cases h))];exact h.b0
 ·rw[acv (bB hfb h.b1 (fun h=>by injection h with _ h2;cases h2))];exact h.b1
 ·rw[acv nf2,hb2];simp[ks]
 ·rw[acv nfl,hlb];rfl
 ·rw[acv (bB hfb h.b3 (fun h=>by cases h))];exact h.b3
 ·have g:=h.bq k b x a h1 h2 h3
  refine⟨(-1,0),?_,?_⟩
  ·simp only[ks]
   rw[adX,if_pos (acm.1 h3).1]
  ·rw[acv (bB hfb g (fun h=>by cases h))];exact g
theorem tz(R:List Rs):Still (kC R):=fun cs hcs c hc=>by
 obtain⟨r,_,rfl⟩:=adt.1 hcs
 revert c
 simp[CW,SV.refs,ez]
theorem qO(L:List A.Em):Still (A.br L):=fun cs hcs c hc=>by
 obtain⟨r,_,rfl⟩:=adt.1 hcs
 revert c
 simp[A.qK,SV.refs,ez]
theorem WY(bl:List aC)(fb v:Nat)(hfb:fb<bl.length)(key:Nat→Int)(k:Nat)(M:List Nat)(es0:List (Nat×Nat))(hM:M.length<40)(hm:∀x∈M,fV bl fb key x)(h0:bl[fb]?=some (.arr v 1 (pS M) false)) :
 ∃es',aa T (k+47) (.fn 42) [.bn fb v 0 M.length,.fn 43 []] ⟨bl,es0,0⟩=some (.bc [],pH bl fb v (Q.fw key M) es'):=by
 suffices h:∃r,aa T (k+47) (.fn 42) [.bn fb v 0 M.length,.fn 43 []] ⟨bl,es0,0⟩=some r∧∃es',r=(.bc [],pH bl fb v (Q.fw key M) es') by
  obtain⟨r,h1,es',rfl⟩:=h
  exact⟨es',h1⟩
 refine dN Y4 (by rfl) ?_
 have hl:∀X,(bl.set fb X).length=bl.length:=fun X=>acU
 have ht:∀X,(bl.set fb X).take bl.length=bl.set fb X:=fun X=>by rw[←hl X,adF]
 obtain⟨es1,he1,h79⟩:=s79 bl fb v hfb key k M [] M.length rfl hM hm (aV _)
 have hb:bl.set fb (.arr v 1 (pS M) false)=bl:=by
  obtain⟨g1,g2⟩:=acm.1 h0
  rw[←g2];exact List.set_getElem_self g1
 unfold pH at h79
 rw[hb]at h79
 simp only[YS,go_sem,simprocAttr,hl,h0,h79,ht,ai,cO he1]
 exact⟨_,rfl⟩
theorem Gj(f:Fi)(hb:Bd f)(s:Int)(Z:List Ac)(ar:List A.Em)(st:St)(k:Nat):(dh f hb s Z ar st k).L.length≤st.L.length+Z.length:=by
 unfold dh
 split
 ·split
  ·exact u7 _ _ _ _ _ _ _ _ _
  ·omega
 ·omega
theorem uy(f:Fi)(hb:Bd f)(s:Int)(Z:List Ac)(ar:List A.Em):∀(l:List Nat) (st:St),(l.foldl (dh f hb s Z ar) st).L.length≤st.L.length+l.length*Z.length
 |[],st=>by simp
 |k::l,st=>by
  have h1:=uy f hb s Z ar l (dh f hb s Z ar st k)
  have h2:=Gj f hb s Z ar st k
  rw[adB,acR,adI,aep]
  omega
theorem zW{α β:Type}(g:β→α→β)(b:β){l:List α}{i:Nat}{x:α}(h:l[i]?=some x):(l.take (i+1)).foldl g b=g ((l.take i).foldl g b) x:=by
 rw[adP,h,afT];rfl
theorem EW(f:Fi)(hb:Bd f)(s:Int)(Z:List Ac)(x:A.Em)(j:Nat)(a:Ac)(st:St){i:Nat}{b:Ac}(h:Z[i]?=some b)(hk:decide (b.kd=2)=false):dS f hb s Z x j a st i=st:=by
 unfold dS;rw[h];simp only[hk,ac3,acJ]
theorem D4{f:Fi}{hb:Bd f}{s:Int}{Z:List Ac}{ar:List A.Em}{st:St}{k:Nat}{x:A.Em}{a:Ac}(hx:ar[k]?=some x)(ha:Z[x.n.toNat]?=some a):dh f hb s Z ar st k=fH f hb s Z x x.n.toNat a st Z.length:=by
 unfold dh;rw[hx];simp only[ha]
theorem Dp{f:Fi}{hb:Bd f}{st:St}{ar:List A.Em}{R:List Rs}{k:Nat}{x:A.Em}{z:Int×Int}(hx:ar[k]?=some x)(hz:st.Q[x.n.toNat]?=some z) :
 iu f hb st ar R k=bif decide (z.1<0)then R else bif nK (dZ f hb) st.L z.1 x.n.toNat then R.set x.n.toNat (Ij z.2)else R:=by
 unfold iu;rw[hx];simp only[hz]
theorem TZ(n N:Nat)(f:Fi)(s:Int)(Z:List Ac)(fl:Bool)(X0:aC)(q:fj)(hZ:Z.length≤maxLen)(I:Nat→List aC→Prop)
 (hI:∀i bl,I i bl→bl.length=N∧2<N∧∃x y z,bl[2]?=some (.box (nI f s Z fl x y z)))
 (hno:∀i bl b,I i bl→Z[i]?=some b→decide (b.kd=2)=false→I (i+1) bl)
 (hy:∀i bl b X es,c0 N es→I i bl→Z[i]?=some b→decide (b.kd=2)=true→∃bl' es',I (i+1) bl'∧c0 N es'∧aa T (n+1) (.fP (N+2)) [af5 i] ⟨bl++[X0,.box [.ptr 2 0 0 0],.loop q .ready .normal,X],es,0⟩=some (.bool true,⟨bl'++[X0,.box [.ptr 2 0 0 0],.loop q .ready .normal,X],es',0⟩))
 (bl:List aC) (es:List (Nat×Nat)) (he:c0 N es) (h0:I 0 bl) :
 ∃r,aa T (n+2) (.fn 81) [.fP (N+2),.ptr (N+1) 0 0 0] ⟨bl++[X0,.box [.ptr 2 0 0 0],.loop q .ready .normal],es,0⟩=some r∧∃bl' es',I Z.length bl'∧c0 N es'∧r=(.bc [],⟨bl'++[X0,.box [.ptr 2 0 0 0],.loop q .ready .normal],es',0⟩):=by
 obtain⟨bl',es',h1,h2,h3⟩:=s81 n N f s Z fl X0 _ q rfl hZ I hI hno hy bl es he h0
 exact⟨_,h3,bl',es',h1,h2,rfl⟩
theorem PJ.Td{f:Fi}{s:Int}{Z:List Ac}{fl:Bool}{ar:List A.Em}{q sq:List Nat}{lb fb v' N:Nat}{L:List A.Em}{R:List Rs}{Q:List (Int×Int)}{bl:List aC}(h:PJ f s Z fl ar q sq lb fb v' N ⟨L,R,Q⟩ bl)(i:Nat)(r:Rs) :
 PJ f s Z fl ar q sq lb fb v' N ⟨L,R.set i r,Q⟩ (bl.set 1 (.arr 0 15 (kC (R.set i r)) true)):=by
 have b1:=h.b1
 obtain⟨v,h2,hlb⟩:=h.b2
 have l1:=(acm.1 b1).1
 have nl1:lb≠1:=bB hlb b1 (fun e=>by injection e with _ e;cases e)
 have nf1:fb≠1:=bB h.bf b1 (fun e=>by injection e with _ e;cases e)
 refine⟨by rw[acU];exact h.len,?_,acM l1,⟨v,?_,?_⟩,?_,?_,fun k' b' x' a' hk' hx' ha'=>?_,by rw[acU];exact h.lR,h.lQ⟩
 ·rw[acv (by omega)];exact h.b0
 ·rw[acv (by omega),acU];exact h2
 ·rw[acv (Ne.symm nl1)];exact hlb
 ·rw[acv (by omega)];exact h.b3
 ·rw[acv (Ne.symm nf1)];exact h.bf
 ·obtain⟨z',g1,g2⟩:=h.bq k' b' x' a' hk' hx' ha'
  exact⟨z',g1,by rw[acv (Ne.symm (bB g2 b1 (fun e=>by cases e)))];exact g2⟩
theorem xX{α:Type}{v:Option α}{x:α}(h:post v (fun o=>o=x)):v=some x:=by
 obtain⟨o,h1,rfl⟩:=h
 exact h1
theorem oz{p:cu}{N:Nat}{H0 H:ab}{e env:Env}(hv:p.bC=[])(hk:ko p.live=true)(henv:dM p.live.tail e=env):mD p N H0 (e,H) (fun s=>s=(env,H)):=by
 subst henv
 exact⟨_,AL hv hk,rfl⟩
theorem wm{nc:Nat}:∀{j:Nat} {L:List Ac},Fq nc j L=0→∀(k:Nat) (a:Ac),L[k]?=some a→AO nc ((j+k:Nat):Int) a=0
 |j,[],_,k,a,h=>by simp at h
 |j,b::L,h0,0,a,h=>by
  simp only[List.getElem?_cons_zero,acN]at h
  subst h
  unfold Fq at h0
  cases hc:decide (AO nc j b=0)with
  |true=>simpa using acQ hc
  |false=>rw[hc]at h0;exact h0
 |j,b::L,h0,k+1,a,h=>by
  unfold Fq at h0
  cases hc:decide (AO nc j b=0)with
  |true=>
   rw[hc]at h0
   have:=wm (j:=j+1) h0 k a (by simpa using h)
   rw[show j+(k+1)=j+1+k by omega];exact this
  |false=>
   rw[hc]at h0
   exact absurd h0 (adi hc)
theorem cF{f:Fi}{s:Int}{Z:List Ac}(h:jr f s Z=0):okF f=true∧Z.length=f.K.length∧Gl f s=true∧∀(i:Nat) (a:Ac),Z[i]?=some a→AO f.C.length i a=0:=by
 unfold jr at h
 cases h1:okF f with
 |false=>rw[h1]at h;cases h
 |true=>
  rw[h1]at h
  cases h2:decide (Z.length=f.K.length)with
  |false=>rw[h2]at h;cases h
  |true=>
   rw[h2]at h
   cases h3:Gl f s with
   |false=>rw[h3]at h;cases h
   |true=>
    rw[h3]at h
    refine⟨rfl,acQ h2,rfl,fun i a ha=>?_⟩
    have:=wm (j:=0) h i a ha
    rwa [adr]at this
theorem Ii{f:Fi}(h:okF f=true):f.K.length≤32:=by
 unfold okF at h
 simp only[acw,acr,G.gh,G.okB]at h
 omega
theorem xK{f:Fi}{s:Int}{Z:List Ac}{i:Nat}{a:Ac}(ha:Z[i]?=some a)(h:vg f s i a=true):o9 f s Z=true:=by
 unfold o9
 rw[adT]
 exact⟨i,ac2.2 (acm.1 ha).1,by rw[ha];exact h⟩
theorem CB{f:Fi}{s:Int}{Z:List Ac}(h:∀(j:Nat) (a:Ac),j<Z.length→Z[j]?=some a→vg f s j a=false):o9 f s Z=false:=by
 unfold o9
 rw[List.any_eq_false]
 intro i hi
 have hil:=ac2.1 hi
 obtain⟨a,ha⟩:=bO hil
 rw[ha]
 simp only[h i a hil ha]
 exact Bool.false_ne_true
theorem grow{f:Fi}{s:Int}{Z:List Ac}(i:Nat)(a:Ac)(ha:Z[i]?=some a)(h:∀(j:Nat) (a:Ac),j<i→Z[j]?=some a→vg f s j a=false)(h0:vg f s i a=false):∀(j:Nat) (a:Ac),j<i+1→Z[j]?=some a→vg f s j a=false:=fun j b hj hb=>by
 rcases acz j i with h1|h1
 ·exact h j b h1 hb
 ·obtain rfl:j=i:=by omega
  rw[ha]at hb;cases hb
  exact h0
theorem TT(n:Nat)(H:ab):aa T (n+10) (.fn 42) [.ao 0 [] true,.fn 43 []] H=some (.bc [],H):=fG Y4 (by rfl) (im (T:=T) 100 (n+10) (.fn 42) [.ao 0 [] true,.fn 43 []] ah (.bc [],ah) (by kernel_rfl))
theorem Ma(n:Nat)(H:ab)(f:Fi)(hbd:Bd f)(s:Int)(Z:List Ac)(fl:Bool)(hZ:Z.length≤1000) :
 aa T (n+60) (.fn 11) [.agg (tS f),af5 s,.ao 14 (ic Z) fl] H=some (Rr f hbd s Z,H):=by
 have hZ':Z.length≤maxLen:=ac7 hZ (by decide)
 have h38:=fun H=>J9 (n+49) H f s Z fl hbd.q hZ'
 refine ae xG (by rfl) ?_
 unfold Rr Cv
 cases he:decide (jr f s Z=0)with
 |false=>
  have he2:decide (jr f s Z=0)=false:=he
  simp only[acJ,he2]
  simp only[Sc,ah,go_sem,simprocAttr,h38,he]
 |true=>
  have he0:=acQ he
  rw[he0]at h38
  obtain⟨k1,k2,k3,k4⟩:=cF he0
  have k5:=Ii k1
  refine xX ?_
  have mk:kK 15 [.bool false,.bool false,af6,af6,af6,af6,af6,af6,af6,af6,af6,af6,af6,.str ⟨⟨[]⟩⟩,af6] 120 ⟨[.box (tS f)],[],1⟩ (af5 Z.length) (af5 Z.length)=some (.bn 1 0 0 Z.length,⟨[.box (tS f),.arr 0 15 (kC (List.replicate Z.length mj)) true],[],1⟩):=by
   have h1:decide ((Z.length:Int)*((120:Nat):Int)≤(bV:Int))=true:=acp (by have:(bV:Int)=1099511627776:=rfl;omega)
   have h2:decide ((0:Int)≤(Z.length:Int))=true:=acp (by omega)
   have h3:decide ((Z.length:Int)≤(Z.length:Int))=true:=acp (by omega)
   rw[←Fx]
   simp only[kK,h1,h2,h3,acW,acG,adl]
   rfl
  simp only[Sc,ah,go_sem,simprocAttr,h38,mk,List.isEmpty_nil]
  refine cw (fun i s'=>∃bl q es',PI f s Z fl i q bl∧(∀(j:Nat) (a:Ac),j<i→Z[j]?=some a→vg f s j a=false)∧s'=([(3,.ptr 0 0 0 0),(6,.ao 0 [] true),(7,.ao 0 [] true),(8,af6),(10,.ptr 3 0 0 0),(11,.mp 4),(45,.ao 14 (ic Z) fl),(46,af5 Z.length),(47,af5 i)],⟨bl,es',0⟩)) Z.length ?_ ?_
  ·refine aX (oz rfl rfl (by simp only[go_sem,simprocAttr]<;>rfl)) ?_
   rintro s' rfl
   refine⟨_,[],_,⟨rfl,rfl,⟨_,_,rfl,.inl ⟨rfl,rfl,rfl,rfl⟩⟩,rfl,rfl,rfl,by simp,fun k b x a h=>by simp at h⟩,fun j a h=>by omega,rfl⟩
  ·rintro i s' hi ⟨bl,q,es,hPI,hno,rfl⟩
   rcases acz i Z.length with hlt|hge
   ·obtain⟨a,ha⟩:=bO hlt
    have hw:=bE hlt hZ'
    have hik:i<f.K.length:=by omega
    have hfm:=k4 i a ha
    have hPa:=hPI.app [.box (zT a)]
    obtain⟨x,y,g2,g2'⟩:=hPa.b2
    have g3:=hPa.b3
    have g4:=hPa.b4
    have G0:∀l:List aC,(bl++l)[4]?=bl[4]?:=fun l=>by rw[hPI.b4];exact fm hPI.b4
    have q4:∀l:List aC,(bl++l)[4]?=some (.map [(af5 1,.pO 39 [.ptr 2 0 0 0]),(af5 2,.pO 40 [.ptr 2 0 0 0]),(af6,.pO 41 [.ptr 2 0 0 0])]):=fun l=>fm hPI.b4
    rcases wZ a.kd with⟨e0,e1,e2⟩|⟨e0,e1,e2⟩|⟨e0,e1,e2⟩|⟨e0,e1,e2⟩
    ·have hn0:vg f s i a=false:=by unfold vg;rw[e1,e2];rfl
     have h41:=fun H=>s41 (n+58) 2 i H
     simp only[go_sem,simprocAttr,aF,aE,aH,aG,az,aw,ax,ay,bj,aP,bg,aQ,aS,aR,aI,aO,aJ,aK,aA,ai,bM,bN,aco,acn,acD,hlt,ha,q4,e0,e1,e2,h41,hw]
     refine⟨trivial,aX (oz rfl rfl (by simp only[go_sem,simprocAttr]<;>rfl)) ?_⟩
     rintro s' rfl
     exact⟨_,q,_,hPa.next ha e1,grow i a ha hno hn0,rfl⟩
    ·obtain⟨H',h39,hok⟩:∃H',aa T (n+59) (.fn 39) [.ptr 2 0 0 0,af5 i] ⟨bl++[.box (zT a)],es,0⟩=some (af5 (bif rz f s i a then 15 else 0),H')∧(rz f s i a=false→∃bl' q' es',H'=⟨bl',es',0⟩∧PI f s Z fl (i+1) q' bl'):=by
      rcases g2' with⟨w1,w2,w3,w4⟩|⟨lb,fb,v,v',w1,w2,w3,w4⟩
      ·subst w2 w3 w4
       obtain⟨H',h1,h2⟩:=TH (n+49) 2 i (bl++[.box (zT a)]) es f s Z fl (.bn 1 0 0 Z.length) a hbd.C g2 ha hik
       refine⟨H',h1,fun h=>?_⟩
       obtain⟨es',h3⟩:=h2 h
       exact⟨_,_,es',h3,PI.first hPa w1 ha e1 g2⟩
      ·subst w1 w2
       have lq:=hPa.lq
       have la:=oq f s Z i
       obtain⟨H',h1,h2⟩:=Ux (n+49) 2 lb fb v v' i (aW f s Z i) q (bl++[.box (zT a)]) es f s Z fl (.bn 1 0 0 Z.length) a hbd.C g2 ha hik w3 w4.1 (by omega) (by omega)
       refine⟨H',h1,fun h=>?_⟩
       obtain⟨es',h3⟩:=h2 h
       exact⟨_,_,es',h3,PI.more hPa hi ha e1 g2 w3 w4.1⟩
     cases hX:rz f s i a with
     |true=>
      rw[hX]at h39
      have hpl:=xK (f:=f) (s:=s) ha (by unfold vg;rw[e1];exact hX)
      simp only[acG]at h39
      simp only[go_sem,simprocAttr,aF,aE,aH,aG,az,aw,ax,ay,bj,aP,bg,aQ,aS,aR,aI,aO,aJ,aK,aA,ai,bM,bN,aco,acn,acD,hlt,ha,q4,e0,e1,e2,h39,hw]
      rw[hpl]
      rfl
     |false=>
      rw[hX]at h39
      have hn0:vg f s i a=false:=by unfold vg;rw[e1];exact hX
      obtain⟨bl',q',es',rfl,hP'⟩:=hok hX
      simp only[acJ]at h39
      simp only[go_sem,simprocAttr,aF,aE,aH,aG,az,aw,ax,ay,bj,aP,bg,aQ,aS,aR,aI,aO,aJ,aK,aA,ai,bM,bN,aco,acn,acD,hlt,ha,q4,e0,e1,e2,h39,hw]
      refine⟨trivial,aX (oz rfl rfl (by simp only[go_sem,simprocAttr]<;>rfl)) ?_⟩
      rintro s' rfl
      exact⟨_,q',_,hP',grow i a ha hno hn0,rfl⟩
    ·have h40:=fun H hv=>s40 (n+52) 2 i H f s Z fl x y (.bn 1 0 0 Z.length) hv hik
     cases hX:Cp f s i with
     |true=>
      rw[hX]at h40
      have hpl:=xK (f:=f) (s:=s) ha (by unfold vg;rw[e1,e2];exact hX)
      simp only[acG]at h40
      simp only[go_sem,simprocAttr,aF,aE,aH,aG,az,aw,ax,ay,bj,aP,bg,aQ,aS,aR,aI,aO,aJ,aK,aA,ai,bM,bN,aco,acn,acD,hlt,ha,q4,e0,e1,e2,h40,g2,hw]
      rw[hpl]
      rfl
     |false=>
      rw[hX]at h40
      have hn0:vg f s i a=false:=by unfold vg;rw[e1,e2];exact hX
      simp only[acJ]at h40
      simp only[go_sem,simprocAttr,aF,aE,aH,aG,az,aw,ax,ay,bj,aP,bg,aQ,aS,aR,aI,aO,aJ,aK,aA,ai,bM,bN,aco,acn,acD,hlt,ha,q4,e0,e1,e2,h40,g2,hw]
      refine⟨trivial,aX (oz rfl rfl (by simp only[go_sem,simprocAttr]<;>rfl)) ?_⟩
      rintro s' rfl
      exact⟨_,q,_,hPa.next ha e1,grow i a ha hno hn0,rfl⟩
    ·exfalso
     unfold AO at hfm
     rw[e0,e1,e2]at hfm
     cases hfm
   ·obtain rfl:i=Z.length:=by omega
    have hd:decide (Z.length<Z.length)=false:=acs (by omega)
    have hpl:=CB hno
    have h3:=hPI.b3
    have h4:=hPI.b4
    obtain⟨x,y,g2,g3⟩:=hPI.b2
    rcases g3 with⟨w1,w2,w3,w4⟩|⟨lb,fb,v,v',w1,w2,w3,w4⟩
    ·subst w2 w3 w4
     have h42:=fun H=>TT (n+49) H
     simp only[go_sem,simprocAttr,aF,aE,aH,aG,az,aw,ax,ay,bj,aP,bg,aQ,aS,aR,aI,aO,aJ,aK,aA,ai,bM,bN,aco,acn,acD,hd,h3,g2,h42]
     have l4:=(acm.1 h4).1
     refine cw (fun i s'=>∃es',c0 bl.length es'∧s'=([(3,.ptr 0 0 0 0),(6,.ao 0 [] true),(7,.ao 0 [] true),(8,af6),(10,.ptr 3 0 0 0),(70,.ao 0 [] true),(71,af6),(72,af6)],⟨bl,es',0⟩)) 0 ?_ ?_
     ·refine aX (bD rfl rfl (by simp only[go_sem,simprocAttr]<;>rfl) (by simp[SV.refs,SV.refs.av];omega) rfl (aV _) (aV _)) ?_
      rintro s' ⟨es',h,rfl⟩
      exact⟨es',h,rfl⟩
     ·rintro i s' _ ⟨es',he',rfl⟩
      simp only[go_sem,simprocAttr,aF,aE,aH,aG,az,aw,ax,ay,bj,aP,bg,aQ,aS,aR,aI,aO,aJ,aK,aA,ai,bM,bN,aco,acn,acD,h3,g2]
      refine cw (fun i s'=>∃es',c0 bl.length es'∧s'=([(3,.ptr 0 0 0 0),(10,.ptr 3 0 0 0),(87,.ao 0 [] true),(88,af6),(89,af6)],⟨bl,es',0⟩)) 0 ?_ ?_
      ·refine aX (bD rfl rfl (by simp only[go_sem,simprocAttr]<;>rfl) (by simp[SV.refs,SV.refs.av];omega) rfl (by first|exact he'|exact aV _) (by first|exact he'|exact aV _)) ?_
       rintro s' ⟨es',h,rfl⟩
       exact⟨es',h,rfl⟩
      ·rintro i s' _ ⟨es2,he2,rfl⟩
       simp only[go_sem,simprocAttr,aF,aE,aH,aG,az,aw,ax,ay,bj,aP,bg,aQ,aS,aR,aI,aO,aJ,aK,aA,ai,bM,bN,aco,acn,acD,h3,g2]
       have hf:=(tz (List.replicate Z.length mj)).fz 0 ⟨bl,es++(es'++es2),0⟩ 5 0 Z.length 15 true (by rw[Aq,List.length_replicate])
       have hR:fe f hbd s Z=List.replicate Z.length mj:=by unfold fe cS;rw[w1];rfl
       simp only[hPI.b1,hf,hpl,w1,go_sem,simprocAttr,hR]
    ·obtain⟨w4,w5⟩:=w4
     have lq:=hPI.lq
     have la:=oq f s Z Z.length
     have l4:=(acm.1 h4).1
     have lfb:=(acm.1 w4).1
     subst w1 w2
     obtain⟨es1,h42⟩:=WY bl fb v' lfb (DJ bl) (n+12) q es (by omega) (fun b hb=>by
      obtain⟨k,hk⟩:=ac4 hb
      obtain⟨x,hx⟩:=bO (show k<(aW f s Z Z.length).length by rw[←lq];exact(acm.1 hk).1)
      obtain⟨a,_,_,h2,_⟩:=qg (acH _) hx
      have g:=hPI.bq k b x a hk hx h2
      exact⟨bB g w4 (fun h=>by cases h),_,g,by rw[Ae g rfl];rfl⟩) w4
     rw[hPI.key]at h42
     obtain⟨sq,hsq⟩:∃sq,((eg (aW f s Z Z.length)).map fun k=>q.getD k 0)=sq:=⟨_,rfl⟩
     rw[hsq]at h42
     have hP0:=hPI.start g2 w3 w4 sq
     obtain⟨bS0,hbS⟩:∃b,bl.set fb (.arr v' 1 (pS sq) false)=b:=⟨_,rfl⟩
     unfold pH at h42
     rw[hbS]at h42 hP0
     obtain⟨N,hN⟩:∃N,bl.length=N:=⟨_,rfl⟩
     have hl0:bS0.length=N:=by rw[←hbS,acU,hN]
     rw[hN]at hP0
     obtain⟨vv,g20,_⟩:=hP0.b2
     have g30:=hP0.b3
     have gf0:=hP0.bf
     simp only[go_sem,simprocAttr,aF,aE,aH,aG,az,aw,ax,ay,bj,aP,bg,aQ,aS,aR,aI,aO,aJ,aK,aA,ai,bM,bN,aco,acn,acD,hd,h3,g2,h42,g20,g30,gf0,hl0]
     refine cw (fun i s'=>∃bl' es',PJ f s Z fl (aW f s Z Z.length) q sq lb fb v' N (((eg (aW f s Z Z.length)).take i).foldl (dh f hbd s Z (aW f s Z Z.length)) (ks (aW f s Z Z.length) Z.length)) bl'∧c0 N es'∧s'=([(3,.ptr 0 0 0 0),(6,.ao 0 [] true),(7,.ao 0 [] true),(8,af6),(10,.ptr 3 0 0 0),(70,.bn fb v' 0 q.length),(71,af5 q.length),(72,af5 i)],⟨bl',es',0⟩)) q.length ?_ ?_
     ·refine aX (bD rfl rfl (by simp only[go_sem,simprocAttr]<;>rfl) (by simp[SV.refs,SV.refs.av];omega) hl0 (aV _) (aV _)) ?_
      rintro s' ⟨es',h,rfl⟩
      exact⟨_,es',hP0,h,rfl⟩
     ·rintro i s' hi ⟨bl',es',hP,he',rfl⟩
      have hl:=hP.len
      have lsq:sq.length=q.length:=by rw[←hsq,afh,ju,lq]
      have gbf:=hP.bf
      have gb3:=hP.b3
      obtain⟨vw,gb2,_⟩:=hP.b2
      rcases acz i q.length with hlt|hge
      ·obtain⟨k,hk⟩:=bO (show i<(eg (aW f s Z Z.length)).length by rw[ju];omega)
       have hkl:=qQ (acy hk)
       obtain⟨x,hx⟩:=bO hkl
       obtain⟨xb,hxb⟩:=bO (show k<q.length by omega)
       obtain⟨a,n1,_,n2,_⟩:=qg (acH _) hx
       have gi:sq[i]?=some xb:=by rw[←hsq,ad2,hk];simp[List.getD,hxb]
       have hw:=bE hlt (show q.length≤maxLen by omega)
       have hap:∀l:List aC,(bl'++l)[fb]?=bl'[fb]?:=fun l=>by rw[gbf];exact fm gbf
       have hap3:∀l:List aC,(bl'++l)[3]?=some (.box [.ptr 2 0 0 0]):=fun l=>fm gb3
       simp only[go_sem,simprocAttr,aF,aE,aH,aG,az,aw,ax,ay,bj,aP,bg,aQ,aS,aR,aI,aO,aJ,aK,aA,ai,bM,bN,aco,acn,acD,hlt,gbf,gi,hl,n9 hl,gX hl,qj hl,oe hl,nE hl,hap3,Ws]
       obtain⟨z,_,gxb⟩:=hP.bq k xb x a hxb hx n2
       have lxb:xb<N:=by rw[←hl];exact(acm.1 gxb).1
       have hL0:(((eg (aW f s Z Z.length)).take i).foldl (dh f hbd s Z (aW f s Z Z.length)) (ks (aW f s Z Z.length) Z.length)).L.length≤32+32*32:=by
        refine ac7 (uy f hbd s Z (aW f s Z Z.length) _ _) ?_
        have e1:((eg (aW f s Z Z.length)).take i).length≤32:=by rw[adA];omega
        have e2:=afP e1 (show Z.length≤32 by omega)
        have e3:(ks (aW f s Z Z.length) Z.length).L.length=(aW f s Z Z.length).length:=rfl
        omega
       refine Bt (TZ (n+57) N f s Z fl _ _ hZ' (fun j b=>PJ f s Z fl (aW f s Z Z.length) q sq lb fb v' N (fH f hbd s Z x x.n.toNat a (((eg (aW f s Z Z.length)).take i).foldl (dh f hbd s Z (aW f s Z Z.length)) (ks (aW f s Z Z.length) Z.length)) j) b∧j≤32) ?_ ?_ ?_ bl' _ (gu he' (by omega)) ⟨hP,by omega⟩) ?_
       ·rintro j b ⟨hJ,_⟩
        obtain⟨v2,g,_⟩:=hJ.b2
        exact⟨hJ.len,by omega,_,_,_,g⟩
       ·rintro j b c ⟨hJ,_⟩ hc hkd
        have:=(acm.1 hc).1
        refine⟨?_,by omega⟩
        show PJ _ _ _ _ _ _ _ _ _ _ _ (dS _ _ _ _ _ _ _ _ _) _
        rw[EW _ _ _ _ _ _ _ _ hc hkd]
        exact hJ
       ·rintro j b c X es2 he2 ⟨hJ,hj⟩ hc hkd
        have:=(acm.1 hc).1
        have hLL:=u7 f hbd s Z x x.n.toNat a (((eg (aW f s Z Z.length)).take i).foldl (dh f hbd s Z (aW f s Z Z.length)) (ks (aW f s Z Z.length) Z.length)) j
        obtain⟨b3,es3,k1,k2,k3⟩:=O6 (n+26) N {env:=[(77,.fn 81 [.ptr (N+1) 0 0 0]),(76,.ptr 2 0 0 0),(16,.ptr N 0 0 0),(75,.ptr xb 0 0 0),(74,.ptr fb v' i 0),(73,.bool true),(3,.ptr 0 0 0 0),(6,.ao 0 [] true),(7,.ao 0 [] true),(8,af6),(10,.ptr 3 0 0 0),(70,.bn fb v' 0 q.length),(71,af5 q.length),(72,af5 i)],ps:=[78],assign:=.ops [OM 17 78],body:=.block 5 (.ops [OL 79 10,OM 80 17,OL 81 16,OC 82 46 [79,80,81]])} rfl rfl rfl rfl rfl f hbd s Z fl _ q sq lb fb v' _ b hJ hPI.nd (kO f s Z Z.length) (by omega) (by omega) hxb hx n2 hc hkd X es2 he2
        exact⟨b3,es3,⟨k1,by omega⟩,k2,k3⟩
       ·rintro r ⟨b2,es2,⟨hP2,_⟩,he2,rfl⟩
        have hl2:=hP2.len
        have d23:decide (N+2<N+3)=true:=acp (by omega)
        simp only[acn,acR,acV,hl,hl2,d23,go_sem,simprocAttr,gX hl2,oe hl2,nE hl2,hw]
        have hst:((eg (aW f s Z Z.length)).take (i+1)).foldl (dh f hbd s Z (aW f s Z Z.length)) (ks (aW f s Z Z.length) Z.length)=fH f hbd s Z x x.n.toNat a (((eg (aW f s Z Z.length)).take i).foldl (dh f hbd s Z (aW f s Z Z.length)) (ks (aW f s Z Z.length) Z.length)) Z.length:=by rw[zW _ _ hk,D4 hx n2]
        refine⟨hlt,aX (D5 rfl rfl (by simp only[go_sem,simprocAttr]<;>rfl) (by simp[SV.refs,SV.refs.av];omega) hl2 (N:=N) he2 (aV _)) ?_⟩
        rintro s' ⟨es',h,rfl⟩
        exact⟨b2,es',by rw[hst];exact hP2,h,rfl⟩
      ·obtain rfl:i=q.length:=by omega
       have hd2:decide (q.length<q.length)=false:=acs (by omega)
       have htk:(eg (aW f s Z Z.length)).take q.length=eg (aW f s Z Z.length):=ac1 (by rw[ju];omega)
       rw[htk]at hP gb2
       have hP:PJ f s Z fl (aW f s Z Z.length) q sq lb fb v' N ⟨(cS f hbd s Z).L,(cS f hbd s Z).R,(cS f hbd s Z).Q⟩ bl':=hP
       simp only[go_sem,simprocAttr,aF,aE,aH,aG,az,aw,ax,ay,bj,aP,bg,aQ,aS,aR,aI,aO,aJ,aK,aA,ai,bM,bN,aco,acn,acD,hd2,gb3,gb2,gbf,hl]
       refine cw (fun i s'=>∃bl2 es2,PJ f s Z fl (aW f s Z Z.length) q sq lb fb v' N ⟨(cS f hbd s Z).L,((eg (aW f s Z Z.length)).take i).foldl (iu f hbd (cS f hbd s Z) (aW f s Z Z.length)) (cS f hbd s Z).R,(cS f hbd s Z).Q⟩ bl2∧c0 N es2∧s'=([(3,.ptr 0 0 0 0),(10,.ptr 3 0 0 0),(87,.bn fb v' 0 q.length),(88,af5 q.length),(89,af5 i)],⟨bl2,es2,0⟩)) q.length ?_ ?_
       ·refine aX (bD rfl rfl (by simp only[go_sem,simprocAttr]<;>rfl) (by simp[SV.refs,SV.refs.av];omega) hl (by first|exact he'|exact aV _) (aV _)) ?_
        rintro s' ⟨es',h,rfl⟩
        exact⟨bl',es',hP,h,rfl⟩
       ·have hLN:(cS f hbd s Z).L.length≤maxLen:=by
         refine ac7 (uy f hbd s Z (aW f s Z Z.length) _ _) ?_
         have e2:=afP (show(eg (aW f s Z Z.length)).length≤32 by rw[ju];omega) (show Z.length≤32 by omega)
         have e3:(ks (aW f s Z Z.length) Z.length).L.length=(aW f s Z Z.length).length:=rfl
         have:=mx
         refine ac7 (show _≤2000 by omega) (by decide)
        rintro i s' hi ⟨bl2,es2,hP2,he2,rfl⟩
        have hl2:=hP2.len
        have gcf:=hP2.bf
        have gc3:=hP2.b3
        have gc0:=hP2.b0
        have gc1:=hP2.b1
        obtain⟨vx,gc2,gcl⟩:=hP2.b2
        rcases acz i q.length with hlt|hge
        ·obtain⟨k,hk⟩:=bO (show i<(eg (aW f s Z Z.length)).length by rw[ju];omega)
         have hkl:=qQ (acy hk)
         obtain⟨x,hx⟩:=bO hkl
         obtain⟨xb,hxb⟩:=bO (show k<q.length by omega)
         obtain⟨a,n1,n1',n2,_⟩:=qg (acH _) hx
         have gi:sq[i]?=some xb:=by rw[←hsq,ad2,hk];simp[List.getD,hxb]
         have hw:=bE hlt (show q.length≤maxLen by omega)
         obtain⟨z,hz,gxb⟩:=hP2.bq k xb x a hxb hx n2
         have hfs:=zW (iu f hbd (cS f hbd s Z) (aW f s Z Z.length)) (cS f hbd s Z).R hk
         rw[Dp (st:=cS f hbd s Z) hx hz]at hfs
         have l0:=(acm.1 gc0).1
         cases hz0:decide (z.1<0)with
         |true=>
          rw[hz0]at hfs
          simp only[acG]at hfs
          simp only[go_sem,simprocAttr,aF,aE,aH,aG,az,aw,ax,ay,bj,aP,bg,aQ,aS,aR,aI,aO,aJ,aK,aA,ai,bM,bN,aco,acn,acD,hlt,gcf,gi,hl2,gxb,hz0,hw]
          refine⟨trivial,aX (bD rfl rfl (by simp only[go_sem,simprocAttr]<;>rfl) (by simp[SV.refs,SV.refs.av];omega) hl2 he2 (by first|exact he'|exact aV _)) ?_⟩
          rintro s' ⟨es',h,rfl⟩
          exact⟨bl2,es',by rw[hfs];exact hP2,h,rfl⟩
         |false=>
          rw[hz0]at hfs
          have hfz:=fun H d=>(qO (cS f hbd s Z).L).fz 0 H 6 d (cS f hbd s Z).L.length 4 false A.cD
          obtain⟨e,hrc⟩:=I6 (dZ f hbd) (cS f hbd s Z).L z.1 x.n.toNat
          have h47:=A.s47 (n+41) ⟨[],[],0⟩ (dZ f hbd) (cS f hbd s Z).L false z.1 x.n.toNat hLN
          rw[hrc]at h47
          have d0:decide (lb<0)=false:=rfl
          cases hrv:nK (dZ f hbd) (cS f hbd s Z).L z.1 x.n.toNat with
          |false=>
           rw[hrv]at h47 hfs
           simp only[dZ,A.xF,A.BO]at h47
           simp only[acJ]at hfs
           simp only[go_sem,simprocAttr,aF,aE,aH,aG,az,aw,ax,ay,bj,aP,bg,aQ,aS,aR,aI,aO,aJ,aK,aA,ai,bM,bN,aco,acn,acD,hlt,gcf,gi,hl2,gxb,hz0,hw,gc0,gc3,gc2,gcl,hfz,d0,h47]
           refine⟨trivial,aX (bD rfl rfl (by simp only[go_sem,simprocAttr]<;>rfl) (by simp[SV.refs,SV.refs.av];omega) hl2 he2 (by first|exact he'|exact aV _)) ?_⟩
           rintro s' ⟨es',h,rfl⟩
           exact⟨bl2,es',by rw[hfs];exact hP2,h,rfl⟩
          |true=>
           rw[hrv]at h47 hfs
           simp only[dZ,A.xF,A.BO]at h47
           simp only[acG,acJ]at hfs
           obtain⟨Rx,hRx⟩:∃Rx,((eg (aW f s Z Z.length)).take i).foldl (iu f hbd (cS f hbd s Z) (aW f s Z Z.length)) (cS f hbd s Z).R=Rx:=⟨_,rfl⟩
           rw[hRx]at hfs hP2 gc1 gc2
           have lRx:x.n.toNat<Rx.length:=by rw[show Rx.length=Z.length from hP2.lR];exact n1
           obtain⟨row,hrow⟩:=bO lRx
           have hrw:(kC Rx).set x.n.toNat [.bool true,.bool false,af6,af6,af6,af6,af6,af6,af6,af6,af6,af6,af6,.str ⟨⟨[]⟩⟩,af5 z.2]=kC (Rx.set x.n.toNat (Ij z.2)):=Ag Rx x.n.toNat (Ij z.2)
           have hP3:=hP2.Td x.n.toNat (Ij z.2)
           obtain⟨bl3,hb3⟩:∃b,bl2.set 1 (.arr 0 15 (kC (Rx.set x.n.toNat (Ij z.2))) true)=b:=⟨_,rfl⟩
           rw[hb3]at hP3
           have hl3:=hP3.len
           have d1:decide (1<N)=true:=acp (by omega)
           simp only[go_sem,simprocAttr,aF,aE,aH,aG,az,aw,ax,ay,bj,aP,bg,aQ,aS,aR,aI,aO,aJ,aK,aA,ai,bM,bN,aco,acn,acD,hlt,gcf,gi,hl2,gxb,hz0,hw,gc0,gc3,gc2,gcl,gc1,lRx,hrow,hrw,hb3,hl3,hfz,d0,d1,h47,acH,decide_true]
           refine⟨trivial,aX (bD rfl rfl (by simp only[go_sem,simprocAttr]<;>rfl) (by simp[SV.refs,SV.refs.av];omega) hl3 he2 (by first|exact he'|exact aV _)) ?_⟩
           rintro s' ⟨es',h,rfl⟩
           exact⟨bl3,es',by rw[hfs];exact hP3,h,rfl⟩
        ·obtain rfl:i=q.length:=by omega
         rw[htk]at hP2 gc1 gc2
         have hF:((eg (aW f s Z Z.length)).foldl (iu f hbd (cS f hbd s Z) (aW f s Z Z.length)) (cS f hbd s Z).R)=fe f hbd s Z:=rfl
         rw[hF]at gc1 gc2
         have hfz1:=fun H=>(tz (fe f hbd s Z)).fz 0 H 5 0 (fe f hbd s Z).length 15 true Aq
         have hfz2:=fun H=>(qO (cS f hbd s Z).L).fz 0 H 5 vx (cS f hbd s Z).L.length 4 false A.cD
         have hne:(aW f s Z Z.length).isEmpty=false:=by
          cases h:aW f s Z Z.length with
          |nil=>exact absurd h w5
          |cons _ _=>rfl
         have d0:decide (lb<0)=false:=rfl
         simp only[go_sem,simprocAttr,aF,aE,aH,aG,az,aw,ax,ay,bj,aP,bg,aQ,aS,aR,aI,aO,aJ,aK,aA,ai,bM,bN,aco,acn,acD,hd2,gc3,gc2,hl2,gc1,gcl,hfz1,hfz2,hpl,hne,d0]

def kA(ar:List A.Em)(k:Nat):Int:=match ar[k]? with|some x=>x.y|none=>0
structure Sg where
 L:List A.Em
 R:List Rs
 P:List Nat
def oc(f:Fi)(hb:Bd f)(s:Int)(Z:List Ac)(x:A.Em)(k j:Nat)(a:Ac)(st:Sg)(i:Nat):Sg:=match Z[i]? with
 |some b=>bif decide (b.kd=2)&&decide (iV (dZ f hb) st.L (gL f s i b)=some k)then
   (bif decide (a.d=(i:Int))then⟨st.L++[gC x i],st.R.set i (oN a (tn (cT f i).1 (cT f i).2 s x.x)),st.P.set j st.L.length⟩
    else⟨st.L,st.R.set i (oN a (tn (cT f i).1 (cT f i).2 s x.x)),st.P⟩)else st
 |none=>st
def sR(f:Fi)(hb:Bd f)(s:Int)(Z:List Ac)(x:A.Em)(k j:Nat)(a:Ac)(st:Sg):Nat→Sg
 |0=>st
 |i+1=>oc f hb s Z x k j a (sR f hb s Z x k j a st i) i
def Hp(f:Fi)(hb:Bd f)(s:Int)(Z:List Ac)(ar:List A.Em)(st:Sg)(k:Nat):Sg:=match ar[k]? with
 |some x=>match Z[x.n.toNat]? with
  |some a=>sR f hb s Z x k x.n.toNat a st Z.length
  |none=>st
 |none=>st
def g0(ar:List A.Em)(n:Nat):Sg:=⟨ar,List.replicate n mj,List.replicate n 0⟩
structure PG(n:Nat)(ar:List A.Em)(st:Sg):Prop where
 lR:st.R.length=n
 lP:st.P.length=n
 pre:∀(i:Nat) (x:A.Em),ar[i]?=some x→st.L[i]?=some x
 rg:∀y∈st.L,0≤y.n∧y.n<(n:Int)
theorem PG.step{Z:List Ac}{ar:List A.Em}{st:Sg}(h:PG Z.length ar st)(f:Fi)(hb:Bd f)(s:Int)(x:A.Em)(k j:Nat)(a:Ac)(i:Nat):PG Z.length ar (oc f hb s Z x k j a st i)∧(oc f hb s Z x k j a st i).L.length≤st.L.length+1:=by
 unfold oc
 split
 ·rename_i b hib
  cases hc:(decide (b.kd=2)&&decide (iV (dZ f hb) st.L (gL f s i b)=some k))with
  |false=>simp only[acJ];exact⟨h,by omega⟩
  |true=>
   cases decide (a.d=(i:Int))with
   |false=>simp only[acG,acJ];exact⟨⟨by simpa using h.lR,h.lP,h.pre,h.rg⟩,by omega⟩
   |true=>
    simp only[acG]
    exact⟨⟨by simpa using h.lR,by simpa using h.lP,fun i x hx=>by
     have:=h.pre i x hx
     show(st.L++_)[i]?=_
     rw[acF (acm.1 this).1];exact this,fun y hy=>by
     rcases ady.1 hy with hy|hy
     ·exact h.rg y hy
     ·simp only[adH]at hy
      subst hy
      have:=(acm.1 hib).1
      show 0≤((i:Nat):Int)∧((i:Nat):Int)<(Z.length:Int)
      omega⟩,by simp⟩
 ·exact⟨h,by omega⟩
theorem PG.loop{Z:List Ac}{ar:List A.Em}{st:Sg}(h:PG Z.length ar st)(f:Fi)(hb:Bd f)(s:Int)(x:A.Em)(k j:Nat)(a:Ac):∀i,PG Z.length ar (sR f hb s Z x k j a st i)∧(sR f hb s Z x k j a st i).L.length≤st.L.length+i
 |0=>⟨h,acH _⟩
 |i+1=>by
  obtain⟨h1,h2⟩:=PG.loop h f hb s x k j a i
  obtain⟨h3,h4⟩:=h1.step f hb s x k j a i
  exact⟨h3,by show(oc _ _ _ _ _ _ _ _ _ _).L.length≤_;omega⟩
theorem Mu{z x:A.Em}(h:IP z x=true):z.n=x.n:=by
 unfold IP at h
 simp only[acw,acr]at h
 exact h.1
theorem zJ(x:A.Em):IP x x=true:=by simp[IP]
theorem tG{f:Fi}{s:Int}{Z:List Ac}{L:List A.Em}(hpre:∀(i:Nat) (x:A.Em),(aW f s Z Z.length)[i]?=some x→L[i]?=some x)
 (hack:∀(q:Nat) (y:A.Em),(aW f s Z Z.length).length≤q→L[q]?=some y→∃b,Z[y.n.toNat]?=some b∧decide (b.kd=2)=true)
 {k:Nat} {x:A.Em} (hx:(aW f s Z Z.length)[k]?=some x) (o:Option Nat) (ho:∀q,o=some q→q<L.length):BS L o x=decide (o=some k):=by
 cases o with
 |none=>rfl
 |some q=>
  obtain⟨y,hy⟩:=bO (ho q rfl)
  unfold BS
  simp only[hy]
  by_cases hq:q=k
  ·subst hq
   rw[hpre q x hx]at hy
   cases hy
   rw[zJ];exact(acp rfl).symm
  ·rw[acs (fun h=>hq (by injection h))]
   cases he:IP y x with
   |false=>rfl
   |true=>
    exfalso
    have hn:=Mu he
    rcases acz q (aW f s Z Z.length).length with h1|h1
    ·obtain⟨x',hx'⟩:=bO h1
     have hxy:y=x':=by
      have h2:=hpre q x' hx'
      rw[hy]at h2
      exact aeo h2
     exact hq (kO f s Z Z.length q k x' x hx' hx (by rw[←hxy,hn]))
    ·obtain⟨b,hb1,hb2⟩:=hack q y h1 hy
     obtain⟨j,a,_,ha,hk1,hxe⟩:=ef f s Z Z.length k x hx
     have hj:x.n.toNat=j:=by rw[hxe];show((j:Nat):Int).toNat=j;omega
     rw[hn,hj,ha]at hb1
     cases hb1
     rw[acr]at hk1 hb2
     omega
structure EQ(ar:List A.Em)(Z:List Ac)(st:St)(t:Sg):Prop where
 L:st.L=t.L
 R:st.R=t.R
 lR:st.R.length=Z.length
 lQ:st.Q.length=Z.length
 lP:t.P.length=Z.length
 pre:∀(i:Nat) (x:A.Em),ar[i]?=some x→st.L[i]?=some x
 GQ:∀(q:Nat) (y:A.Em),ar.length≤q→st.L[q]?=some y→∃b,Z[y.n.toNat]?=some b∧decide (b.kd=2)=true
 qp:∀(j:Nat) (z:Int×Int) (p:Nat),st.Q[j]?=some z→t.P[j]?=some p→(p=0∧z.1= -1)∨(p≠0∧z.1=p)
theorem EQ.step{f:Fi}{hb:Bd f}{s:Int}{Z:List Ac}{st:St}{t:Sg}(h:EQ (aW f s Z Z.length) Z st t){k:Nat}{x:A.Em}{a:Ac}(hx:(aW f s Z Z.length)[k]?=some x)(ha:Z[x.n.toNat]?=some a)(i:Nat) :
 EQ (aW f s Z Z.length) Z (dS f hb s Z x x.n.toNat a st i) (oc f hb s Z x k x.n.toNat a t i):=by
 unfold dS oc
 cases hz:Z[i]? with
 |none=>exact h
 |some b=>
  have hh:=tG h.pre h.GQ hx (iV (dZ f hb) st.L (gL f s i b)) (fun q hq=>mN hq)
  simp only
  rw[hh,←h.L,←h.R]
  cases hc:(decide (b.kd=2)&&decide (iV (dZ f hb) st.L (gL f s i b)=some k))with
  |false=>simp only[acJ];exact h
  |true=>
   have hkd:decide (b.kd=2)=true:=(aeD.1 hc).1
   cases hdi:decide (a.d=(i:Int))with
   |false=>
    simp only[acG,acJ]
    exact⟨rfl,rfl,by simpa using h.lR,h.lQ,h.lP,h.pre,h.GQ,h.qp⟩
   |true=>
    simp only[acG]
    have hn:=(acm.1 ha).1
    have hL0:0<st.L.length:=Nat.lt_of_le_of_lt (aei _) (acm.1 (h.pre k x hx)).1
    have hLa:(aW f s Z Z.length).length≤st.L.length:=by
     rcases acz st.L.length (aW f s Z Z.length).length with h1|h1
     ·obtain⟨x',hx'⟩:=bO h1
      have:=(acm.1 (h.pre _ x' hx')).1
      omega
     ·exact h1
    refine⟨rfl,rfl,by simpa using h.lR,by simpa using h.lQ,by simpa using h.lP,fun j y hy=>?_,fun q y hq hy=>?_,fun j z p hz1 hp1=>?_⟩
    ·have:=h.pre j y hy
     show(st.L++_)[j]?=_
     rw[acF (acm.1 this).1];exact this
    ·rcases acz q st.L.length with h1|h1
     ·have hy2:(st.L++[gC x i])[q]?=some y:=hy
      rw[acF h1]at hy2
      exact h.GQ q y hq hy2
     ·have hy2:(st.L++[gC x i])[q]?=some y:=hy
      rw[adf h1]at hy2
      have hm:=acy hy2
      simp only[adH]at hm
      subst hm
      exact⟨b,by show Z[((i:Nat):Int).toNat]?=_;rw[adl];exact hz,hkd⟩
    ·by_cases hj:j=x.n.toNat
     ·subst hj
      rw[acM (by rw[h.lQ];exact hn)]at hz1
      rw[acM (by rw[h.lP];exact hn)]at hp1
      cases hz1;cases hp1
      exact .inr ⟨by omega,rfl⟩
     ·rw[acv (Ne.symm hj)]at hz1 hp1
      exact h.qp j z p hz1 hp1
theorem EQ.loop{f:Fi}{hb:Bd f}{s:Int}{Z:List Ac}{st:St}{t:Sg}(h:EQ (aW f s Z Z.length) Z st t){k:Nat}{x:A.Em}{a:Ac}(hx:(aW f s Z Z.length)[k]?=some x)(ha:Z[x.n.toNat]?=some a):∀i,
 EQ (aW f s Z Z.length) Z (fH f hb s Z x x.n.toNat a st i) (sR f hb s Z x k x.n.toNat a t i)
 |0=>h
 |i+1=>(EQ.loop h hx ha i).step hx ha i
theorem EQ.fold{f:Fi}{hb:Bd f}{s:Int}{Z:List Ac}:∀(l:List Nat) {st:St} {t:Sg},EQ (aW f s Z Z.length) Z st t→EQ (aW f s Z Z.length) Z (l.foldl (dh f hb s Z (aW f s Z Z.length)) st) (l.foldl (Hp f hb s Z (aW f s Z Z.length)) t)
 |[],_,_,h=>h
 |k::l,st,t,h=>by
  rw[adB,adB]
  refine EQ.fold l ?_
  unfold dh Hp
  cases hx:(aW f s Z Z.length)[k]? with
  |none=>exact h
  |some x=>
   simp only
   cases ha:Z[x.n.toNat]? with
   |none=>exact h
   |some a=>exact h.loop hx ha Z.length
theorem EQ.zero(ar:List A.Em)(Z:List Ac):EQ ar Z (ks ar Z.length) (g0 ar Z.length):=
 ⟨rfl,rfl,by simp[ks],by simp[ks],by simp[g0],fun i x h=>h,fun q y hq hy=>by
  have:=(acm.1 (show ar[q]?=some y from hy)).1
  omega,fun j z p h1 h2=>by
  have e1:=acy h1
  have e2:=acy h2
  simp only[ks,aeO]at e1
  simp only[g0,aeO]at e2
  rw[e1.2,e2.2]
  exact .inl ⟨rfl,rfl⟩⟩
namespace A
def xI(s:Sn)(L:List Em)(y:Em)(q:Nat)(x:Em):Bool:=decide (x.c=y.c)&&!decide (x.x<y.x)&&!decide (y.y<x.x)&&fk s L q x y.n
def I0(s:Sn)(L:List Em)(y:Em)(q b:Nat):Prop:=b<q∧∃x,L[b]?=some x∧xI s L y b x=true∧∀q' x',q'<q→L[q']?=some x'→xI s L y q' x'=true→x.x<x'.x∨x.x=x'.x∧b≤q'
theorem kW(s:Sn)(L:List Em)(y:Em):∀q,(∃b,iy s L y q=some b∧I0 s L y q b)∨(iy s L y q=none∧∀q' x',q'<q→L[q']?=some x'→xI s L y q' x'=false)
 |0=>.inr ⟨rfl,fun q' x' h=>by omega⟩
 |q+1=>by
  have ih:=kW s L y q
  cases hx:L[q]? with
  |none=>
   have he:iy s L y (q+1)=iy s L y q:=by simp only[iy,hx]
   rw[he]
   rcases ih with⟨b,h1,h2,x,h3,h4,h5⟩|⟨h1,h2⟩
   ·refine .inl ⟨b,h1,by omega,x,h3,h4,fun q' x' hq hx' hc=>?_⟩
    rcases acz q' q with h|h
    ·exact h5 q' x' h hx' hc
    ·obtain rfl:q'=q:=by omega
     rw[hx]at hx';cases hx'
   ·refine .inr ⟨h1,fun q' x' hq hx'=>?_⟩
    rcases acz q' q with h|h
    ·exact h2 q' x' h hx'
    ·obtain rfl:q'=q:=by omega
     rw[hx]at hx';cases hx'
  |some x=>
   have he:iy s L y (q+1)=bif xE L y (iy s L y q) x&&fk s L q x y.n then some q else iy s L y q:=by simp only[iy,hx]
   have hcn:xI s L y q x=(decide (x.c=y.c)&&!decide (x.x<y.x)&&!decide (y.y<x.x)&&fk s L q x y.n):=rfl
   rw[he]
   rcases ih with⟨b,h1,h2,z,h3,h4,h5⟩|⟨h1,h2⟩
   ·have hh:(xE L y (iy s L y q) x&&fk s L q x y.n)=(xI s L y q x&&!decide (z.x≤x.x)):=by
     rw[h1,hcn]
     simp only[xE,h3]
     cases decide (x.c=y.c)<;>cases decide (x.x<y.x)<;>cases decide (y.y<x.x)<;>cases decide (z.x≤x.x)<;>cases fk s L q x y.n<;>rfl
    rw[hh]
    cases hc:xI s L y q x&&!decide (z.x≤x.x)with
    |true=>
     simp only[acw,ac8,acx]at hc
     refine .inl ⟨q,rfl,by omega,x,hx,hc.1,fun q' x' hq hx' hc'=>?_⟩
     rcases acz q' q with h|h
     ·have:=h5 q' x' h hx' hc'
      left;omega
     ·obtain rfl:q'=q:=by omega
      rw[hx]at hx';cases hx'
      exact .inr ⟨rfl,acH _⟩
    |false=>
     refine .inl ⟨b,h1,by omega,z,h3,h4,fun q' x' hq hx' hc'=>?_⟩
     rcases acz q' q with h|h
     ·exact h5 q' x' h hx' hc'
     ·obtain rfl:q'=q:=by omega
      rw[hx]at hx';cases hx'
      rw[hc',ac9]at hc
      simp only[aeY,acr]at hc
      omega
   ·have hh:(xE L y (iy s L y q) x&&fk s L q x y.n)=xI s L y q x:=by
     rw[h1,hcn]
     simp only[xE]
     cases decide (x.c=y.c)<;>cases decide (x.x<y.x)<;>cases decide (y.y<x.x)<;>cases fk s L q x y.n<;>rfl
    rw[hh]
    cases hc:xI s L y q x with
    |true=>
     refine .inl ⟨q,rfl,by omega,x,hx,hc,fun q' x' hq hx' hc'=>?_⟩
     rcases acz q' q with h|h
     ·rw[h2 q' x' h hx']at hc';cases hc'
     ·obtain rfl:q'=q:=by omega
      rw[hx]at hx';cases hx'
      exact .inr ⟨rfl,acH _⟩
    |false=>
     refine .inr ⟨h1,fun q' x' hq hx'=>?_⟩
     rcases acz q' q with h|h
     ·exact h2 q' x' h hx'
     ·obtain rfl:q'=q:=by omega
      rw[hx]at hx';cases hx'
      exact hc
theorem iz{s:Sn}{L:List Em}{y:Em}{q b:Nat}(h:iy s L y q=some b):I0 s L y q b:=by
 rcases kW s L y q with⟨b',h1,h2⟩|⟨h1,_⟩
 ·rw[h1]at h;cases h;exact h2
 ·rw[h1]at h;cases h
theorem wF{s:Sn}{L:List Em}{y:Em}{q b:Nat}(h:I0 s L y q b):iy s L y q=some b:=by
 obtain⟨h0,x,h3,h4,h5⟩:=h
 rcases kW s L y q with⟨b',h1,h2,x',h6,h7,h8⟩|⟨_,h2⟩
 ·have a1:=h5 b' x' h2 h6 h7
  have a2:=h8 b x h0 h3 h4
  rw[h1,show b'=b by omega]
 ·rw[h2 b x h0 h3]at h4;cases h4
theorem rl{g:Em→Int}(a:Em)(i:Nat)(k:Int)(L E:List Em):∀q,q≤L.length→il g a i k (L++E) q=il g a i k L q
 |0,_=>rfl
 |q+1,hq=>by
  have ih:=rl (g:=g) a i k L E q (by omega)
  simp only[il,acF (show q<L.length by omega),ih]
theorem pU{g:Em→Int}(h:∀x,0≤g x∧g x≤68719476736)(a:Em)(i:Nat)(k:Int)(L E:List Em):∀r,il g a i k L L.length≤il g a i k (L++E) (L.length+r)
 |0=>by rw[ad9,rl a i k L E _ (acH _)];exact aeH _
 |r+1=>by
  have ih:=pU h a i k L E r
  rw[←acD,il]
  cases(L++E)[L.length+r]? with
  |none=>exact ih
  |some x=>
   have:=h x
   simp only
   cases jd a i k (L.length+r) x<;>simp only[acG,acJ]<;>omega
theorem pz{g:Em→Int}(a:Em)(i:Nat)(k:Int)(L E:List Em)(hE:∀x∈E,vk a x=false):∀r,il g a i k (L++E) (L.length+r)=il g a i k L L.length
 |0=>by rw[ad9,rl a i k L E _ (acH _)]
 |r+1=>by
  have ih:=pz (g:=g) a i k L E hE r
  rw[←acD,il]
  cases hx:(L++E)[L.length+r]? with
  |none=>exact ih
  |some x=>
   have hm:x∈E:=by
    rw[adf (by omega)]at hx
    exact acy hx
   have:jd a i k (L.length+r) x=false:=by simp only[jd,hE x hm,adk]
   simp only[this,acJ,Int.add_zero]
   exact ih
theorem D6{s:Sn}(h:eN s=true){L E:List Em}(hL:(L++E).length≤1000){i:Nat}{a:Em}{k:Int}(hr:fk s (L++E) i a k=true):fk s L i a k=true:=by
 unfold fk at hr⊢
 simp only[acw]at hr⊢
 refine⟨?_,?_⟩
 ·have:=hr.1
  unfold fU at this⊢
  rw[List.any_append]at this
  simp only[ac8,Bool.or_eq_false_iff]at this⊢
  exact this.1
 ·have:=hr.2
  unfold wJ at this⊢
  simp only[acr]at this⊢
  rw[ia h hL]at this
  rw[ia h (L:=L) (by rw[acn]at hL;omega)]
  have h2:=pU (g:=fun x=>sig s x k) (fun x=>zN h x k) a i k L E E.length
  rw[acn]at this
  omega
theorem Dy{s:Sn}(h:eN s=true){L E:List Em}(hL:(L++E).length≤1000){i:Nat}{a:Em}{k:Int}(hE:∀x∈E,vk a x=false):fk s (L++E) i a k=fk s L i a k:=by
 unfold fk
 have h1:fU (L++E) a k=fU L a k:=by
  unfold fU
  rw[List.any_append]
  have:(E.any fun b=>decide (b.n=k)&&vk b a)=false:=by
   rw[List.any_eq_false]
   intro x hx
   rw[G2,hE x hx];simp
  rw[this,aer]
 have h2:inter s (L++E) i a k=inter s L i a k:=by
  rw[ia h hL,ia h (L:=L) (by rw[acn]at hL;omega),acn,pz a i k L E hE]
 rw[h1,h2]
theorem Bz{s:Sn}(h:eN s=true){L E:List Em}(hL:(L++E).length≤1000){y x:Em}{b:Nat}(hb:iy s L y L.length=some b)(hx:L[b]?=some x)(hxy:x.x<x.y)(hE:∀e∈E,x.y≤e.x):iy s (L++E) y (L++E).length=some b:=by
 obtain⟨h0,x',h3,h4,h5⟩:=iz hb
 rw[hx]at h3;cases h3
 have hov:∀e∈E,vk x e=false:=fun e he=>by
  have:=hE e he
  simp only[vk,acx]
  omega
 refine wF ⟨by rw[acn];omega,x,by rw[acF h0];exact hx,?_,fun q' x' hq hx' hc=>?_⟩
 ·unfold xI at h4⊢
  rw[Dy h hL hov];exact h4
 ·rcases acz q' L.length with hlt|hge
  ·rw[acF hlt]at hx'
   refine h5 q' x' hlt hx' ?_
   unfold xI at hc⊢
   simp only[acw]at hc⊢
   exact⟨hc.1,D6 h hL hc.2⟩
  ·rw[adf hge]at hx'
   have:=hE x' (acy hx')
   left;omega
end A
theorem wK{n:Nat}{L:List A.Em}:∀(k i:Nat),A.vo n L k i=0→∀(j:Nat) (a:A.Em),i≤j→j<i+k→L[j]?=some a→A.sk n (L.take j) a=0
 |0,i,_,j,a,h1,h2,_=>by omega
 |k+1,i,h,j,a,h1,h2,ha=>by
  obtain⟨b,hb⟩:=bO (show i<L.length by have:=(acm.1 ha).1;omega)
  unfold A.vo at h
  rw[hb]at h
  cases he:decide (A.sk n (L.take i) b=0)with
  |false=>
   simp only[he,acJ]at h
   exact absurd h (adi he)
  |true=>
   simp only[he,acG]at h
   by_cases hj:j=i
   ·subst hj
    rw[ha]at hb;cases hb
    exact acQ he
   ·exact wK k (i+1) h j a (by omega) (by omega) ha
theorem jE{ok:Bool}{n:Nat}{L:List A.Em}(h:A.pr ok n L=0):ok=true∧L.length≤48∧∀(j:Nat) (a:A.Em),L[j]?=some a→A.vj a=true:=by
 unfold A.pr at h
 cases ok with
 |false=>cases h
 |true=>
  cases hl:decide (48<L.length)with
  |true=>rw[hl]at h;cases h
  |false=>
   rw[hl]at h
   simp only[acG,acJ]at h
   refine⟨rfl,by have:=adi hl;omega,fun j a ha=>?_⟩
   have h0:=wK L.length 0 h j a (by omega) (by have:=(acm.1 ha).1;omega) ha
   unfold A.sk at h0
   cases h1:U.eA n a.n with
   |false=>rw[h1]at h0;cases h0
   |true=>
    cases h2:A.vj a with
    |true=>rfl
    |false=>rw[h1,h2]at h0;cases h0
theorem qn{a:A.Em}(h:A.vj a=true):0≤a.x∧a.x<a.y∧a.y≤1099511627776:=by
 unfold A.vj at h
 simp only[acw,acr]at h
 exact⟨h.1.1.2,h.1.2,h.2⟩
theorem gM{sn:A.Sn}{L:List A.Em}{y:A.Em}{b:Nat}(h:iV sn L y=some b):A.pr (A.eN sn) sn.N.length L=0∧A.iy sn L y L.length=some b:=by
 unfold iV at h
 cases h1:decide (A.pr (A.eN sn) sn.N.length L=0)with
 |false=>rw[h1]at h;cases h
 |true=>
  cases h2:decide (y.n<0)||decide ((sn.N.length:Int)≤y.n)with
  |true=>rw[h1,h2]at h;cases h
  |false=>
   cases h3:A.Jv y with
   |true=>rw[h1,h2,h3]at h;cases h
   |false=>
    rw[h1,h2,h3]at h
    exact⟨acQ h1,h⟩
theorem once{sn:A.Sn}{L E:List A.Em}{y x:A.Em}{b b':Nat}(hb:iV sn L y=some b)(hx:L[b]?=some x)(hE:∀e∈E,x.y≤e.x)(hb':iV sn (L++E) y=some b'):b'=b:=by
 obtain⟨k1,k2⟩:=gM hb
 obtain⟨k3,k4⟩:=gM hb'
 obtain⟨hok,hl,_⟩:=jE k3
 obtain⟨_,_,he⟩:=jE k1
 have hxy:=(qn (he b x hx)).2.1
 rw[A.Bz hok (by omega) k2 hx hxy hE]at k4
 exact(aeo k4).symm
structure KG(f:Fi)(hb:Bd f)(s:Int)(Z:List Ac)(ar:List A.Em)(Y:Int)(st:St)(j p:Nat):Prop where
 ge:ar.length≤p
 ex:∃(k i:Nat) (x y:A.Em) (b:Ac) (z:Int×Int) (r:Rs) (L0 E:List A.Em),ar[k]?=some x∧x.n.toNat=j∧x.y≤Y∧st.L[p]?=some y∧y.n=(i:Int)∧Z[i]?=some b∧decide (b.kd=2)=true∧
  st.Q[j]?=some z∧z.2=tn (cT f i).1 (cT f i).2 s x.x∧st.R[i]?=some r∧r.er=z.2∧st.L=L0++E∧iV (dZ f hb) L0 (gL f s i b)=some k∧L0[k]?=some x∧∀e∈E,x.y≤e.x
def HQ(f:Fi)(hb:Bd f)(s:Int)(Z:List Ac)(ar:List A.Em)(Y:Int)(st:St)(t:Sg):Prop:=∀(j p:Nat),t.P[j]?=some p→p≠0→KG f hb s Z ar Y st j p
theorem KG.mono{f:Fi}{hb:Bd f}{s:Int}{Z:List Ac}{ar:List A.Em}{Y Y':Int}{st:St}{j p:Nat}(h:KG f hb s Z ar Y st j p)(hY:Y≤Y'):KG f hb s Z ar Y' st j p:=by
 obtain⟨g,k,i,x,y,b,z,r,L0,E,h1,h2,h3,h4⟩:=h
 exact⟨g,k,i,x,y,b,z,r,L0,E,h1,h2,by omega,h4⟩
theorem HQ.step{f:Fi}{hb:Bd f}{s:Int}{Z:List Ac}{st:St}{t:Sg}(h:EQ (aW f s Z Z.length) Z st t){k:Nat}{x:A.Em}{a:Ac}(hx:(aW f s Z Z.length)[k]?=some x)(ha:Z[x.n.toNat]?=some a)
 (g:HQ f hb s Z (aW f s Z Z.length) x.y st t) (i:Nat):HQ f hb s Z (aW f s Z Z.length) x.y (dS f hb s Z x x.n.toNat a st i) (oc f hb s Z x k x.n.toNat a t i):=by
 unfold dS oc
 cases hz:Z[i]? with
 |none=>exact g
 |some b=>
  have hh:=tG h.pre h.GQ hx (iV (dZ f hb) st.L (gL f s i b)) (fun q hq=>mN hq)
  simp only
  rw[hh,←h.L]
  cases hc:(decide (b.kd=2)&&decide (iV (dZ f hb) st.L (gL f s i b)=some k))with
  |false=>simp only[acJ];exact g
  |true=>
   obtain⟨hkd,hhr⟩:=aeD.1 hc
   have hhr:=acQ hhr
   have hil:=(acm.1 hz).1
   have hLk:=h.pre k x hx
   have hem:=qn ((jE (gM hhr).1).2.2 k x hLk)
   have hwy:bb (x.y+1000)=x.y+1000:=al (by omega) (by omega)
   have keep:∀(j p:Nat) (L':List A.Em) (Q':List (Int×Int)) (E':List A.Em),L'=st.L++E'→(∀e∈E',x.y≤e.x)→Q'[j]?=st.Q[j]?→KG f hb s Z (aW f s Z Z.length) x.y st j p→
    KG f hb s Z (aW f s Z Z.length) x.y ⟨L',st.R.set i (oN a (tn (cT f i).1 (cT f i).2 s x.x)),Q'⟩ j p:=by
    rintro j p L' Q' E' rfl hE' hQ' ⟨ge,k1,i1,x1,y1,b1,z1,r1,L0,E,e1,e2,e3,e4,e5,e6,e7,e8,e9,BW,xG,PC,Jh,OP,RU⟩
    have e4':(st.L++E')[p]?=some y1:=by rw[acF (acm.1 e4).1];exact e4
    have e15':∀e∈E++E',x1.y≤e.x:=fun e he=>by
     rcases ady.1 he with he|he
     ·exact RU e he
     ·exact af0 e3 (hE' e he)
    by_cases hi:i1=i
    ·subst hi
     rw[hz]at e6;cases e6
     have hk:k=k1:=by
      rw[PC]at hhr
      exact once Jh OP RU hhr
     subst hk
     rw[hx]at e1;cases e1
     exact⟨ge,k,i1,x,y1,b,z1,_,L0,E++E',hx,e2,e3,e4',e5,hz,e7,hQ'.trans e8,e9,acM (by rw[h.lR];exact hil),e9.symm,by rw[PC,aco],Jh,OP,e15'⟩
    ·exact⟨ge,k1,i1,x1,y1,b1,z1,r1,L0,E++E',e1,e2,e3,e4',e5,e6,e7,hQ'.trans e8,e9,by show(st.R.set i _)[i1]?=_;rw[acv (Ne.symm hi)];exact BW,xG,by rw[PC,aco],Jh,OP,e15'⟩
   cases hdi:decide (a.d=(i:Int))with
   |false=>
    simp only[acG,acJ]
    intro j p hp hp0
    exact keep j p st.L st.Q [] (by simp) (fun e he=>by cases he) rfl (g j p hp hp0)
   |true=>
    simp only[acG]
    intro j p hp hp0
    have hp':(t.P.set x.n.toNat st.L.length)[j]?=some p:=hp
    have hE:∀e∈[gC x i],x.y≤e.x:=fun e he=>by
     simp only[adH]at he
     subst he
     show x.y≤bb (x.y+1000)
     omega
    by_cases hj:j=x.n.toNat
    ·subst hj
     rw[acM (by rw[h.lP];exact(acm.1 ha).1)]at hp'
     cases hp'
     have hLa:(aW f s Z Z.length).length≤st.L.length:=by
      rcases acz st.L.length (aW f s Z Z.length).length with h1|h1
      ·obtain⟨x',hx'⟩:=bO h1
       have:=(acm.1 (h.pre _ x' hx')).1
       omega
      ·exact h1
     exact⟨hLa,k,i,x,gC x i,b,_,_,st.L,[gC x i],hx,rfl,aeH _,by simp,rfl,hz,hkd,acM (by rw[h.lQ];exact(acm.1 ha).1),rfl,acM (by rw[h.lR];exact hil),rfl,rfl,hhr,hLk,hE⟩
    ·rw[acv (Ne.symm hj)]at hp'
     exact keep j p _ _ [gC x i] rfl hE (acv (Ne.symm hj)) (g j p hp' hp0)
theorem HQ.loop{f:Fi}{hb:Bd f}{s:Int}{Z:List Ac}{st:St}{t:Sg}(h:EQ (aW f s Z Z.length) Z st t){k:Nat}{x:A.Em}{a:Ac}(hx:(aW f s Z Z.length)[k]?=some x)(ha:Z[x.n.toNat]?=some a)
 (g:HQ f hb s Z (aW f s Z Z.length) x.y st t):∀i,HQ f hb s Z (aW f s Z Z.length) x.y (fH f hb s Z x x.n.toNat a st i) (sR f hb s Z x k x.n.toNat a t i)
 |0=>g
 |i+1=>HQ.step (h.loop hx ha i) hx ha (HQ.loop h hx ha g i) i
theorem HQ.fold{f:Fi}{hb:Bd f}{s:Int}{Z:List Ac}:∀(l:List Nat) {st:St} {t:Sg} {Y:Int},EQ (aW f s Z Z.length) Z st t→HQ f hb s Z (aW f s Z Z.length) Y st t→Q.pv (kA (aW f s Z Z.length)) l→(∀k∈l,Y≤kA (aW f s Z Z.length) k)→
 ∃Y',HQ f hb s Z (aW f s Z Z.length) Y' (l.foldl (dh f hb s Z (aW f s Z Z.length)) st) (l.foldl (Hp f hb s Z (aW f s Z Z.length)) t)
 |[],_,_,Y,_,g,_,_=>⟨Y,g⟩
 |k::l,st,t,Y,h,g,hs,hY=>by
  obtain⟨hs1,hs2⟩:=adx.1 hs
  rw[adB,adB]
  have hY2:∀k∈l,Y≤kA (aW f s Z Z.length) k:=fun k hk=>hY k (ade _ hk)
  unfold dh Hp
  cases hx:(aW f s Z Z.length)[k]? with
  |none=>exact HQ.fold l h g hs2 hY2
  |some x=>
   simp only
   cases ha:Z[x.n.toNat]? with
   |none=>exact HQ.fold l h g hs2 hY2
   |some a=>
    have hk:kA (aW f s Z Z.length) k=x.y:=by unfold kA;rw[hx]
    have hYx:=hY k ac5
    rw[hk]at hYx
    refine HQ.fold l (h.loop hx ha Z.length) (HQ.loop h hx ha (fun j p hp hp0=>(g j p hp hp0).mono hYx) Z.length) hs2 (fun k' hk'=>?_)
    have:=hs1 k' hk'
    rw[hk]at this
    exact this
def wv(f:Fi)(hb:Bd f)(st:St)(j:Nat):Option Rs:=match st.Q[j]? with
 |some z=>bif decide (z.1<0)then none else bif nK (dZ f hb) st.L z.1 j then some (Ij z.2)else none
 |none=>none
def FO(R:List Rs)(j:Nat):Option Rs→List Rs
 |some r=>R.set j r
 |none=>R
theorem Df(R:List Rs)(j:Nat)(o:Option Rs):(FO R j o).length=R.length:=by cases o<;>simp[FO]
theorem zM{R:List Rs}{j m:Nat}(o:Option Rs)(h:m≠j):(FO R j o)[m]?=R[m]?:=by
 cases o with
 |none=>rfl
 |some r=>exact acv (Ne.symm h)
theorem uR(f:Fi)(hb:Bd f)(st:St)(ar:List A.Em)(R:List Rs)(k:Nat):iu f hb st ar R k=match ar[k]? with
 |some x=>FO R x.n.toNat (wv f hb st x.n.toNat)
 |none=>R:=by
 unfold iu wv
 cases ar[k]? with
 |none=>rfl
 |some x=>
  simp only
  cases st.Q[x.n.toNat]? with
  |none=>rfl
  |some z=>
   simp only
   cases decide (z.1<0)with
   |true=>rfl
   |false=>
    cases nK (dZ f hb) st.L z.1 x.n.toNat<;>rfl
theorem tL{f:Fi}{hb:Bd f}{st:St}{ar:List A.Em}{j:Nat}(h:wv f hb st j=none):∀(l:List Nat) (R:List Rs),(l.foldl (iu f hb st ar) R)[j]?=R[j]?
 |[],R=>rfl
 |k::l,R=>by
  rw[adB,tL h l,uR]
  cases ar[k]? with
  |none=>rfl
  |some x=>
   simp only
   by_cases hj:j=x.n.toNat
   ·rw[←hj,h];rfl
   ·exact zM _ hj
theorem pa(f:Fi)(hb:Bd f)(st:St)(ar:List A.Em):∀(l:List Nat) (R:List Rs),(l.foldl (iu f hb st ar) R).length=R.length
 |[],R=>rfl
 |k::l,R=>by
  rw[adB,pa f hb st ar l,uR]
  cases ar[k]? with
  |none=>rfl
  |some x=>exact Df _ _ _
theorem lU{f:Fi}{hb:Bd f}{st:St}{ar:List A.Em}{j:Nat}{r:Rs}(h:wv f hb st j=some r):∀(l:List Nat) (R:List Rs),j<R.length→(R[j]?=some r∨∃k∈l,∃x,ar[k]?=some x∧x.n.toNat=j)→(l.foldl (iu f hb st ar) R)[j]?=some r
 |[],R,_,hk=>by
  rcases hk with hk|⟨k,hk,_⟩
  ·exact hk
  ·cases hk
 |k::l,R,hl,hk=>by
  rw[adB]
  have hlen:(iu f hb st ar R k).length=R.length:=pa f hb st ar [k] R
  refine lU h l _ (by rw[hlen];exact hl) ?_
  rw[uR]
  cases hx:ar[k]? with
  |none=>
   rcases hk with hk|⟨k',hk',x',hx',hn⟩
   ·exact .inl hk
   ·rcases adj.1 hk' with rfl|hk'
    ·rw[hx]at hx';cases hx'
    ·exact .inr ⟨k',hk',x',hx',hn⟩
  |some x=>
   simp only
   by_cases hj:j=x.n.toNat
   ·refine .inl ?_
    rw[←hj,h]
    exact acM hl
   ·rw[zM _ hj]
    rcases hk with hk|⟨k',hk',x',hx',hn⟩
    ·exact .inl hk
    ·rcases adj.1 hk' with rfl|hk'
     ·rw[hx]at hx';cases hx';exact absurd hn.symm hj
     ·exact .inr ⟨k',hk',x',hx',hn⟩

namespace Q
theorem rK(key:Nat→Int):∀X Y,(cU key X Y).Perm (X++Y)
 |[],Y=>by rw[cz];exact List.Perm.refl _
 |x::X,[]=>by rw[cR,adn]
 |x::X,y::Y=>by
  by_cases h:key y<key x
  ·rw[cV h]
   exact((rK key (x::X) Y).cons y).trans (List.perm_middle (l₁:=x::X)).symm
  ·rw[dp h]
   exact(rK key X (y::Y)).cons x
theorem D1(key:Nat→Int)(X:List Nat):(fw key X).Perm X:=by
 induction X with
 |nil=>exact List.Perm.refl _
 |cons x X ih=>
  have:=j0 key [x] X
  rw[aey]at this
  rw[this]
  refine(rK key _ _).trans ?_
  rw[ma]
  exact ih.cons x
end Q
theorem rh(ar:List A.Em):(eg ar).Nodup:=(Q.D1 _ _).nodup_iff.2 afB
abbrev dD(f:Fi)(s:Int)(Z:List Ac):List A.Em:=aW f s Z Z.length
abbrev tK(f:Fi)(s:Int)(i:Nat)(x:A.Em):Int:=tn (cT f i).1 (cT f i).2 s x.x
def Hd(f:Fi)(hb:Bd f)(s:Int)(Z:List Ac)(D:Nat→Nat→Prop)(Y:Int)(st:St)(k i:Nat):Prop:=
 ∃(x:A.Em) (a b:Ac) (L0 E:List A.Em),(dD f s Z)[k]?=some x∧Z[x.n.toNat]?=some a∧Z[i]?=some b∧decide (b.kd=2)=true∧D k i∧st.R[i]?=some (oN a (tK f s i x))∧
  st.L=L0++E∧iV (dZ f hb) L0 (gL f s i b)=some k∧L0[k]?=some x∧x.y≤Y∧∀e∈E,x.y≤e.x
def Ak(f:Fi)(s:Int)(Z:List Ac)(st:St)(p k i:Nat):Prop:=
 ∃(x:A.Em) (a:Ac),(dD f s Z)[k]?=some x∧Z[x.n.toNat]?=some a∧a.d=(i:Int)∧st.L[p]?=some (gC x i)∧st.Q[x.n.toNat]?=some ((p:Int),tK f s i x)∧(dD f s Z).length≤p
structure gp(f:Fi)(hb:Bd f)(s:Int)(Z:List Ac)(D:Nat→Nat→Prop)(Y:Int)(st:St):Prop where
 lR:st.R.length=Z.length
 lQ:st.Q.length=Z.length
 pre:∀(i:Nat) (x:A.Em),(dD f s Z)[i]?=some x→st.L[i]?=some x
 row:∀(i:Nat) (r:Rs),st.R[i]?=some r→r=mj∨∃k,Hd f hb s Z D Y st k i∧∀(x:A.Em) (a:Ac),(dD f s Z)[k]?=some x→Z[x.n.toNat]?=some a→a.d=(i:Int)→∃p,Ak f s Z st p k i
 GQ:∀p,(dD f s Z).length≤p→p<st.L.length→∃k i,Ak f s Z st p k i∧Hd f hb s Z D Y st k i
 q:∀(j:Nat) (z:Int×Int),st.Q[j]?=some z→z.1= -1∨∃(p k i:Nat) (x:A.Em),z.1=(p:Int)∧(dD f s Z)[k]?=some x∧x.n.toNat=j∧Ak f s Z st p k i∧Hd f hb s Z D Y st k i
theorem Hd.uniq{f:Fi}{hb:Bd f}{s:Int}{Z:List Ac}{D D':Nat→Nat→Prop}{Y Y':Int}{st:St}{k k' i:Nat}(h:Hd f hb s Z D Y st k i)(h':Hd f hb s Z D' Y' st k' i):k=k':=by
 obtain⟨x,a,b,L0,E,e1,e2,e3,e4,e5,e6,e7,e8,e9,BW,xG⟩:=h
 obtain⟨x',a',b',L0',E',d1,d2,d3,d4,d5,d6,d7,d8,d9,d10,d11⟩:=h'
 rw[e3]at d3
 cases d3
 rw[e7]at d7
 rcases List.append_eq_append_iff.1 d7 with⟨F,h1,h2⟩|⟨F,h1,h2⟩
 ·rw[h1]at d8
  exact(once e8 e9 (fun e he=>xG e (by rw[h2];exact adW _ he)) d8).symm
 ·rw[h1]at e8
  exact once d8 d9 (fun e he=>d11 e (by rw[h2];exact adW _ he)) e8
theorem Hd.keep{f:Fi}{hb:Bd f}{s:Int}{Z:List Ac}{D D':Nat→Nat→Prop}{Y Y':Int}{st st':St}{k i:Nat}{E':List A.Em}(h:Hd f hb s Z D Y st k i)(hY:Y≤Y')(hD:∀k i,D k i→D' k i)(hL:st'.L=st.L++E')
 (hE:∀e∈E',Y≤e.x) (hR:st'.R[i]?=st.R[i]?):Hd f hb s Z D' Y' st' k i:=by
 obtain⟨x,a,b,L0,E,e1,e2,e3,e4,e5,e6,e7,e8,e9,BW,xG⟩:=h
 refine⟨x,a,b,L0,E++E',e1,e2,e3,e4,hD _ _ e5,by rw[hR];exact e6,by rw[hL,e7,aco],e8,e9,af0 BW hY,fun e he=>?_⟩
 rcases ady.1 he with he|he
 ·exact xG e he
 ·exact af0 BW (hE e he)
theorem gp.mono{f:Fi}{hb:Bd f}{s:Int}{Z:List Ac}{D D':Nat→Nat→Prop}{Y Y':Int}{st:St}(g:gp f hb s Z D Y st)(hY:Y≤Y')(hD:∀k i,D k i→D' k i):gp f hb s Z D' Y' st:=by
 have hk:∀k i,Hd f hb s Z D Y st k i→Hd f hb s Z D' Y' st k i:=fun k i h=>h.keep hY hD (E':=[]) (by rw[adn]) (fun e he=>by cases he) rfl
 refine⟨g.lR,g.lQ,g.pre,fun i r h=>?_,fun p h1 h2=>?_,fun j z h=>?_⟩
 ·rcases g.row i r h with h|⟨k,h1,h2⟩
  ·exact .inl h
  ·exact .inr ⟨k,hk _ _ h1,h2⟩
 ·obtain⟨k,i,h3,h4⟩:=g.GQ p h1 h2
  exact⟨k,i,h3,hk _ _ h4⟩
 ·rcases g.q j z h with h|⟨p,k,i,x,h1,h2,h3,h4,h5⟩
  ·exact .inl h
  ·exact .inr ⟨p,k,i,x,h1,h2,h3,h4,hk _ _ h5⟩
theorem gp.lL{f:Fi}{hb:Bd f}{s:Int}{Z:List Ac}{D:Nat→Nat→Prop}{Y:Int}{st:St}(g:gp f hb s Z D Y st):(dD f s Z).length≤st.L.length:=by
 rcases acz st.L.length (dD f s Z).length with h1|h1
 ·obtain⟨x',hx'⟩:=bO h1
  have:=(acm.1 (g.pre _ x' hx')).1
  omega
 ·exact h1
theorem gp.ao{f:Fi}{hb:Bd f}{s:Int}{Z:List Ac}{D:Nat→Nat→Prop}{Y:Int}{st:St}(g:gp f hb s Z D Y st)(q:Nat)(y:A.Em)(hq:(dD f s Z).length≤q)(hy:st.L[q]?=some y):∃b,Z[y.n.toNat]?=some b∧decide (b.kd=2)=true:=by
 obtain⟨k,i,⟨x,a,_,_,_,h1,_⟩,⟨_,_,b,_,_,_,_,h2,h3,_⟩⟩:=g.GQ q hq (acm.1 hy).1
 rw[hy]at h1
 cases h1
 exact⟨b,by show Z[((i:Nat):Int).toNat]?=_;rw[adl];exact h2,h3⟩
theorem Ak.keep{f:Fi}{s:Int}{Z:List Ac}{st st':St}{p k i:Nat}{E':List A.Em}(h:Ak f s Z st p k i)(hL:st'.L=st.L++E')(hQ:∀x,(dD f s Z)[k]?=some x→st'.Q[x.n.toNat]?=st.Q[x.n.toNat]?):Ak f s Z st' p k i:=by
 obtain⟨x,a,h1,h2,h3,h4,h5,h6⟩:=h
 exact⟨x,a,h1,h2,h3,by rw[hL,acF (acm.1 h4).1];exact h4,by rw[hQ x h1];exact h5,h6⟩
theorem gp.step{f:Fi}{hb:Bd f}{s:Int}{Z:List Ac}{D:Nat→Nat→Prop}{st:St}{k:Nat}{x:A.Em}{a:Ac}(hx:(dD f s Z)[k]?=some x)(ha:Z[x.n.toNat]?=some a)(g:gp f hb s Z D x.y st)(i:Nat)(hD:¬D k i) :
 gp f hb s Z (fun k' i'=>D k' i'∨k'=k∧i'=i) x.y (dS f hb s Z x x.n.toNat a st i):=by
 unfold dS
 have g0:=g.mono (D':=fun k' i'=>D k' i'∨k'=k∧i'=i) (aeH _) (fun _ _ h=>.inl h)
 cases hz:Z[i]? with
 |none=>exact g0
 |some b=>
  have hh:=tG g.pre g.ao hx (iV (dZ f hb) st.L (gL f s i b)) (fun q hq=>mN hq)
  simp only
  rw[hh]
  cases hc:(decide (b.kd=2)&&decide (iV (dZ f hb) st.L (gL f s i b)=some k))with
  |false=>simp only[acJ];exact g0
  |true=>
   obtain⟨hkd,hhr⟩:=aeD.1 hc
   have hhr:=acQ hhr
   have hil:=(acm.1 hz).1
   have hnl:=(acm.1 ha).1
   have hLk:=g.pre k x hx
   have hem:=qn ((jE (gM hhr).1).2.2 k x hLk)
   have hwy:bb (x.y+1000)=x.y+1000:=al (by omega) (by omega)
   have hlL:=g.lL
   have fresh:∀k1,¬Hd f hb s Z D x.y st k1 i:=fun k1 h=>by
    obtain⟨x1,a1,b1,L0,E,e1,e2,e3,e4,e5,e6,e7,e8,e9,BW,xG⟩:=h
    rw[hz]at e3;cases e3
    rw[e7]at hhr
    have:=once e8 e9 xG hhr
    subst this
    exact hD e5
   have all:∀(L':List A.Em) (Q':List (Int×Int)) (E':List A.Em),L'=st.L++E'→(∀e∈E',x.y≤e.x)→Q'.length=Z.length→(∀k1 i1 x1,Hd f hb s Z D x.y st k1 i1→(dD f s Z)[k1]?=some x1→(∃a1,Z[x1.n.toNat]?=some a1∧a1.d=(i1:Int))→Q'[x1.n.toNat]?=st.Q[x1.n.toNat]?)→
    (a.d=(i:Int)→∃p,Ak f s Z ⟨L',st.R.set i (oN a (tK f s i x)),Q'⟩ p k i)→
    (∀p,st.L.length≤p→p<L'.length→∃k1 i1,Ak f s Z ⟨L',st.R.set i (oN a (tK f s i x)),Q'⟩ p k1 i1∧(k1=k∧i1=i))→
    (∀(j:Nat) (z:Int×Int),Q'[j]?=some z→st.Q[j]?=some z∨∃p:Nat,z.1=(p:Int)∧j=x.n.toNat∧Ak f s Z ⟨L',st.R.set i (oN a (tK f s i x)),Q'⟩ p k i)→
    gp f hb s Z (fun k' i'=>D k' i'∨k'=k∧i'=i) x.y ⟨L',st.R.set i (oN a (tK f s i x)),Q'⟩:=by
    intro L' Q' E' hL' hE' lQ' hQ' hT hA hq
    have tj:∀k1 i1,Hd f hb s Z D x.y st k1 i1→Hd f hb s Z (fun k' i'=>D k' i'∨k'=k∧i'=i) x.y ⟨L',st.R.set i (oN a (tK f s i x)),Q'⟩ k1 i1:=fun k1 i1 h=>by
     refine h.keep (aeH _) (fun _ _ h=>.inl h) hL' hE' ?_
     have:i1≠i:=fun e=>by subst e;exact fresh k1 h
     exact acv (Ne.symm this)
    have newH:Hd f hb s Z (fun k' i'=>D k' i'∨k'=k∧i'=i) x.y ⟨L',st.R.set i (oN a (tK f s i x)),Q'⟩ k i:=
     ⟨x,a,b,st.L,E',hx,ha,hz,hkd,.inr ⟨rfl,rfl⟩,acM (by rw[g.lR];exact hil),hL',hhr,hLk,aeH _,hE'⟩
    have keepA:∀p k1 i1,Ak f s Z st p k1 i1→Hd f hb s Z D x.y st k1 i1→Ak f s Z ⟨L',st.R.set i (oN a (tK f s i x)),Q'⟩ p k1 i1:=fun p k1 i1 h h2=>by
     refine h.keep hL' (fun x1 hx1=>hQ' k1 i1 x1 h2 hx1 ?_)
     obtain⟨x2,a2,h3,h4,h5,_⟩:=h
     rw[hx1]at h3;cases h3
     exact⟨a2,h4,h5⟩
    refine⟨by simpa using g.lR,lQ',fun j y hy=>?_,fun i1 r h=>?_,fun p h1 h2=>?_,fun j z h=>?_⟩
    ·show L'[j]?=_
     rw[hL',acF (acm.1 (g.pre j y hy)).1];exact g.pre j y hy
    ·by_cases hi:i1=i
     ·subst hi
      refine .inr ⟨k,newH,fun x1 a1 h1 h2 h3=>?_⟩
      rw[hx]at h1;cases h1
      rw[ha]at h2;cases h2
      exact hT h3
     ·have h':st.R[i1]?=some r:=by rw[←h];exact(acv (Ne.symm hi)).symm
      rcases g.row i1 r h' with h0|⟨k1,h1,h2⟩
      ·exact .inl h0
      ·refine .inr ⟨k1,tj _ _ h1,fun x1 a1 h3 h4 h5=>?_⟩
       obtain⟨p,hp⟩:=h2 x1 a1 h3 h4 h5
       exact⟨p,keepA _ _ _ hp h1⟩
    ·rcases acz p st.L.length with hl|hl
     ·obtain⟨k1,i1,h3,h4⟩:=g.GQ p h1 hl
      exact⟨k1,i1,keepA _ _ _ h3 h4,tj _ _ h4⟩
     ·obtain⟨k1,i1,h3,rfl,rfl⟩:=hA p hl h2
      exact⟨k1,i1,h3,newH⟩
    ·rcases hq j z h with h0|⟨p,h1,rfl,h3⟩
     ·rcases g.q j z h0 with h1|⟨p,k1,i1,x1,h1,h2,h3,h4,h5⟩
      ·exact .inl h1
      ·exact .inr ⟨p,k1,i1,x1,h1,h2,h3,keepA _ _ _ h4 h5,tj _ _ h5⟩
     ·exact .inr ⟨p,k,i,x,h1,hx,rfl,h3,newH⟩
   cases hdi:decide (a.d=(i:Int))with
   |false=>
    simp only[acG,acJ]
    refine all st.L st.Q [] (by rw[adn]) (fun e he=>by cases he) g.lQ (fun _ _ _ _ _ _=>rfl) (fun h=>absurd h (adi hdi)) (fun p h1 h2=>by omega) (fun j z h=>.inl h)
   |true=>
    simp only[acG]
    have hdi:=acQ hdi
    have nA:Ak f s Z ⟨st.L++[gC x i],st.R.set i (oN a (tK f s i x)),st.Q.set x.n.toNat ((st.L.length:Int),tK f s i x)⟩ st.L.length k i:=
     ⟨x,a,hx,ha,hdi,by simp,acM (by rw[g.lQ];exact hnl),hlL⟩
    refine all _ _ [gC x i] rfl (fun e he=>?_) (by simpa using g.lQ) (fun k1 i1 x1 h1 h2 h3=>?_) (fun _=>⟨_,nA⟩) (fun p h1 h2=>?_) (fun j z h=>?_)
    ·simp only[adH]at he
     subst he
     show x.y≤bb (x.y+1000)
     omega
    ·refine acv (fun e=>?_)
     have:=kO f s Z Z.length k k1 x x1 hx h2 e
     subst this
     rw[hx]at h2;cases h2
     obtain⟨a1,h3,h4⟩:=h3
     rw[ha]at h3;cases h3
     have:i1=i:=by omega
     subst this
     exact fresh k h1
    ·have:p=st.L.length:=by simp only[acn,acR,acV]at h2;omega
     subst this
     exact⟨k,i,nA,rfl,rfl⟩
    ·by_cases hj:j=x.n.toNat
     ·subst hj
      rw[acM (by rw[g.lQ];exact hnl)]at h
      cases h
      exact .inr ⟨st.L.length,rfl,rfl,nA⟩
     ·rw[acv (Ne.symm hj)]at h
      exact .inl h
theorem gp.loop{f:Fi}{hb:Bd f}{s:Int}{Z:List Ac}{D:Nat→Nat→Prop}{st:St}{k:Nat}{x:A.Em}{a:Ac}(hx:(dD f s Z)[k]?=some x)(ha:Z[x.n.toNat]?=some a)(g:gp f hb s Z D x.y st)(hD:∀i,¬D k i) :
 ∀i,gp f hb s Z (fun k' i'=>D k' i'∨k'=k∧i'<i) x.y (fH f hb s Z x x.n.toNat a st i)
 |0=>g.mono (aeH _) (fun _ _ h=>.inl h)
 |i+1=>(gp.step hx ha (gp.loop hx ha g hD i) i (fun h=>by rcases h with h|⟨_,h⟩;exact hD i h;omega)).mono (aeH _) (fun k' i' h=>by
  rcases h with(h|⟨h1,h2⟩)|⟨h1,h2⟩
  ·exact .inl h
  ·exact .inr ⟨h1,by omega⟩
  ·exact .inr ⟨h1,by omega⟩)
theorem gp.fold{f:Fi}{hb:Bd f}{s:Int}{Z:List Ac}:∀(l:List Nat) {st:St} {D:Nat→Nat→Prop} {Y:Int},gp f hb s Z D Y st→Q.pv (kA (dD f s Z)) l→(∀k∈l,Y≤kA (dD f s Z) k)→l.Nodup→(∀k∈l,∀i,¬D k i)→
 ∃D' Y',gp f hb s Z D' Y' (l.foldl (dh f hb s Z (dD f s Z)) st)
 |[],_,D,Y,g,_,_,_,_=>⟨D,Y,g⟩
 |k::l,st,D,Y,g,hs,hY,hn,hD=>by
  obtain⟨hs1,hs2⟩:=adx.1 hs
  obtain⟨hn1,hn2⟩:=aee.1 hn
  rw[adB]
  have hY2:∀k∈l,Y≤kA (dD f s Z) k:=fun k hk=>hY k (ade _ hk)
  have hD2:∀k∈l,∀i,¬D k i:=fun k hk=>hD k (ade _ hk)
  unfold dh
  cases hx:(aW f s Z Z.length)[k]? with
  |none=>exact gp.fold l g hs2 hY2 hn2 hD2
  |some x=>
   simp only
   cases ha:Z[x.n.toNat]? with
   |none=>exact gp.fold l g hs2 hY2 hn2 hD2
   |some a=>
    have hk:kA (aW f s Z Z.length) k=x.y:=by unfold kA;rw[hx]
    have hYx:=hY k ac5
    rw[hk]at hYx
    refine gp.fold l (gp.loop hx ha (g.mono hYx (fun _ _ h=>h)) (hD k ac5) Z.length) hs2 (fun k' hk'=>?_) hn2 (fun k' hk' i h=>?_)
    ·have:=hs1 k' hk'
     rw[hk]at this
     exact this
    ·rcases h with h|⟨rfl,_⟩
     ·exact hD2 k' hk' i h
     ·exact hn1 hk'
theorem gp.zero(f:Fi)(hb:Bd f)(s:Int)(Z:List Ac)(Y:Int):gp f hb s Z (fun _ _=>False) Y (ks (dD f s Z) Z.length):=
 ⟨by simp[ks],by simp[ks],fun i x h=>h,fun i r h=>by
  have e1:=acy h
  simp only[ks,aeO]at e1
  exact .inl e1.2,fun p h1 h2=>absurd h2 (by show ¬p<(dD f s Z).length;omega),fun j z h=>by
  have e1:=acy h
  simp only[ks,aeO]at e1
  rw[e1.2]
  exact .inl rfl⟩
theorem inv(f:Fi)(hb:Bd f)(s:Int)(Z:List Ac):∃D Y,gp f hb s Z D Y (cS f hb s Z):=by
 have hs:Q.pv (kA (dD f s Z)) (eg (dD f s Z)):=Q.lJ _ _
 have hn:=rh (dD f s Z)
 unfold cS
 cases hl:eg (aW f s Z Z.length)with
 |nil=>exact⟨_,_,gp.zero f hb s Z 0⟩
 |cons k l=>
  rw[hl]at hs hn
  refine gp.fold (k::l) (gp.zero f hb s Z (kA (aW f s Z Z.length) k)) hs (fun k' hk'=>?_) hn (fun _ _ _ h=>h)
  rcases adj.1 hk' with rfl|hk'
  ·exact aeH _
  ·exact(adx.1 hs).1 k' hk'
theorem jl{f:Fi}{hb:Bd f}{s:Int}{Z:List Ac}{i:Nat}(h:wv f hb (cS f hb s Z) i=none):(fe f hb s Z)[i]?=(cS f hb s Z).R[i]?:=tL h _ _
theorem GL{f:Fi}{s:Int}{i:Nat}{a:Ac}:(et f s i a).n.toNat=i:=adl i
theorem mM{f:Fi}{s:Int}{Z:List Ac}{k:Nat}{x:A.Em}{a:Ac}(hx:(dD f s Z)[k]?=some x)(ha:Z[x.n.toNat]?=some a):decide (a.kd=1)=true∧x=et f s x.n.toNat a:=by
 obtain⟨j,a',_,h2,h3,h4⟩:=ef f s Z Z.length k x hx
 have hj:x.n.toNat=j:=by rw[h4];exact GL
 rw[hj,h2]at ha
 cases ha
 exact⟨h3,by rw[hj];exact h4⟩
theorem tR{f:Fi}{hb:Bd f}{s:Int}{Z:List Ac}{i:Nat}{b:Ac}(hm:Z[i]?=some b)(hk:decide (b.kd=2)=true):wv f hb (cS f hb s Z) i=none:=by
 obtain⟨D,Y,g⟩:=inv f hb s Z
 unfold wv
 cases hz:(cS f hb s Z).Q[i]? with
 |none=>rfl
 |some z=>
  rcases g.q i z hz with h|⟨p,k,i',x,h1,h2,h3,⟨x',a,h4,h5,_⟩,_⟩
  ·simp only[h];rfl
  ·exfalso
   rw[h2]at h4;cases h4
   have:=(mM h2 h5).1
   rw[h3,hm]at h5
   cases h5
   simp only[acr]at hk this
   omega
structure ZI(f:Fi)(s:Int)(Z:List Ac)(L:List A.Em)(r:Rs)(i:Nat):Prop where
 ex:∃(b:Ac) (k j:Nat) (a:Ac),Z[i]?=some b∧decide (b.kd=2)=true∧(dD f s Z)[k]?=some (et f s j a)∧Z[j]?=some a∧decide (a.kd=1)=true∧r=oN a (tK f s i (et f s j a))∧
  (et f s j a).c=(gL f s i b).c∧(gL f s i b).x≤(et f s j a).x∧(et f s j a).x≤(gL f s i b).y∧0≤(et f s j a).x∧(et f s j a).x<(et f s j a).y∧(et f s j a).y≤1099511627776∧
  (a.d=(i:Int)→∃p,L[p]?=some (gC (et f s j a) i)∧(dD f s Z).length≤p)
theorem rR{sn:A.Sn}{L:List A.Em}{y x:A.Em}{q:Nat}(h:A.xI sn L y q x=true):x.c=y.c∧y.x≤x.x∧x.x≤y.y:=by
 unfold A.xI at h
 simp only[acw,acr,ac8,acx]at h
 omega
theorem Hd.DU{f:Fi}{hb:Bd f}{s:Int}{Z:List Ac}{D:Nat→Nat→Prop}{Y:Int}{st:St}{k i:Nat}(h:Hd f hb s Z D Y st k i)(hA:∀(x:A.Em) (a:Ac),(dD f s Z)[k]?=some x→Z[x.n.toNat]?=some a→a.d=(i:Int)→∃p,Ak f s Z st p k i) :
 ∃r,st.R[i]?=some r∧ZI f s Z st.L r i:=by
 obtain⟨x,a,b,L0,E,e1,e2,e3,e4,e5,e6,e7,e8,e9,BW,xG⟩:=h
 obtain⟨k1,hx⟩:=mM e1 e2
 obtain⟨h0,x',h3,h4,_⟩:=A.iz (gM e8).2
 rw[e9]at h3;cases h3
 obtain⟨c1,c2,c3⟩:=rR h4
 have hem:=qn ((jE (gM e8).1).2.2 k x e9)
 have hA':=hA x a e1 e2
 obtain⟨j,hj⟩:∃j,x.n.toNat=j:=⟨_,rfl⟩
 rw[hj]at hx e2
 subst hx
 refine⟨_,e6,⟨b,k,j,a,e3,e4,e1,e2,k1,rfl,c1,c2,c3,hem.1,hem.2.1,hem.2.2,fun hd=>?_⟩⟩
 obtain⟨p,x2,a2,h5,h6,h7,h8,h9,h10⟩:=hA' hd
 rw[e1]at h5;cases h5
 exact⟨p,h8,h10⟩
theorem heard{f:Fi}{hb:Bd f}{s:Int}{Z:List Ac}{i:Nat}{r:Rs}(h:(fe f hb s Z)[i]?=some r)(hr:r.hd=true):ZI f s Z (cS f hb s Z).L r i:=by
 obtain⟨D,Y,g⟩:=inv f hb s Z
 cases hw:wv f hb (cS f hb s Z) i with
 |none=>
  rw[jl hw]at h
  rcases g.row i r h with h1|⟨k,h1,h2⟩
  ·rw[h1]at hr;cases hr
  ·obtain⟨r',h3,h4⟩:=h1.DU h2
   rw[h]at h3;cases h3
   exact h4
 |some r'=>
  exfalso
  unfold wv at hw
  cases hz:(cS f hb s Z).Q[i]? with
  |none=>rw[hz]at hw;cases hw
  |some z=>
   have hfin:(fe f hb s Z)[i]?=some r':=by
    rcases g.q i z hz with h1|⟨p,k,i',x,h1,h2,h3,h4,h5⟩
    ·rw[hz]at hw;simp only[h1]at hw;cases hw
    ·refine lU (by unfold wv;exact hw) _ _ (by rw[g.lR,←g.lQ];exact(acm.1 hz).1) (.inr ⟨k,(Q.jW _ _ _).2 (ac2.2 (acm.1 h2).1),x,h2,h3⟩)
   rw[h]at hfin
   cases hfin
   rw[hz]at hw
   simp only at hw
   cases hc:decide (z.1<0)with
   |true=>rw[hc]at hw;cases hw
   |false=>
    cases hd:nK (dZ f hb) (cS f hb s Z).L z.1 i with
    |false=>rw[hc,hd]at hw;cases hw
    |true=>rw[hc,hd]at hw;cases hw;cases hr
theorem Oh{f:Fi}{hb:Bd f}{s:Int}{Z:List Ac}{i:Nat}{r:Rs}(h:(fe f hb s Z)[i]?=some r)(hr:r.ak=true) :
 ∃(a b:Ac) (t:Nat),Z[i]?=some a∧decide (a.kd=1)=true∧a.d=(t:Int)∧Z[t]?=some b∧decide (b.kd=2)=true∧fN.lK f.v f.a f.b f.C s b.of=fN.lK f.v f.a f.b f.C s a.of∧(fe f hb s Z)[t]?=some (oN a r.er)∧
  (∃y∈(cS f hb s Z).L,y.n=(t:Int))∧(dD f s Z)≠[]:=by
 obtain⟨D,Y,g⟩:=inv f hb s Z
 cases hw:wv f hb (cS f hb s Z) i with
 |none=>
  exfalso
  rw[jl hw]at h
  rcases g.row i r h with h1|⟨k,h1,h2⟩
  ·rw[h1]at hr;cases hr
  ·obtain⟨r',h3,⟨_,_,_,_,_,_,_,_,_,h4,_⟩⟩:=h1.DU h2
   rw[h]at h3;cases h3
   rw[h4]at hr;cases hr
 |some r'=>
  unfold wv at hw
  cases hz:(cS f hb s Z).Q[i]? with
  |none=>rw[hz]at hw;cases hw
  |some z=>
   rcases g.q i z hz with h1|⟨p,k,t,x,h1,h2,h3,⟨x',a,h4,h5,h6,h7,h8,h9⟩,h10⟩
   ·rw[hz]at hw;simp only[h1]at hw;cases hw
   ·have hfin:(fe f hb s Z)[i]?=some r':=
     lU (by unfold wv;exact hw) _ _ (by rw[g.lR,←g.lQ];exact(acm.1 hz).1) (.inr ⟨k,(Q.jW _ _ _).2 (ac2.2 (acm.1 h2).1),x,h2,h3⟩)
    rw[h]at hfin
    cases hfin
    rw[h2]at h4;cases h4
    rw[h3]at h5 h8
    rw[hz]at h8;cases h8
    rw[hz]at hw
    simp only at hw
    have hrv:r=Ij (tK f s t x):=by
     cases hc:decide ((p:Int)<0)with
     |true=>rw[hc]at hw;cases hw
     |false=>
      cases hd:nK (dZ f hb) (cS f hb s Z).L p i with
      |false=>rw[hc,hd]at hw;cases hw
      |true=>rw[hc,hd]at hw;cases hw;rfl
    obtain⟨x2,a2,b,L0,E,e1,e2,e3,e4,e5,e6,e7,e8,e9,BW,xG⟩:=h10
    rw[h2]at e1;cases e1
    rw[h3,h5]at e2;cases e2
    obtain⟨k1,hx⟩:=mM h2 (by rw[h3];exact h5)
    obtain⟨h0,x',g3,g4,_⟩:=A.iz (gM e8).2
    rw[e9]at g3;cases g3
    have c1:=(rR g4).1
    rw[hx]at c1
    refine⟨a,b,t,h5,k1,h6,e3,e4,c1.symm,?_,⟨_,acy h7,rfl⟩,fun e=>?_⟩
    ·rw[jl (tR e3 e4),hrv];exact e6
    ·rw[e]at h2;cases h2
theorem Kg{a:Int}(h1: -4611686018427387904≤a)(h2:a≤4611686018427387904):G3 a=a/1000000000:=by
 unfold G3
 rcases Int.lt_or_le a 0 with h|h
 ·obtain⟨b,rfl⟩:∃b,a= -b:=⟨-a,by omega⟩
  rw[Int.neg_tdiv,Int.neg_tmod,ad4 (by omega),adY (by omega)]
  cases hd:decide (-(b%1000000000)<0)with
  |true=>
   rw[acr]at hd
   simp only[acG]
   rw[al (n:= -(b/1000000000)) (by omega) (by omega),al (by omega) (by omega)];omega
  |false=>
   rw[acx]at hd
   simp only[acJ]
   rw[al (by omega) (by omega)];omega
 ·rw[ad4 h,adY h,acs (show ¬a%1000000000<0 by omega)]
  simp only[acJ]
  exact al (by omega) (by omega)
theorem H8{o d:Int}(h:pN o d=true): -1099511627776≤o∧o≤1099511627776∧ -100000≤d∧d≤100000:=by
 unfold pN at h
 simp only[acw,acr]at h
 omega
theorem zq{t d:Int}(h0:0≤t)(h1: -100000≤d)(h2:d≤100000): -(t*100000)≤t*d∧t*d≤t*100000:=by
 have e1:=adQ h1 h0
 have e2:=adQ h2 h0
 rw[Int.mul_neg]at e1
 exact⟨e1,e2⟩
theorem E8{o d t:Int}(hk:pN o d=true)(h0:0≤t)(h1:t≤1099511627776):nu o d t=o+t+t*d/1000000000:=by
 obtain⟨k1,k2,k3,k4⟩:=H8 hk
 obtain⟨m1,m2⟩:=zq h0 k3 k4
 unfold nu
 rw[al (n:=t*d) (by omega) (by omega),Kg (by omega) (by omega),al (n:=o+t) (by omega) (by omega),al (by omega) (by omega)]
theorem Fg{o d t t':Int}(hk:pN o d=true)(h0:0≤t)(h:t≤t')(h1:t'≤1099511627776):nu o d t≤nu o d t':=by
 rw[E8 hk h0 (by omega),E8 hk (by omega) h1]
 obtain⟨k1,k2,k3,k4⟩:=H8 hk
 obtain⟨m1,m2⟩:=zq (t:=t'-t) (by omega) k3 k4
 have:=Int.sub_mul t' t d
 omega
theorem zU{q:Int→Bool}(hm:∀t t',0≤t→t≤t'→t'≤1099511627776→q t=true→q t'=true)(h1:q 1099511627776=true):∀i,(∀t,0≤t→t<(bs q i).1→q t=false)∧q (bs q i).2=true
 |0=>⟨fun t h0 h=>absurd h (by simp only[bs];omega),h1⟩
 |i+1=>by
  obtain⟨g1,g2⟩:=zU hm h1 i
  obtain⟨b1,b2,b3,_⟩:=oQ q i
  rw[bs]
  cases hlt:decide ((bs q i).1<(bs q i).2)with
  |false=>exact⟨g1,g2⟩
  |true=>
   rw[acr]at hlt
   cases hq:q (((bs q i).1+(bs q i).2)/2)with
   |true=>exact⟨g1,hq⟩
   |false=>
    refine⟨fun t h0 h=>?_,g2⟩
    cases ht:q t with
    |false=>rfl
    |true=>
     have h:t<((bs q i).1+(bs q i).2)/2+1:=h
     have:=hm t (((bs q i).1+(bs q i).2)/2) h0 (by omega) (by omega) ht
     rw[hq]at this;cases this
theorem BD{q:Int→Bool}(hm:∀t t',0≤t→t≤t'→t'≤1099511627776→q t=true→q t'=true)(h1:q 1099511627776=true):(∀t,0≤t→t<u3 q→q t=false)∧q (u3 q)=true∧0≤u3 q∧u3 q≤1099511627776:=by
 obtain⟨g1,g2⟩:=zU hm h1 41
 obtain⟨b1,b2,b3,_⟩:=oQ q 41
 have he:=zm q
 unfold u3
 exact⟨g1,by rw[he];exact g2,b1,by omega⟩
theorem uM{o d x:Int}(hk:pN o d=true)(h:x≤nu o d 1099511627776):(∀t,0≤t→t<rV o d x→nu o d t<x)∧x≤nu o d (rV o d x)∧0≤rV o d x∧rV o d x≤1099511627776:=by
 obtain⟨g1,g2,g3,g4⟩:=BD (q:=fun t=>decide (x≤nu o d t)) (fun t t' h0 h1 h2 h3=>by
  have:=Fg hk h0 h1 h2
  simp only[acr]at h3⊢
  omega) (acp h)
 unfold rV
 rw[acs (by omega)]
 simp only[acJ]
 refine⟨fun t h0 ht=>?_,acQ g2,g3,g4⟩
 have:=adi (g1 t h0 ht)
 omega
def wa(T:FuncId→Option aB)(fu:Nat)(rec:Rec):Rec
 | .fn f,xs,H=>match T f with
   |none=>none
   |some F=>bif eI F xs then
     ((eW rec fu F.body (eo xs) ah).bind fun o=>match o.1 with
       | .exit _=>none
       |_=>(results1 o.2.1 o.2.2 F.res).bind fun v=>ez 0 o.2.2 cG v).map fun v=>(v,H)
    else(eW rec fu F.body (eo xs) {bl:=H.bl,bT:=[],ro:=min H.ro H.bl.length}).bind fun o=>match o.1 with
     | .exit _=>none
     |_=>(results1 o.2.1 o.2.2 F.res).bind fun v=>da F.keep H v o.2.2
 | .se f,xs,H=>match T f with
   |none=>none
   |some F=>(eW rec fu F.body (eo xs) {bl:=H.bl,bT:=[],ro:=min H.ro H.bl.length}).bind fun o=>match o.1 with
     | .exit _=>none
     |_=>(results1 o.2.1 o.2.2 F.res).bind fun v=>da true H v o.2.2
 | .fP b,xs,H=>match bk H b with
   |some (.loop q .ready _)=>
    bif q.ps.length==xs.length then
     (eW rec fu q.assign ((q.ps.zip xs).reverse++q.env) {bl:=H.bl,bT:=[],ro:=min H.ro H.bl.length}).bind fun o=>match o.1 with
      | .normal=>(eR b o.2.2).bind fun H'=>(eW rec fu q.body o.2.1 H').bind fun o=>
         (fM b (match o.1 with| .normal=>.ready|_=>.done) o.1 o.2.2).bind fun H'=>
          (di H.bl.length H H').map fun H'=>(.bool (match o.1 with| .normal=>true|_=>false),H')
      |_=>none
    else none
   |_=>none
theorem ET{T:FuncId→Option aB}(fu n:Nat){rec:Rec}(hr:∀f xs H r,rec f xs H=some r→aa T n f xs H=some r):∀f xs H r,wa T fu rec f xs H=some r→aa T (n+1) f xs H=some r:=by
 intro f xs H r h
 cases f with
 |fn f=>
  simp only[wa]at h
  simp only[aa]
  split at h
  ·cases h
  ·rename_i F hF
   rw[hF]
   dsimp only
   cases hp:eI F xs with
   |true=>
    rw[hp]at h
    simp only[acG]at h⊢
    obtain⟨v,hv,rfl⟩:=acq.1 h
    obtain⟨o,h1,h2⟩:=acu.1 hv
    rw[gw hr fu _ _ _ _ h1]
    obtain⟨x,e',H'⟩:=o
    cases x with
    |exit j=>cases h2
    |normal=>simp only at h2;simp only[h2,adm]
    |ret=>simp only at h2;simp only[h2,adm]
   |false=>
    rw[hp]at h
    simp only[acJ]at h⊢
    obtain⟨o,h1,h2⟩:=acu.1 h
    rw[gw hr fu _ _ _ _ h1]
    obtain⟨x,e',H'⟩:=o
    cases x with
    |exit j=>cases h2
    |normal=>exact h2
    |ret=>exact h2
 |se f=>
  simp only[wa]at h
  simp only[aa]
  split at h
  ·cases h
  ·rename_i F hF
   rw[hF]
   dsimp only
   obtain⟨o,h1,h2⟩:=acu.1 h
   rw[gw hr fu _ _ _ _ h1]
   obtain⟨x,e',H'⟩:=o
   cases x with
   |exit j=>cases h2
   |normal=>exact h2
   |ret=>exact h2
 |fP b=>
  simp only[wa]at h
  simp only[aa]
  split at h
  ·rename_i q pend hg
   rw[hg]
   dsimp only
   cases hp:q.ps.length==xs.length with
   |false=>rw[hp]at h;cases h
   |true=>
    rw[hp]at h
    simp only[acG]at h⊢
    obtain⟨o,h1,h2⟩:=acu.1 h
    rw[gw hr fu _ _ _ _ h1]
    obtain⟨x,e',H'⟩:=o
    cases x with
    |exit j=>cases h2
    |ret=>cases h2
    |normal=>
     simp only at h2⊢
     obtain⟨H1,h3,h4⟩:=acu.1 h2
     rw[h3]
     simp only[adq]
     obtain⟨o,h5,h6⟩:=acu.1 h4
     rw[gw hr fu _ _ _ _ h5]
     exact h6
  ·cases h
def Aw(T:FuncId→Option aB)(fu:Nat)(O:Nat→QH→List SV→Option SV):Nat→Rec
 |0,_,_,_=>none
 |n+1,c,xs,H=>match O n c xs with
  |some v=>some (v,H)
  |none=>wa T fu (Aw T fu O n) c xs H
theorem xp{T:FuncId→Option aB}(fu:Nat){O:Nat→QH→List SV→Option SV}(hO:∀n c xs v,O n c xs=some v→∀H,aa T (n+1) c xs H=some (v,H)):∀n f xs H r,Aw T fu O n f xs H=some r→aa T n f xs H=some r:=by
 intro n
 induction n with
 |zero=>intro f xs H r h;simp[Aw]at h
 |succ n ih=>
  intro f xs H r h
  simp only[Aw]at h
  split at h
  ·rename_i v hv
   rw[←h]
   exact hO n f xs v hv H
  ·exact ET fu n ih f xs H r h
def LM(m f:Nat)(ys:List SV)(w:SV):Nat→QH→List SV→Option SV
 |n,.fn g,xs=>bif decide (g=f)&&decide (m≤n+1)&&gY (.agg xs) (.agg ys)then some w else none
 |_,_,_=>none
theorem Ad{T:FuncId→Option aB}{m f:Nat}{ys:List SV}{w:SV}(h:∀n H,aa T (n+m) (.fn f) ys H=some (w,H)):∀n c xs v,LM m f ys w n c xs=some v→∀H,aa T (n+1) c xs H=some (v,H):=by
 intro n c xs v hv H
 cases c with
 |fn g=>
  simp only[LM]at hv
  cases hc:(decide (g=f)&&decide (m≤n+1)&&gY (.agg xs) (.agg ys))with
  |false=>rw[hc]at hv;cases hv
  |true=>
   rw[hc]at hv
   simp only[acw,acr]at hc
   obtain⟨⟨rfl,h1⟩,h2⟩:=hc
   have h3:=oA _ _ h2
   injection h3 with h3
   subst h3
   have h4:=h (n+1-m) H
   rw[show n+1-m+m=n+1 by omega]at h4
   rw[h4]
   simp only[acG,acN]at hv
   rw[hv]
 |se g=>cases hv
 |fP b=>cases hv
end Go.Sh
