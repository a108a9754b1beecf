/- A part of the proof: texts K19a, K19o, K19vc, K19vd, K19vy, K19xa, K19xc, K19xf, K19xg, K19xh, K19xi, K19xj. -/
import Derived.Test.YtcfgikdpokjhpaaGreatB12
import Derived.Test.YtcfgikdpokjhpaaGreatB6
import Derived.Test.YtcfgikdpokjhpaaGreatB10
namespace Go.Sh
set_option linter.unusedSectionVars false
set_option linter.unnecessarySimpa false
set_option linter.unusedSimpArgs false
set_option linter.unusedVariables false
set_option maxRecDepth 100000
set_option maxHeartbeats 4000000
theorem Rb(H:ab):aa T 60 (.fn 10) [] H=some (.bool true,H):=by
 have h1:=Oe
 have h2:=NI
 have h3:=Pq
 have h4:=Lu
 simp only[FG,Ft,Jj,IB,adE,adu]at h1 h2 h3 h4
 refine ae BW (by rfl) ?_
 simp only[ZE,ah,go_sem,simprocAttr,h1,h2,h3,h4]
theorem FU{es:List DT}{cs:List SV}(h:cJ (.str::es) cs):∃b r,cs=.str b::r∧b.size≤maxLen∧cJ es r:=by
 obtain⟨c,r,rfl,h1,h2⟩:=nj h
 obtain⟨b,rfl,hb⟩:=Cc h1
 exact⟨b,r,rfl,hb,h2⟩
abbrev By(f:Fi)(s:Int)(A:List Ac)(fl:Bool):List SV:=[.ao 2 (G.dt f.N) f.f1,.ao 1 (G.cY f.P) f.f2,.ao 5 (G.eX f.W) f.f3,af5 f.ex,af5 f.no,af5 f.th,
 .ao 7 (U.dW f.S) f.g1,.ao 6 (U.dP f.F) f.g2,.ao 2 (G.dt f.K) f.h1,af5 f.v,af5 f.a,af5 f.b,.ao 1 (iS f.C) f.h2,af5 s,.ao 14 (ic A) fl]
abbrev Zi:List DT:=[.int .i64,.int .i64,.int .i64,.int .i64,.int .i64,.int .i64,.int .i64,.int .i64,.int .i64,.int .i64,.int .i64,.int .i64,.int .i64,.str]
abbrev TX:List DT:=[.ao [.int .i64,.int .i64],.ao [.int .i64],.ao [.int .i64,.int .i64,.int .i64,.int .i64,.int .i64],.int .i64,.int .i64,.int .i64,
 .ao [.int .i64,.int .i64,.int .i64,.ao [.int .i64],.int .i64,.int .i64,.int .i64],.ao [.int .i64,.int .i64,.int .i64,.int .i64,.int .i64,.int .i64],
 .ao [.int .i64,.int .i64],.int .i64,.int .i64,.int .i64,.ao [.int .i64],.int .i64,.ao Zi]
abbrev KE:Bool×List DT:=(true,TX)
theorem qo:∀{L:List (List SV)},(∀q∈L,cJ [.int .i64,.int .i64] q)→∃N,L=G.dt N
 |[],_=>⟨[],rfl⟩
 |r::L,h=>by
  obtain⟨N,rfl⟩:=qo (L:=L) (fun q hq=>h q (by simp[hq]))
  have h0:=h r (by simp)
  obtain⟨a,_,rfl,_,h0⟩:=aY h0
  obtain⟨b,_,rfl,_,h0⟩:=aY h0
  cases cA h0
  exact⟨(a,b)::N,rfl⟩
theorem nF:∀{L:List (List SV)},(∀q∈L,cJ [.int .i64] q)→∃N,L=G.cY N
 |[],_=>⟨[],rfl⟩
 |r::L,h=>by
  obtain⟨N,rfl⟩:=nF (L:=L) (fun q hq=>h q (by simp[hq]))
  have h0:=h r (by simp)
  obtain⟨a,_,rfl,_,h0⟩:=aY h0
  cases cA h0
  exact⟨a::N,rfl⟩
theorem lT:∀{L:List (List SV)},(∀q∈L,cJ [.int .i64] q)→∃N,L=iS N
 |[],_=>⟨[],rfl⟩
 |r::L,h=>by
  obtain⟨N,rfl⟩:=lT (L:=L) (fun q hq=>h q (by simp[hq]))
  have h0:=h r (by simp)
  obtain⟨a,_,rfl,_,h0⟩:=aY h0
  cases cA h0
  exact⟨a::N,rfl⟩
theorem ue:∀{L:List (List SV)},(∀q∈L,cJ [.int .i64,.int .i64,.int .i64,.int .i64,.int .i64] q)→∃N,L=G.eX N
 |[],_=>⟨[],rfl⟩
 |r::L,h=>by
  obtain⟨N,rfl⟩:=ue (L:=L) (fun q hq=>h q (by simp[hq]))
  have h0:=h r (by simp)
  obtain⟨a,_,rfl,_,h0⟩:=aY h0
  obtain⟨b,_,rfl,_,h0⟩:=aY h0
  obtain⟨c,_,rfl,_,h0⟩:=aY h0
  obtain⟨d,_,rfl,_,h0⟩:=aY h0
  obtain⟨f,_,rfl,_,h0⟩:=aY h0
  cases cA h0
  exact⟨⟨a,b,c,d,f⟩::N,rfl⟩
theorem uX:∀{L:List (List SV)},(∀q∈L,cJ [.int .i64,.int .i64,.int .i64,.ao [.int .i64],.int .i64,.int .i64,.int .i64] q)→∃S,L=U.dW S∧∀s∈S,s.C.length≤maxLen
 |[],_=>⟨[],rfl,fun s h=>by cases h⟩
 |r::L,h=>by
  obtain⟨N,rfl,hN⟩:=uX (L:=L) (fun q hq=>h q (by simp[hq]))
  have k:=h r (by simp)
  obtain⟨a,_,rfl,_,k⟩:=aY k
  obtain⟨b,_,rfl,_,k⟩:=aY k
  obtain⟨p,_,rfl,_,k⟩:=aY k
  obtain⟨L1,f1,_,rfl,m1,a1,k⟩:=gq k
  obtain⟨kE,_,rfl,_,k⟩:=aY k
  obtain⟨fr,_,rfl,_,k⟩:=aY k
  obtain⟨to,_,rfl,_,k⟩:=aY k
  cases cA k
  obtain⟨C,rfl⟩:=lT a1
  exact⟨⟨a,b,p,C,f1,kE,fr,to⟩::N,rfl,fun t ht=>by
   rcases adj.1 ht with rfl|ht
   ·simpa[iS]using m1
   ·exact hN t ht⟩
theorem tY:∀{L:List (List SV)},(∀q∈L,cJ [.int .i64,.int .i64,.int .i64,.int .i64,.int .i64,.int .i64] q)→∃S,L=U.dP S
 |[],_=>⟨[],rfl⟩
 |r::L,h=>by
  obtain⟨N,rfl⟩:=tY (L:=L) (fun q hq=>h q (by simp[hq]))
  have k:=h r (by simp)
  obtain⟨a,_,rfl,_,k⟩:=aY k
  obtain⟨b,_,rfl,_,k⟩:=aY k
  obtain⟨c,_,rfl,_,k⟩:=aY k
  obtain⟨x,_,rfl,_,k⟩:=aY k
  obtain⟨y,_,rfl,_,k⟩:=aY k
  obtain⟨f,_,rfl,_,k⟩:=aY k
  cases cA k
  exact⟨⟨a,b,c,x,y,f⟩::N,rfl⟩
theorem D9:∀{L:List (List SV)},(∀q∈L,cJ Zi q)→∃A,L=ic A
 |[],_=>⟨[],rfl⟩
 |r::L,h=>by
  obtain⟨N,rfl⟩:=D9 (L:=L) (fun q hq=>h q (by simp[hq]))
  have k:=h r (by simp)
  obtain⟨a1,_,rfl,_,k⟩:=aY k
  obtain⟨a2,_,rfl,_,k⟩:=aY k
  obtain⟨a3,_,rfl,_,k⟩:=aY k
  obtain⟨a4,_,rfl,_,k⟩:=aY k
  obtain⟨a5,_,rfl,_,k⟩:=aY k
  obtain⟨a6,_,rfl,_,k⟩:=aY k
  obtain⟨a7,_,rfl,_,k⟩:=aY k
  obtain⟨a8,_,rfl,_,k⟩:=aY k
  obtain⟨a9,_,rfl,_,k⟩:=aY k
  obtain⟨a10,_,rfl,_,k⟩:=aY k
  obtain⟨a11,_,rfl,_,k⟩:=aY k
  obtain⟨a12,_,rfl,_,k⟩:=aY k
  obtain⟨a13,_,rfl,_,k⟩:=aY k
  obtain⟨x,_,rfl,_,k⟩:=FU k
  cases cA k
  exact⟨⟨a1,a2,a3,a4,a5,a6,a7,a8,a9,a10,a11,a12,a13,x⟩::N,rfl⟩
theorem DC{x:SV}(h:sZ KE x):∃f s A fl,x=.agg (By f s A fl)∧f.S.length≤maxLen∧A.length≤maxLen∧Bq f:=by
 obtain⟨cs,rfl,k⟩:=Bi h
 obtain⟨L1,f1,_,rfl,m1,a1,k⟩:=gq k
 obtain⟨L2,f2,_,rfl,m2,a2,k⟩:=gq k
 obtain⟨L3,f3,_,rfl,m3,a3,k⟩:=gq k
 obtain⟨ex,_,rfl,_,k⟩:=aY k
 obtain⟨no,_,rfl,_,k⟩:=aY k
 obtain⟨th,_,rfl,_,k⟩:=aY k
 obtain⟨L4,g1,_,rfl,m4,a4,k⟩:=gq k
 obtain⟨L5,g2,_,rfl,m5,a5,k⟩:=gq k
 obtain⟨L6,h1,_,rfl,m6,a6,k⟩:=gq k
 obtain⟨v,_,rfl,_,k⟩:=aY k
 obtain⟨a,_,rfl,_,k⟩:=aY k
 obtain⟨b,_,rfl,_,k⟩:=aY k
 obtain⟨L7,h2,_,rfl,m7,a7,k⟩:=gq k
 obtain⟨s,_,rfl,_,k⟩:=aY k
 obtain⟨L8,fl,_,rfl,m8,a8,k⟩:=gq k
 cases cA k
 obtain⟨N,rfl⟩:=qo a1
 obtain⟨P,rfl⟩:=nF a2
 obtain⟨W,rfl⟩:=ue a3
 obtain⟨S,rfl,hS⟩:=uX a4
 obtain⟨F,rfl⟩:=tY a5
 obtain⟨K,rfl⟩:=qo a6
 obtain⟨C,rfl⟩:=lT a7
 obtain⟨A,rfl⟩:=D9 a8
 have m4':S.length≤maxLen:=by simpa[U.dW]using m4
 exact⟨⟨N,P,W,f1,f2,f3,ex,no,th,S,g1,F,g2,K,h1,v,a,b,C,h2⟩,s,A,fl,rfl,m4',by simpa[ic]using m8,⟨by simpa[G.dt]using m1,by simpa[G.cY]using m2,by simpa[G.eX]using m3,⟨m4',hS⟩,by simpa[U.dP]using m5,by simpa[G.dt]using m6,by simpa[iS]using m7⟩⟩
theorem RJ(n:Nat)(H:ab)(f:Fi)(s:Int)(A:List Ac)(fl:Bool)(hS:f.S.length≤maxLen)(hA:A.length≤maxLen):aa T (n+4) (.fn 12) [.agg (By f s A fl)] H=some (.bool (oT f&&lD A),H):=by
 have h1:=fun H=>s48 n H f hS
 have h2:=fun H=>s49 (n+2) H A fl hA
 refine ae PC (by rfl) ?_
 cases a1:oT f<;>rw[a1]at h1<;>simp only[ZQ,ah,go_sem,simprocAttr,h1,h2,ac9,ac3]
theorem qw{f:Fi}{A:List Ac}(h:(oT f&&lD A)=true):f.C.length≤20∧A.length≤40∧∀a∈A,a.x.size≤200:=by
 simp only[acw,oT,lD,acr]at h
 obtain⟨⟨_,hC⟩,hA⟩:=h
 cases hx:(A.take 40).any (fun a=>decide (200<a.x.size))with
 |true=>rw[hx]at hA;cases hA
 |false=>
  rw[hx]at hA
  simp only[acJ,acr]at hA
  refine⟨hC,hA,fun a ha=>?_⟩
  rw[ac1 hA,List.any_eq_false]at hx
  have:=hx a ha
  simp only[acr]at this
  omega
theorem Gc{C:List Int}(h:fN.mm C=true):C.length≤16:=by
 unfold fN.mm at h
 simp only[acw,ac8,List.any_eq_false]at h
 have hb:∀(i:Nat) (c:Int),C[i]?=some c→fN.eF C i=false:=fun i c hc=>by
  have:=h.1 i (ac2.2 (acm.1 hc).1)
  simpa using this
 have hb2:∀(i:Nat) (c:Int),C[i]?=some c→(0≤c∧c<16)∧c∉C.take i:=fun i c hc=>by
  have:=hb i c hc
  rw[fN.jO hc]at this
  simp only[fN.cr,Bool.or_eq_false_iff,aeY,acw,acr,acx]at this
  exact this
 have h1:(C.map Int.toNat).Nodup:=by
  unfold List.Nodup
  rw[aeP]
  intro i j hi hj hij
  simp only[afh]at hi hj
  simp only[List.getElem_map]
  have e1:=hb2 i _ (acK hi)
  have e2:=hb2 j _ (acK hj)
  intro he
  have:C[i]=C[j]:=by omega
  refine e2.2 ?_
  rw[←this]
  exact acy (i:=i) (by rw[acX,if_pos hij];exact acK hi)
 have h2:=cN (C.map Int.toNat) (List.range 16) h1 (fun x hx=>by
  obtain⟨c,hc,rfl⟩:=adt.1 hx
  obtain⟨i,hi⟩:=ac4 hc
  have:=hb2 i c hi
  exact ac2.2 (by omega))
 simpa using h2
theorem Qi{f:Fi}(h:okF f=true)(hq:Bq f):Bd f:=by
 refine hq.d ?_
 unfold okF at h
 simp only[acw]at h
 have:=Gc (fN.jJ h.2).2.2.2.2
 omega
theorem Xu(n:Nat)(H:ab)(f:Fi)(hq:Bq f)(s:Int)(Z:List Ac)(fl:Bool)(hZ:Z.length≤maxLen)(he:decide (jr f s Z=0)=false) :
 aa T (n+60) (.fn 11) [.agg (tS f),af5 s,.ao 14 (ic Z) fl] H=some (.bc [.ao 0 [] true,.ao 0 [] true,af5 (jr f s Z)],H):=by
 have h38:=fun H=>J9 (n+49) H f s Z fl hq hZ
 refine ae xG (by rfl) ?_
 simp only[Sc,ah,go_sem,simprocAttr,h38,he]
theorem GP(f:Fi)(hq:Bq f)(s:Int)(Z:List Ac)(fl:Bool)(hZ:Z.length≤maxLen) :
 (∃e,decide (e=0)=false∧∀n H,aa T (n+60) (.fn 11) [.agg (tS f),af5 s,.ao 14 (ic Z) fl] H=some (.bc [.ao 0 [] true,.ao 0 [] true,af5 e],H))∨
 (jr f s Z=0∧o9 f s Z=false∧Z.length≤32∧∃hb:Bd f,∀n H,aa T (n+60) (.fn 11) [.agg (tS f),af5 s,.ao 14 (ic Z) fl] H=
  some (.bc [.ao 15 (kC (fe f hb s Z)) true,(bif (aW f s Z Z.length).isEmpty then .ao 0 [] true else .ao 4 (A.br (cS f hb s Z).L) false),af6],H)):=by
 cases he:decide (jr f s Z=0)with
 |false=>exact .inl ⟨jr f s Z,he,fun n H=>Xu n H f hq s Z fl hZ he⟩
 |true=>
  have he0:=acQ he
  obtain⟨k1,k2,_⟩:=cF he0
  have hb:=Qi k1 hq
  have k5:=Ii k1
  have h:=fun n H=>Ma n H f hb s Z fl (by omega)
  unfold Rr Cv at h
  rw[he]at h
  simp only[acG]at h
  cases hp:o9 f s Z with
  |true=>
   rw[hp]at h
   exact .inl ⟨15,rfl,h⟩
  |false=>
   rw[hp]at h
   exact .inr ⟨he0,rfl,by omega,hb,h⟩
theorem Yz:T 15=some (sW 25):=RU
theorem WQ:T 25=some (jZ true 4):=e25
theorem s21(n b:Nat)(H:ab)(y:A.Em)(t:Int)(hb:H.bl[b]?=some (.box [af5 t])):aa T (n+1) (.fn 21) [.agg (A.qK y),.ptr b 0 0 0] H=some (.bool (decide (y.n=t)),H):=by
 refine de e21 rfl rfl (fun R k bl ro r hbl hk=>?_)
 obtain rfl:bl=H.bl:=by
  rcases hbl with⟨rfl,h0⟩|rfl
  ·simp[SV.refs.av,SV.refs]at h0
  ·rfl
 have hB:∀l:List aC,(H.bl++l)[b]?=some (.box [af5 t]):=fun l=>fm hb
 simp only[YR,aF,aE,aH,aG,az,aw,ax,ay,bj,aP,bg,aQ,aS,aR,aI,aO,aJ,aK,aA,ai,bM,bN,aco,acn,acD,go_sem,simprocAttr,hb,hB]
 exact hk _
theorem xP(L:List A.Em):∀r∈A.br L,r.length=4:=fun r hr=>by
 simp only[A.br,adt]at hr
 obtain⟨y,_,rfl⟩:=hr
 rfl
def Z5:List SV→Int
 | .int _ a::_=>a
 |_=>0
theorem s15(n b:Nat)(H:ab)(L:List A.Em)(f:Bool)(t:Int)(hL:L.length≤maxLen)(hb:H.bl[b]?=some (.box [af5 t])) :
 aa T (n+3) (.fn 15) [.ao 4 (A.br L) f,.fn 21 [.ptr b 0 0 0]] H=some (.bool (L.any fun y=>decide (y.n=t)),H):=by
 have h:=iC (T:=T) (f:=15) (n:=n+1) (H:=H) (ag:=true) (z:=4) (id:=21) (caps:=[.ptr b 0 0 0]) (v:=.ao 4 (A.br L) f) (L:=A.br L) (p:=fun r=>decide (Z5 r=t)) Yz WQ (.ao 4 f (.inl rfl)) (xP L) (fun h=>by cases h) (by rw[A.cD];exact hL)
  (fun r hr bl ro hbl=>by
   simp only[A.br,adt]at hr
   obtain⟨y,_,rfl⟩:=hr
   rcases hbl with⟨_,_,h0⟩|rfl
   ·simp[SV.refs.av,SV.refs]at h0
   ·exact s21 n b ⟨H.bl,[],ro⟩ y t hb) (by
   have:=(acm.1 hb).1
   simp[SV.refs.av,SV.refs];omega)
 rw[h,A.br,af1]
 rfl
theorem rj(f:Fi)(hb:Bd f)(s:Int)(Z:List Ac):(fe f hb s Z).length=Z.length:=by
 obtain⟨D,Y,g⟩:=inv f hb s Z
 unfold fe;rw[pa,g.lR]
theorem yA(f:Fi)(hb:Bd f)(s:Int)(Z:List Ac)(hZ:Z.length≤40):(cS f hb s Z).L.length≤2000:=by
 refine ac7 (uy f hb s Z (aW f s Z Z.length) _ _) ?_
 have la:=oq f s Z Z.length
 have e2:=afP (show(eg (aW f s Z Z.length)).length≤40 by rw[ju];omega) hZ
 have e3:(ks (aW f s Z Z.length) Z.length).L.length=(aW f s Z Z.length).length:=rfl
 omega
theorem yO{R:List Rs}{i:Nat}:(kC R)[i]?=(R[i]?).map CW:=by simp[kC]
theorem j7{R:List Rs}:(kC R).length=R.length:=by simp[kC]
theorem s5(f:Fi)(s:Int)(Z:List Ac)(fl:Bool)(hS:f.S.length≤maxLen)(hZ:Z.length≤maxLen)(hq:Bq f):aa T 61 (.fn 5) [.agg (By f s Z fl)] ah=some (.bool true,ah):=by
 have h10:=fun H=>Rb H
 have h12:=fun H=>RJ 56 H f s Z fl hS hZ
 refine ae e5 (by rfl) ?_
 rcases GP f hq s Z fl hZ with⟨e,he,h11⟩|⟨h0,hp,h32,hb,h11⟩
 ·have h11:=fun H=>h11 0 H
  simp only[adr]at h11
  cases hf:oT f&&lD Z<;>rw[hf]at h12<;>simp only[c5,ah,go_sem,simprocAttr,h10,h12,h11,he]
 ·have h11:=fun H=>h11 0 H
  simp only[adr]at h11
  cases hf:oT f&&lD Z with
  |false=>rw[hf]at h12;simp only[c5,ah,go_sem,simprocAttr,h10,h12,h11]
  |true=>
   obtain⟨hC,hA4,hx⟩:=qw hf
   rw[hf]at h12
   have h20:=fun H=>s20 49 H f s Z fl hb (by omega) (fun a ha=>ac7 (hx a ha) (by decide))
   unfold Us at h20
   rw[h0]at h20
   simp only[decide_true,acG]at h20
   obtain⟨lv,hlv⟩:∃lv,(bif (aW f s Z Z.length).isEmpty then SV.ao 0 [] true else .ao 4 (A.br (cS f hb s Z).L) false)=lv:=⟨_,rfl⟩
   have hlr:lv.refs=0:=by rw[←hlv];cases(aW f s Z Z.length).isEmpty<;>rfl
   rw[hlv]at h11
   have lR:=rj f hb s Z
   obtain⟨R,hR⟩:∃R,fe f hb s Z=R:=⟨_,rfl⟩
   have hak:=fun i r (h:(fe f hb s Z)[i]?=some r)=>Oh h
   rw[hR]at h11 lR hak
   have lC:(iS (kN f s Z)).length=Z.length:=by simp[iS,kN]
   simp only[c5,ah,go_sem,simprocAttr,h10,h12,h11,h20,lC,lR,j7,decide_true]
   refine ba (fun i=>([(1,.ptr 0 0 0 0),(3,.ao 15 (kC R) true),(4,lv),(6,.ao 1 (iS (kN f s Z)) false),(60,.ao 14 (ic Z) fl),(61,af5 Z.length),(62,af5 i)],⟨[.box (By f s Z fl)],[],0⟩)) (fun _=>True) Z.length ?_ trivial ?_
   ·simp only[go_sem,simprocAttr,hlr]<;>rfl
   ·intro i hi _
    rcases acz i Z.length with hlt|hge
    ·obtain⟨a,ha⟩:=bO hlt
     obtain⟨r,hr⟩:=bO (l:=R) (i:=i) (by omega)
     have hw:=bE hlt hZ
     have hiR:i<R.length:=by omega
     cases hk:r.ak with
     |false=>
      simp only[go_sem,simprocAttr,hlt,hiR,ha,hr,hk,hw,yO,hlr]
      exact⟨by first|trivial|omega,by first|trivial|rfl,trivial⟩
     |true=>
      obtain⟨a',b,t,g1,g2,g3,g4,g5,g6,g7,⟨y,g8,g9⟩,g10⟩:=hak i r hr hk
      rw[ha]at g1;cases g1
      have he:(aW f s Z Z.length).isEmpty=false:=by
       cases hq:aW f s Z Z.length with
       |nil=>exact absurd hq g10
       |cons _ _=>rfl
      rw[he]at hlv
      simp only[acJ]at hlv
      subst hlv
      have htl:=(acm.1 g4).1
      have htR:t<R.length:=by omega
      have lL:=yA f hb s Z (by omega)
      obtain⟨L,hL⟩:∃L,(cS f hb s Z).L=L:=⟨_,rfl⟩
      rw[hL]at g8 lL⊢
      have hk2:=acQ g5
      have hk1:=acQ g2
      have hct:(kN f s Z)[t]?=some (fN.lK f.v f.a f.b f.C s a.of):=by
       simp only[kN,ad2,g4,adm,N2,acs (show ¬b.kd=0 by omega),acJ,g6]
      have hci:(kN f s Z)[i]?=some (fN.lK f.v f.a f.b f.C s a.of):=by
       simp only[kN,ad2,ha,adm,N2,acs (show ¬a.kd=0 by omega),acJ]
      have hRt:(kC R)[t]?=some (CW (oN a r.er)):=by rw[yO,g7];rfl
      have hRi:(kC R)[i]?=some (CW r):=by rw[yO,hr];rfl
      have d1:decide ((t:Int)<0)=false:=acs (by omega)
      have d2:decide ((Z.length:Int)≤(t:Int))=false:=acs (by omega)
      have hany:(L.any fun y=>decide (y.n=(t:Int)))=true:=adT.2 ⟨y,g8,acp g9⟩
      have h15:=fun X Y es ro=>s15 57 2 ⟨[X,Y,.box [af5 (t:Int)]],es,ro⟩ L false t (ac7 lL (by decide)) rfl
      rw[hany]at h15
      simp only[oN]at hRt
      simp only[go_sem,simprocAttr,hlt,htl,hiR,htR,hr,g7,ha,hk,hw,g2,g3,g4,g5,hct,hci,hRt,hRi,lC,lR,j7,d1,d2,h15,decide_true,oN,adU,ac9,acW,adp]
      exact⟨by first|trivial|omega,by first|trivial|rfl,trivial⟩
    ·obtain rfl:i=Z.length:=by omega
     have hlt:¬Z.length<Z.length:=by omega
     simp only[go_sem,simprocAttr,hlt]
theorem qJ{f:Fi}{s:Int}{Z:List Ac}(h0:jr f s Z=0){i:Nat}{a:Ac}(ha:Z[i]?=some a)(hk:decide (a.kd=1)=true):a.s=(i:Int)∧zo a=0∧¬a.k=2:=by
 have h:=(cF h0).2.2.2 i a ha
 unfold AO at h
 have hk1:=acQ hk
 rw[acs (show ¬a.kd=0 by omega),hk]at h
 simp only[acJ,acG,aeM,ac9]at h
 cases hc:(decide (a.of<0)||decide ((f.C.length:Int)≤a.of))with
 |true=>rw[hc]at h;cases h
 |false=>
  rw[hc]at h
  simp only[acJ]at h
  cases h1:decide (zo a=0)with
  |false=>rw[h1]at h;cases h
  |true=>
   cases h2:decide (a.k=2)with
   |true=>rw[h1,h2]at h;cases h
   |false=>
    cases h3:decide (a.s=(i:Int))with
    |false=>rw[h1,h2,h3]at h;cases h
    |true=>exact⟨acQ h3,acQ h1,adi h2⟩
theorem J8{f:Fi}{i:Nat}{p:Int×Int}(h:f.K[i]?=some p):cT f (i:Int)=p:=by
 unfold cT
 rw[adl,adg,h];rfl
theorem za{f:Fi}{s:Int}{Z:List Ac}(hp:o9 f s Z=false){i:Nat}{a:Ac}(ha:Z[i]?=some a):vg f s i a=false:=by
 cases h:vg f s i a with
 |false=>rfl
 |true=>rw[xK ha h]at hp;cases hp
theorem yu{f:Fi}{s:Int}{Z:List Ac}(hp:o9 f s Z=false){i:Nat}{a:Ac}(ha:Z[i]?=some a)(hk:decide (a.kd=1)=true):xl (cT f i).1 (cT f i).2 s=0∧Cs f s i a≤1099511627776:=by
 have h:=za hp ha
 unfold vg at h
 rw[hk]at h
 simp only[acG,rz,Bool.or_eq_false_iff,aeY,acr,acx]at h
 exact⟨h.1,by omega⟩
theorem CK{f:Fi}{s:Int}{Z:List Ac}(hp:o9 f s Z=false){i:Nat}{a:Ac}(ha:Z[i]?=some a)(hk:decide (a.kd=2)=true):Fw (cT f i).1 (cT f i).2 s=0:=by
 have h:=za hp ha
 unfold vg at h
 have hk1:=acQ hk
 rw[acs (show ¬a.kd=1 by omega),hk]at h
 simp only[acG,acJ,Cp,aeY,acr]at h
 exact h
theorem Hh(f:Fi)(hb:Bd f)(s:Int)(Z:List Ac){k:Nat}{x:A.Em}(h:(dD f s Z)[k]?=some x):(cS f hb s Z).L[k]?=some x:=by
 obtain⟨D,Y,g⟩:=inv f hb s Z
 exact g.pre k x h
theorem v9(f:Fi)(s:Int)(Z:List Ac):∀(i j:Nat) (a:Ac),j<i→Z[j]?=some a→decide (a.kd=1)=true→et f s j a∈aW f s Z i
 |0,j,a,h,_,_=>by omega
 |i+1,j,a,h,ha,hk=>by
  unfold aW
  by_cases hj:j=i
  ·subst hj
   rw[ha]
   simp only[hk,acG]
   exact aex _ (adH.2 rfl)
  ·have ih:=v9 f s Z i j a (by omega) ha hk
   split
   ·rename_i b _
    cases decide (b.kd=1)
    ·exact ih
    ·exact adW _ ih
   ·exact ih
theorem kX{f:Fi}{hb:Bd f}{s:Int}{Z:List Ac}{D:Nat→Nat→Prop}{Y:Int}{st:St}(g:gp f hb s Z D Y st){q:Nat}{y:A.Em}(hy:st.L[q]?=some y) :
 (q<(dD f s Z).length∧(dD f s Z)[q]?=some y∧∃(j:Nat) (a:Ac),Z[j]?=some a∧decide (a.kd=1)=true∧y=et f s j a)∨
 (∃(k i:Nat) (x:A.Em),(dD f s Z)[k]?=some x∧y=gC x i∧Ak f s Z st q k i∧Hd f hb s Z D Y st k i):=by
 rcases acz q (dD f s Z).length with h|h
 ·obtain⟨x,hx⟩:=bO h
  have:=g.pre q x hx
  rw[hy]at this
  cases this
  obtain⟨j,a,_,h2,h3,h4⟩:=ef f s Z Z.length q y hx
  exact .inl ⟨h,hx,j,a,h2,h3,h4⟩
 ·obtain⟨k,i,h1,h2⟩:=g.GQ q h (acm.1 hy).1
  have h1':=h1
  obtain⟨x,a,e1,e2,e3,e4,e5,e6⟩:=h1
  rw[hy]at e4;cases e4
  exact .inr ⟨k,i,x,e1,rfl,h1',h2⟩
theorem yD{f:Fi}{hb:Bd f}{s:Int}{Z:List Ac}{D:Nat→Nat→Prop}{Y:Int}{st:St}(g:gp f hb s Z D Y st){q q':Nat}{y y':A.Em}(hy:st.L[q]?=some y)(hy':st.L[q']?=some y')(hn:y.n=y'.n):q=q':=by
 have mix:∀{j i k:Nat} {a:Ac} {x:A.Em},Z[j]?=some a→decide (a.kd=1)=true→Hd f hb s Z D Y st k i→(j:Int)≠(i:Int):=fun ha hk ⟨_,_,b,_,_,_,_,h3,h4,_⟩ e=>by
  have e:=afF e
  subst e
  rw[ha]at h3;cases h3
  rw[acr]at hk h4
  omega
 rcases kX g hy with⟨h1,h2,j,a,h3,h4,rfl⟩|⟨k,i,x,h1,rfl,h3,h4⟩<;>rcases kX g hy' with⟨h1',h2',j',a',h3',h4',rfl⟩|⟨k',i',x',h1',rfl,h3',h4'⟩
 ·refine kO f s Z Z.length q q' _ _ h2 h2' ?_
  rw[hn]
 ·exact absurd hn (mix (x:=x') h3 h4 h4')
 ·exact absurd hn.symm (mix (x:=x) h3' h4' h4)
 ·have hn:(i:Int)=(i':Int):=hn
  have hn:=afF hn
  subst hn
  have:=h4.uniq h4'
  subst this
  obtain⟨x1,_,e1,_,_,_,e5,_⟩:=h3
  obtain⟨x2,_,d1,_,_,_,d5,_⟩:=h3'
  rw[e1]at d1;cases d1
  rw[e5]at d5
  injection d5 with d5
  injection d5 with d5 _
  exact afF d5
theorem Dw{f:Fi}{hb:Bd f}{s:Int}{Z:List Ac}(h0:jr f s Z=0)(hp:o9 f s Z=false){q:Nat}{y:A.Em}(hy:(cS f hb s Z).L[q]?=some y) :
 (∃(j:Nat) (a:Ac),Z[j]?=some a∧decide (a.kd=1)=true∧y=et f s j a∧xl (cT f j).1 (cT f j).2 s=0∧zo a=0)∨
 (∃(i:Nat) (b:Ac) (r:Rs),Z[i]?=some b∧decide (b.kd=2)=true∧y.n=(i:Int)∧(fe f hb s Z)[i]?=some r∧r.hd=true∧r.d=(i:Int)∧bb (y.y-y.x)=832∧
  ∃z∈(cS f hb s Z).L,z.n=r.s∧bb (z.y+1000)=y.x∧z.c=y.c):=by
 obtain⟨D,Y,g⟩:=inv f hb s Z
 rcases kX g hy with⟨_,_,j,a,h3,h4,rfl⟩|⟨k,i,x,h1,rfl,⟨x1,a,e1,e2,e3,e4,e5,e6⟩,h4⟩
 ·exact .inl ⟨j,a,h3,h4,rfl,(yu hp h3 h4).1,(qJ h0 h3 h4).2.1⟩
 ·rw[h1]at e1;cases e1
  obtain⟨x2,a2,b,L0,E,d1,d2,d3,d4,d5,d6,d7,d8,d9,d10,d11⟩:=h4
  rw[h1]at d1;cases d1
  rw[e2]at d2;cases d2
  obtain⟨k1,hx⟩:=mM h1 e2
  have hem:=qn ((jE (gM d8).1).2.2 k x d9)
  have hs:=(qJ h0 e2 k1).1
  have hxn:(x.n.toNat:Int)=x.n:=by rw[hx,GL];rfl
  have w1:bb (x.y+1000)=x.y+1000:=al (by omega) (by omega)
  refine .inr ⟨i,b,_,d3,d4,rfl,(jl (tR d3 d4)).trans d6,rfl,e3,?_,x,acy (g.pre k x h1),?_,rfl,rfl⟩
  ·show bb (bb (bb (x.y+1000)+832)-bb (x.y+1000))=832
   rw[w1,al (n:=x.y+1000+832) (by omega) (by omega),al (by omega) (by omega)]
   omega
  ·show x.n=a.s
   omega
theorem F7{f:Fi}{hb:Bd f}{s:Int}{Z:List Ac}(h0:jr f s Z=0)(hp:o9 f s Z=false){q:Nat}{y:A.Em}(hy:(cS f hb s Z).L[q]?=some y):0≤y.n∧y.n<(Z.length:Int):=by
 rcases Dw h0 hp hy with⟨j,a,h1,_,rfl,_⟩|⟨i,b,r,h1,_,h3,_⟩
 ·have:=(acm.1 h1).1
  show(0:Int)≤(j:Int)∧(j:Int)<_
  omega
 ·have:=(acm.1 h1).1
  omega
theorem Ks{f:Fi}{hb:Bd f}{s:Int}{Z:List Ac}(h0:jr f s Z=0)(hp:o9 f s Z=false){i:Nat}{a:Ac}{r:Rs}(ha:Z[i]?=some a)(hr:(fe f hb s Z)[i]?=some r) :
 (decide (a.kd=1)||(r.hd&&decide (r.d=(i:Int))))=decide ((i:Int)∈(cS f hb s Z).L.map fun y=>y.n):=by
 rw[adz]
 simp only[adw,acw,acr,adt]
 constructor
 ·rintro(h|⟨h1,h2⟩)
  ·have hm:=v9 f s Z Z.length i a (acm.1 ha).1 ha (acp h)
   obtain⟨k,hk⟩:=ac4 hm
   exact⟨_,acy (Hh f hb s Z hk),rfl⟩
  ·obtain⟨b,k,j,a',e1,e2,e3,e4,e5,e6,_,_,_,_,_,_,Jh⟩:=heard hr h1
   obtain⟨p,h3,_⟩:=Jh (by rw[e6]at h2;exact h2)
   exact⟨_,acy h3,rfl⟩
 ·rintro⟨y,hy,hn⟩
  obtain⟨q,hq⟩:=ac4 hy
  rcases Dw h0 hp hq with⟨j,a',h1,h2,rfl,_⟩|⟨i',b,r',h1,_,h3,h4,h5,h6,_⟩
  ·have e:=afF (show(j:Int)=(i:Int)from hn)
   subst e
   rw[ha]at h1;cases h1
   exact .inl (acQ h2)
  ·have e:=afF (show(i':Int)=(i:Int) by omega)
   subst e
   rw[hr]at h4;cases h4
   exact .inr ⟨h5,h6⟩
theorem qa{f:Fi}{hb:Bd f}(h:okF f=true):A.eN (dZ f hb)=true:=by
 unfold okF at h
 simp only[acw]at h
 show(G.gh f.N f.P f.W f.ex f.no f.th&&U.pB f.S f.F)=true
 rw[h.1.1.1.1,h.1.1.1.2];rfl
theorem iW{f:Fi}(h:okF f=true):f.K.length=f.N.length∧f.N.length≤32∧2≤f.N.length:=by
 unfold okF at h
 simp only[acw,acr]at h
 have:=G.uD h.1.1.1.1
 omega
theorem IU{a:Ac}(he:zo a=0):0<BU a∧BU a≤10000:=by
 have hs:(KQ a).size≤129:=by
  unfold zo at he
  unfold KQ
  cases ft.mn a.k a.s a.d a.q a.o a.c a.m a.e a.t a.u a.v a.x with
  |false=>exact aei _
  |true=>
   simp only[adp,acJ]at he⊢
   cases hd:(decide (127<a.x.size)||decide (127<(ft.og (ft.dq a.k a.s a.d a.q a.o a.c a.m a.e a.t a.u a.v a.x)).size+2))with
   |true=>exact aei _
   |false=>
    simp only[Bool.or_eq_false_iff,acx]at hd
    simp only[acJ,ft.ib]
    omega
 unfold BU
 rw[he]
 simp only[decide_true,acG]
 cases decide (a.k=2)with
 |true=>
  simp only[acG]
  exact⟨by decide,by decide⟩
 |false=>
  simp only[acJ]
  rw[al (n:=((KQ a).size:Int)+6) (by omega) (by omega),al (by omega) (by omega)]
  omega
theorem uQ{C:List Int}(h:fN.mm C=true){i:Nat}{c:Int}(hc:C[i]?=some c):(0≤c∧c<16)∧c∉C.take i:=by
 unfold fN.mm at h
 simp only[acw,ac8,List.any_eq_false]at h
 have:=h.1 i (ac2.2 (acm.1 hc).1)
 rw[fN.jO hc]at this
 simp only[fN.cr,adw,ac8,aec,acx,acr,not_or]at this
 obtain⟨h1,h2⟩:=this
 exact⟨by omega,h2⟩
theorem uB{f:Fi}(h:okF f=true)(s o:Int):U.cr (fN.lK f.v f.a f.b f.C s o)=true:=by
 unfold okF at h
 simp only[acw]at h
 have hd:=(fN.jJ h.2).2.2.2.2
 unfold fN.lK fN.vP
 cases decide (fN.xH f.v f.a f.b f.C s o=0)with
 |false=>rfl
 |true=>
  simp only[acG]
  rw[adg]
  cases hc:f.C[((s+o)%(f.C.length:Int)).toNat]? with
  |none=>rfl
  |some c=>
   have:=(uQ hd hc).1
   show(decide (0≤c)&&decide (c<16))=true
   rw[acp this.1,acp this.2];rfl
theorem Jo{o d s:Int}(h:xl o d s=0):0≤nn o d s∧nn o d s≤1099511627776:=by
 unfold xl at h
 unfold nn
 cases hs:wb o d s with
 |false=>
  rw[hs]at h
  exact absurd h (adi (vf hs))
 |true=>
  rw[hs]at h
  obtain⟨k1,_⟩:=kJ hs
  simp only[acG]at h⊢
  unfold rE at h
  cases hd:decide (nu o d 1099511627776<s*10000+2120)with
  |true=>rw[hd]at h;cases h
  |false=>
   have:=adi hd
   obtain⟨_,_,a3,a4⟩:=uM (x:=s*10000+2120) k1 (by omega)
   exact⟨a3,a4⟩
theorem xJ{f:Fi}{s:Int}{Z:List Ac}(h0:jr f s Z=0)(hp:o9 f s Z=false){j:Nat}{a:Ac}(ha:Z[j]?=some a)(hk:decide (a.kd=1)=true) :
 A.vj (et f s j a)=true∧(et f s j a).y≤1099511627776∧(0≤a.d→(et f s j a).y+1832≤1099511627776):=by
 obtain⟨h1,h2⟩:=yu hp ha hk
 obtain⟨g1,g2⟩:=Jo h1
 obtain⟨t1,t2⟩:=IU (qJ h0 ha hk).2.1
 have hx:(et f s j a).x=nn (cT f j).1 (cT f j).2 s:=rfl
 have hy:(et f s j a).y=nn (cT f j).1 (cT f j).2 s+BU a:=al (by omega) (by omega)
 have hc:=uB (cF h0).1 s a.of
 have hyy:(et f s j a).y≤1099511627776∧(0≤a.d→(et f s j a).y+1832≤1099511627776):=by
  unfold Cs at h2
  cases hd:decide (0≤a.d)with
  |true=>
   rw[hd]at h2
   simp only[acG]at h2
   rw[al (by omega) (by omega)]at h2
   exact⟨by omega,fun _=>h2⟩
  |false=>
   rw[hd]at h2
   exact⟨h2,fun h=>absurd h (adi hd)⟩
 refine⟨?_,hyy⟩
 show(U.cr (fN.lK f.v f.a f.b f.C s a.of)&&decide (0≤(et f s j a).x)&&decide ((et f s j a).x<(et f s j a).y)&&decide ((et f s j a).y≤1099511627776))=true
 rw[hc,acp (show(0:Int)≤(et f s j a).x by omega),acp (show(et f s j a).x<(et f s j a).y by omega),acp hyy.1];rfl
theorem zS{n:Nat}{L:List A.Em}(h:∀(j:Nat) (a:A.Em),L[j]?=some a→A.sk n (L.take j) a=0):∀k i,A.vo n L k i=0
 |0,_=>rfl
 |k+1,i=>by
  unfold A.vo
  cases ha:L[i]? with
  |none=>rfl
  |some a=>
   simp only[h i a ha,decide_true,acG]
   exact zS h k (i+1)
theorem De{f:Fi}{s:Int}{Z:List Ac}(h0:jr f s Z=0)(hp:o9 f s Z=false){j:Nat}{a:Ac}(ha:Z[j]?=some a)(hk:decide (a.kd=1)=true)(i:Nat)(hd:a.d=(i:Int)) :
 A.vj (gC (et f s j a) i)=true∧(gC (et f s j a) i).x=(et f s j a).y+1000∧(gC (et f s j a) i).y=(et f s j a).y+1832:=by
 obtain⟨g1,g2,g3⟩:=xJ h0 hp ha hk
 have g3:=g3 (by omega)
 have g4:=qn g1
 have hc:U.cr (et f s j a).c=true:=uB (cF h0).1 s a.of
 have e1:(gC (et f s j a) i).x=(et f s j a).y+1000:=al (by omega) (by omega)
 have e2:(gC (et f s j a) i).y=(et f s j a).y+1832:=by
  show bb (bb ((et f s j a).y+1000)+832)=_
  rw[al (n:=(et f s j a).y+1000) (by omega) (by omega),al (by omega) (by omega)];omega
 refine⟨?_,e1,e2⟩
 show(U.cr (et f s j a).c&&decide (0≤(gC (et f s j a) i).x)&&decide ((gC (et f s j a) i).x<(gC (et f s j a) i).y)&&decide ((gC (et f s j a) i).y≤1099511627776))=true
 rw[hc,acp (show(0:Int)≤(gC (et f s j a) i).x by omega),acp (show(gC (et f s j a) i).x<(gC (et f s j a) i).y by omega),acp (show(gC (et f s j a) i).y≤1099511627776 by omega)];rfl
theorem Ab{f:Fi}{hb:Bd f}{s:Int}{Z:List Ac}(h0:jr f s Z=0)(hp:o9 f s Z=false){D:Nat→Nat→Prop}{Y:Int}{st:St}(g:gp f hb s Z D Y st){q:Nat}{y:A.Em}(hy:st.L[q]?=some y):A.vj y=true∧0≤y.n∧y.n<(Z.length:Int):=by
 rcases kX g hy with⟨_,_,j,a,h3,h4,rfl⟩|⟨k,i,x,h1,rfl,⟨x1,a,e1,e2,e3,_⟩,h4⟩
 ·have:=(acm.1 h3).1
  exact⟨(xJ h0 hp h3 h4).1,by show(0:Int)≤(j:Int);omega,by show(j:Int)<_;omega⟩
 ·rw[h1]at e1;cases e1
  obtain⟨k1,hx⟩:=mM h1 e2
  obtain⟨_,_,b,_,_,_,_,h3,_⟩:=h4
  have:=(acm.1 h3).1
  have hk:=(De h0 hp e2 k1 i e3).1
  rw[←hx]at hk
  exact⟨hk,by show(0:Int)≤(i:Int);omega,by show(i:Int)<_;omega⟩
theorem yw{f:Fi}{hb:Bd f}{s:Int}{Z:List Ac}(h0:jr f s Z=0)(hp:o9 f s Z=false){D:Nat→Nat→Prop}{Y:Int}{st:St}(g:gp f hb s Z D Y st):st.L.length≤Z.length:=by
 have h1:(st.L.map fun y=>y.n.toNat).Nodup:=by
  unfold List.Nodup
  rw[aeP]
  intro i j hi hj hij
  simp only[afh]at hi hj
  simp only[List.getElem_map]
  intro he
  have e1:=acK hi
  have e2:=acK hj
  have n1:=(Ab h0 hp g e1).2
  have n2:=(Ab h0 hp g e2).2
  have:=yD g e1 e2 (by omega)
  omega
 have h2:=cN (st.L.map fun y=>y.n.toNat) (List.range Z.length) h1 (fun x hx=>by
  obtain⟨y,hy,rfl⟩:=adt.1 hx
  obtain⟨q,hq⟩:=ac4 hy
  have:=(Ab h0 hp g hq).2
  exact ac2.2 (by omega))
 simpa using h2
theorem zr{f:Fi}{hb:Bd f}{s:Int}{Z:List Ac}(h0:jr f s Z=0)(hp:o9 f s Z=false){D:Nat→Nat→Prop}{Y:Int}{st:St}(g:gp f hb s Z D Y st):A.pr (A.eN (dZ f hb)) f.N.length st.L=0:=by
 obtain⟨k1,k2,_⟩:=cF h0
 obtain⟨k3,k4,k5⟩:=iW k1
 have hl:=yw h0 hp g
 unfold A.pr
 rw[qa k1,acs (show ¬48<st.L.length by omega)]
 refine zS (fun j a ha=>?_) _ _
 obtain⟨n1,n2,n3⟩:=Ab h0 hp g ha
 unfold A.sk
 have hi:U.eA f.N.length a.n=true:=by
  unfold U.eA
  rw[acp n2,acp (show a.n<(f.N.length:Int) by omega)];rfl
 have hcl:(st.L.take j).any (A.iD a)=false:=by
  rw[List.any_eq_false]
  intro b hbm
  obtain⟨i,hi⟩:=ac4 hbm
  rw[acX]at hi
  split at hi
  ·unfold A.iD
   have:decide (b.n=a.n)=false:=acs (fun e=>by
    have:=yD g hi ha e
    omega)
   rw[this];simp
  ·cases hi
 rw[hi,n1,hcl];rfl
theorem FQ{o d s:Int}(hw:Fw o d s=0):0≤BP o d s∧Cg o d s≤1099511627776:=by
 unfold Fw at hw
 unfold BP Cg
 cases hs:wb o d s with
 |false=>
  rw[hs]at hw
  exact absurd hw (adi (vf hs))
 |true=>
  obtain⟨k1,k2,k3,_⟩:=kJ hs
  rw[hs]at hw
  simp only[acG,ac9]at hw⊢
  unfold rE at hw
  cases hd:decide (nu o d 1099511627776<s*10000+3221)with
  |true=>rw[hd]at hw;cases hw
  |false=>
   have hd:=adi hd
   rw[acp (show s*10000+3221≤nu o d 1099511627776 by omega)]
   simp only[acG]
   obtain⟨a1,a2,a3,a4⟩:=uM (x:=s*10000+1020) k1 (by omega)
   obtain⟨b1,b2,b3,b4⟩:=uM (x:=s*10000+3221) k1 (by omega)
   rw[al (by omega) (by omega)]
   omega
theorem tg{sn:A.Sn}{L:List A.Em}{y:A.Em}(h:y.y<y.x):∀q,A.iy sn L y q=none
 |0=>rfl
 |q+1=>by
  have ih:=tg (sn:=sn) (L:=L) h q
  unfold A.iy
  cases L[q]? with
  |none=>exact ih
  |some x=>
   have:A.xE L y (A.iy sn L y q) x=false:=by
    unfold A.xE
    cases h1:decide (x.x<y.x)with
    |true=>simp
    |false=>
     have:=adi h1
     rw[acp (show y.y<x.x by omega)];simp
   simp only[this,ac3,acJ]
   exact ih
theorem Cf{f:Fi}{hb:Bd f}{s:Int}{Z:List Ac}(h0:jr f s Z=0)(hp:o9 f s Z=false){D:Nat→Nat→Prop}{Y:Int}{st:St}(g:gp f hb s Z D Y st){i:Nat}{b:Ac}(hz:Z[i]?=some b)(hk:decide (b.kd=2)=true) :
 iV (dZ f hb) st.L (gL f s i b)=A.iy (dZ f hb) st.L (gL f s i b) st.L.length:=by
 obtain⟨k1,k2,_⟩:=cF h0
 obtain⟨k3,k4,k5⟩:=iW k1
 have hil:=(acm.1 hz).1
 obtain⟨w1,w2⟩:=FQ (CK hp hz hk)
 have hc:=uB k1 s b.of
 unfold U.cr at hc
 simp only[acw,acr]at hc
 have e1:decide ((gL f s i b).n<0)=false:=acs (by show ¬(i:Int)<0;omega)
 have e2:decide (((dZ f hb).N.length:Int)≤(gL f s i b).n)=false:=acs (by show ¬((f.N.length:Int)≤(i:Int));omega)
 have hac:A.pr (A.eN (dZ f hb)) (dZ f hb).N.length st.L=0:=zr h0 hp g
 unfold iV
 rw[hac,e1,e2]
 simp only[decide_true,acG,aeA,acJ]
 unfold A.Jv
 rw[acs (show ¬(gL f s i b).c<0 by show ¬fN.lK f.v f.a f.b f.C s b.of<0;omega),acs (show ¬16≤(gL f s i b).c by show ¬16≤fN.lK f.v f.a f.b f.C s b.of;omega),
  acs (show ¬(gL f s i b).x<0 by show ¬BP _ _ _<0;omega),acs (show ¬1099511627776<(gL f s i b).y by show ¬1099511627776<Cg _ _ _;omega)]
 cases hd:decide ((gL f s i b).y<(gL f s i b).x)with
 |true=>
  rw[tg (acQ hd)];rfl
 |false=>rfl
def Dj:Ac:=⟨0,0,0,0,0,0,0,0,0,0,0,0,0,⟨⟨[]⟩⟩⟩
namespace Q
theorem kj{key:Nat→Int}(p:Nat→Bool)(x:Nat):∀W,pv key W→(cU key [x] W).filter p=if p x then cU key [x] (W.filter p)else W.filter p
 |[],_=>by
  rw[cR]
  cases hp:p x<;>simp[hp,cR]
 |y::W,h=>by
  obtain⟨h1,h2⟩:=adx.1 h
  have ih:=kj p x W h2
  by_cases hl:key y<key x
  ·rw[cV hl,ad5,ih]
   cases hp:p x with
   |false=>
    cases hy:p y<;>simp[hy,hp]
   |true=>
    cases hy:p y with
    |false=>simp[hy,hp]
    |true=>
     simp only[if_true,ad5,hy]
     rw[cV hl]
  ·rw[dp hl,cz,ad5]
   cases hp:p x with
   |false=>simp[hp]
   |true=>
    simp only[if_true]
    have hge:∀z∈(y::W).filter p,¬key z<key x:=fun z hz=>by
     rcases adj.1 (adO.1 hz).1 with rfl|hz
     ·exact hl
     ·have:=h1 z hz;omega
    cases hq:(y::W).filter p with
    |nil=>rw[cR]
    |cons z V=>
     rw[dp (hge z (by rw[hq];exact ac5)),cz]
theorem wz(key:Nat→Int)(x:Nat)(X:List Nat):fw key (x::X)=cU key [x] (fw key X):=by
 have:=j0 key [x] X
 rw[aey,ma]at this
 exact this
theorem zg(key:Nat→Int)(p:Nat→Bool)(X:List Nat):(fw key X).filter p=fw key (X.filter p):=by
 induction X with
 |nil=>rfl
 |cons x X ih=>
  rw[wz,kj p x _ (lJ key X),ih,ad5]
  cases hp:p x with
  |false=>simp
  |true=>simp only[if_true];rw[wz]
end Q
def fT(P:A.Em→Bool)(L:List A.Em)(k:Nat):Nat:=((L.take k).filter P).length
theorem qS{P:A.Em→Bool}{L:List A.Em}{k:Nat}{x:A.Em}(h:L[k]?=some x):fT P L (k+1)=fT P L k+(if P x then 1 else 0):=by
 unfold fT
 rw[adP,h,acO]
 cases hp:P x<;>simp[hp]
theorem l6{P:A.Em→Bool}{L:List A.Em}{k:Nat}{x:A.Em}(h:L[k]?=some x)(hp:P x=true):(L.filter P)[fT P L k]?=some x:=by
 obtain⟨h1,h2⟩:=acm.1 h
 have e:L.filter P=(L.take k).filter P++(L.drop k).filter P:=by rw[←acO,adC]
 rw[e,adf (by unfold fT;omega),ad1 h1,h2,ad5,hp]
 simp[fT]
theorem wI{P:A.Em→Bool}{L:List A.Em}{k k':Nat}(h:k≤k'):fT P L k≤fT P L k':=by
 unfold fT
 exact((List.take_sublist_take_left h).filter P).length_le
theorem Ey{P:A.Em→Bool}{L:List A.Em}{k k':Nat}{x:A.Em}(hx:L[k]?=some x)(hp:P x=true)(h:k<k'):fT P L k<fT P L k':=by
 have h1:=qS (P:=P) hx
 rw[if_pos hp]at h1
 have:=wI (P:=P) (L:=L) (show k+1≤k' by omega)
 omega
theorem vi{P:A.Em→Bool}{L:List A.Em}{k k':Nat}{x x':A.Em}(hx:L[k]?=some x)(hp:P x=true)(hx':L[k']?=some x')(hp':P x'=true)(h:fT P L k=fT P L k'):k=k':=by
 rcases ad7 k k' with h1|h1|h1
 ·have:=Ey hx hp h1;omega
 ·exact h1
 ·have:=Ey hx' hp' h1;omega
theorem nX{P:A.Em→Bool}:∀{L:List A.Em} {m:Nat} {x:A.Em},(L.filter P)[m]?=some x→∃k,L[k]?=some x∧P x=true∧fT P L k=m
 |[],m,x,h=>by simp at h
 |y::L,m,x,h=>by
  rw[ad5]at h
  cases hy:P y with
  |true=>
   rw[hy]at h
   simp only[if_true]at h
   cases m with
   |zero=>
    simp only[List.getElem?_cons_zero,acN]at h
    subst h
    exact⟨0,rfl,hy,rfl⟩
   |succ m=>
    simp only[aeE]at h
    obtain⟨k,h1,h2,h3⟩:=nX h
    refine⟨k+1,h1,h2,?_⟩
    unfold fT at h3⊢
    rw[afI,ad5,hy]
    simp[h3]
  |false=>
   rw[hy]at h
   obtain⟨k,h1,h2,h3⟩:=nX (L:=L) h
   refine⟨k+1,h1,h2,?_⟩
   unfold fT at h3⊢
   rw[afI,ad5,hy]
   exact h3
theorem uO{P:A.Em→Bool}{L E:List A.Em}{k:Nat}(h:k≤L.length):fT P (L++E) k=fT P L k:=by
 unfold fT
 rw[aeC h]
theorem ug{P:A.Em→Bool}{L:List A.Em}:fT P L L.length=(L.filter P).length:=by
 unfold fT;rw[adF]
def eU(P:A.Em→Bool)(L:List A.Em)(k:Nat):Bool:=match L[k]? with|some x=>P x|none=>false
theorem tJ(P:A.Em→Bool)(L:List A.Em):∀m,m≤L.length→((List.range m).filter (eU P L)).map (fT P L)=List.range (fT P L m)
 |0,_=>rfl
 |m+1,hm=>by
  have ih:=tJ P L m (by omega)
  obtain⟨x,hx⟩:=bO (show m<L.length by omega)
  have hk:eU P L m=P x:=by unfold eU;rw[hx]
  rw[List.range_succ,acO,List.map_append,ih,qS hx,ad5,hk]
  cases P x with
  |false=>simp
  |true=>simp[List.range_succ]
theorem vO(P:A.Em→Bool)(L:List A.Em):eg (L.filter P)=((eg L).filter (eU P L)).map (fT P L):=by
 unfold eg
 rw[Q.zg,←ug,←tJ P L L.length (acH _),Q.zF]
 congr 1
 refine Q.tD _ (fun k hk=>?_)
 have hk2:=(adO.1 hk).2
 unfold eU at hk2
 cases hx:L[k]? with
 |none=>rw[hx]at hk2;cases hk2
 |some x=>
  rw[hx]at hk2
  rw[l6 hx hk2]
section
section
variable{P:A.Em→Bool}{sn:A.Sn}{L:List A.Em}
theorem pJ{g:A.Em→Int}{a:A.Em}{q:Nat}{n:Int}(hq:L[q]?=some a)(ha:P a=true)(hP:∀x∈L,P x=false→x.c≠a.c):∀m,m≤L.length→A.il g a (fT P L q) n (L.filter P) (fT P L m)=A.il g a q n L m
 |0,_=>rfl
 |m+1,hm=>by
  have ih:=pJ (g:=g) (n:=n) hq ha hP m (by omega)
  obtain⟨x,hx⟩:=bO (show m<L.length by omega)
  rw[qS hx]
  cases hp:P x with
  |false=>
   have hc:=hP x (acy hx) hp
   have:A.jd a q n m x=false:=by
    unfold A.jd
    rw[acs hc];simp
   simp only[adh,if_false,ad9,A.il,hx,this,acJ,Int.add_zero]
   exact ih
  |true=>
   have hg:=l6 hx hp
   have he:A.jd a (fT P L q) n (fT P L m) x=A.jd a q n m x:=by
    unfold A.jd
    have:decide (((fT P L m:Nat):Int)=((fT P L q:Nat):Int))=decide ((m:Int)=(q:Int)):=by
     rw[aeg]
     constructor
     ·intro h
      have:=vi hx hp hq ha (by omega)
      omega
     ·intro h
      have:m=q:=by omega
      rw[this]
    rw[this]
   simp only[if_true,A.il,hx,hg,he,ih]
theorem vC{a:A.Em}{n:Int}(hn:∀b∈L,b.n=n→P b=true):A.fU (L.filter P) a n=A.fU L a n:=by
 unfold A.fU
 congr 1
 rw[adz,adT,adT]
 constructor
 ·rintro⟨b,h1,h2⟩
  exact⟨b,(adO.1 h1).1,h2⟩
 ·rintro⟨b,h1,h2⟩
  refine⟨b,adO.2 ⟨h1,hn b h1 ?_⟩,h2⟩
  simp only[acw,acr]at h2
  exact h2.1
theorem qM(h:A.eN sn=true)(hL:L.length≤1000){a:A.Em}{q:Nat}{n:Int}(hq:L[q]?=some a)(ha:P a=true)(hP:∀x∈L,P x=false→x.c≠a.c)(hn:∀b∈L,b.n=n→P b=true) :
 A.fk sn (L.filter P) (fT P L q) a n=A.fk sn L q a n:=by
 have hl2:(L.filter P).length≤1000:=ac7 (ae5 _ _) hL
 unfold A.fk
 rw[vC hn,A.ia h hL,A.ia h hl2,←ug,pJ hq ha hP _ (acH _)]
theorem yX(h:A.eN sn=true)(hL:L.length≤1000){y:A.Em}(hP:∀x,P x=decide (x.c=y.c))(hn:∀b∈L,b.n=y.n→P b=true) :
 A.iy sn (L.filter P) y (L.filter P).length=(A.iy sn L y L.length).map (fT P L):=by
 have hc:∀{q:Nat} {x:A.Em},L[q]?=some x→P x=true→A.xI sn (L.filter P) y (fT P L q) x=A.xI sn L y q x:=fun{q x} hx hp=>by
  unfold A.xI
  rw[qM h hL hx hp (fun z hz hzp=>by
   rw[hP]at hp hzp
   have e1:=acQ hp
   have e2:=adi hzp
   omega) hn]
 have hcp:∀{M:List A.Em} {q:Nat} {x:A.Em},A.xI sn M y q x=true→P x=true:=fun{M q x} hh=>by
  rw[hP]
  exact acp (rR hh).1
 rcases A.kW sn L y L.length with⟨b,h1,h2,x,h3,h4,h5⟩|⟨h1,h2⟩
 ·rw[h1]
  have hp:=hcp h4
  refine A.wF ⟨(acm.1 (l6 h3 hp)).1,x,l6 h3 hp,by rw[hc h3 hp];exact h4,fun q' x' hq hx' hcn=>?_⟩
  obtain⟨k,e1,e2,rfl⟩:=nX hx'
  rw[hc e1 e2]at hcn
  rcases h5 k x' (acm.1 e1).1 e1 hcn with h6|⟨h6,h7⟩
  ·exact .inl h6
  ·exact .inr ⟨h6,wI h7⟩
 ·rw[h1]
  rcases A.kW sn (L.filter P) y (L.filter P).length with⟨b,g1,g2,x,g3,g4,_⟩|⟨g1,_⟩
  ·exfalso
   obtain⟨k,e1,e2,rfl⟩:=nX g3
   rw[hc e1 e2,h2 k x (acm.1 e1).1 e1]at g4
   cases g4
  ·exact g1
end
end
theorem uk{f:Fi}{s:Int}{Z:List Ac}(h0:jr f s Z=0){i:Nat}{a:Ac}(ha:Z[i]?=some a)(hk:a.kd=1∨a.kd=2):0≤a.of∧a.of<(f.C.length:Int):=by
 have h:=(cF h0).2.2.2 i a ha
 unfold AO at h
 have h3:(decide (a.kd=1)||decide (a.kd=2))=true:=by
  rcases hk with hk|hk<;>simp[hk]
 rw[acs (show ¬a.kd=0 by omega),h3]at h
 simp only[acJ,acG]at h
 cases hc:(decide (a.of<0)||decide ((f.C.length:Int)≤a.of))with
 |true=>rw[hc]at h;cases h
 |false=>
  simp only[Bool.or_eq_false_iff,acx]at hc
  omega
theorem BZ{nc:Nat}:∀{j:Nat} {L:List Ac},(∀(k:Nat) (a:Ac),L[k]?=some a→AO nc ((j+k:Nat):Int) a=0)→Fq nc j L=0
 |j,[],_=>rfl
 |j,b::L,h=>by
  have h0:=h 0 b rfl
  rw[ad9]at h0
  unfold Fq
  rw[h0]
  simp only[decide_true,acG]
  exact BZ (fun k a ha=>by
   have:=h (k+1) a (by simpa using ha)
   rw[show j+(k+1)=j+1+k by omega]at this;exact this)
abbrev Bf(f:Fi)(s o:Int):Int:=fN.lK f.v f.a f.b f.C s o
theorem yB{f:Fi}{s:Int}{Z:List Ac}(h0:jr f s Z=0){o:Int}(h:0≤o)(hl:o<(f.C.length:Int)):fN.xH f.v f.a f.b f.C s o=0∧Bf f s o=fN.vP f.C s o:=by
 obtain⟨g1,_,g3,_⟩:=cF h0
 unfold okF at g1
 simp only[acw]at g1
 have hE:fN.xH f.v f.a f.b f.C s o=0:=by
  unfold Gl at g3
  unfold fN.xH
  rw[g1.2,g3,acp h,acp hl];rfl
 refine⟨hE,?_⟩
 show(bif decide (fN.xH f.v f.a f.b f.C s o=0)then fN.vP f.C s o else 0)=_
 rw[hE];rfl
theorem y6{f:Fi}{s:Int}{Z:List Ac}(h0:jr f s Z=0){o o':Int}(h:0≤o)(hl:o<(f.C.length:Int))(h':0≤o')(hl':o'<(f.C.length:Int))(he:Bf f s o=Bf f s o'):o=o':=by
 rw[(yB h0 h hl).2,(yB h0 h' hl').2]at he
 obtain⟨g1,_,_,_⟩:=cF h0
 unfold okF at g1
 simp only[acw]at g1
 have hd:=(fN.jJ g1.2).2.2.2.2
 unfold fN.vP at he
 obtain⟨n,hn⟩:∃n:Int,(f.C.length:Int)=n:=⟨_,rfl⟩
 rw[hn]at he hl hl'
 have r1:=ae3 (s+o) (show n≠0 by omega)
 have r2:=aeN (s+o) (show 0<n by omega)
 have r1':=ae3 (s+o') (show n≠0 by omega)
 have r2':=aeN (s+o') (show 0<n by omega)
 have q1:=Int.mul_ediv_add_emod (s+o) n
 have q2:=Int.mul_ediv_add_emod (s+o') n
 obtain⟨c,hc⟩:=bO (l:=f.C) (i:=((s+o)%n).toNat) (by omega)
 obtain⟨c',hc'⟩:=bO (l:=f.C) (i:=((s+o')%n).toNat) (by omega)
 rw[adg,adg,hc,hc']at he
 have he:c=c':=he
 subst he
 have hpos:((s+o)%n).toNat=((s+o')%n).toNat:=by
  rcases ad7 ((s+o)%n).toNat ((s+o')%n).toNat with h1|h1|h1
  ·exact absurd (acy (i:=((s+o)%n).toNat) (by rw[acX,if_pos h1];exact hc)) (uQ hd hc').2
  ·exact h1
  ·exact absurd (acy (i:=((s+o')%n).toNat) (by rw[acX,if_pos h1];exact hc')) (uQ hd hc).2
 have hmod:(s+o)%n=(s+o')%n:=by omega
 obtain⟨u,hu⟩:∃u,(s+o)/n=u:=⟨_,rfl⟩
 obtain⟨v,hv⟩:∃v,(s+o')/n=v:=⟨_,rfl⟩
 rw[hu]at q1
 rw[hv]at q2
 rcases Int.lt_trichotomy u v with h1|h1|h1
 ·have:=adQ (show u+1≤v by omega) (show 0≤n by omega)
  rw[Int.mul_add,Int.mul_one]at this
  omega
 ·subst h1;omega
 ·have:=adQ (show v+1≤u by omega) (show 0≤n by omega)
  rw[Int.mul_add,Int.mul_one]at this
  omega
def ec(o:Int)(Z:List Ac):List Ac:=Z.map fun a=>bif decide (a.of=o)then a else Dj
theorem df(o:Int)(Z:List Ac):(ec o Z).length=Z.length:=by simp[ec]
theorem nY{o:Int}{Z:List Ac}{i:Nat}{a:Ac}(h:Z[i]?=some a)(ho:a.of=o):(ec o Z)[i]?=some a:=by
 simp[ec,h,ho]
theorem u0{o:Int}{Z:List Ac}{i:Nat}{a:Ac}(h:Z[i]?=some a)(ho:¬a.of=o):(ec o Z)[i]?=some Dj:=by
 simp[ec,h,ho]
theorem tF{o:Int}{Z:List Ac}{i:Nat}{b:Ac}(h:(ec o Z)[i]?=some b):(Z[i]?=some b∧b.of=o)∨b=Dj:=by
 simp only[ec,ad2,acq]at h
 obtain⟨a,h1,h2⟩:=h
 cases hd:decide (a.of=o)with
 |true=>
  rw[hd]at h2
  simp only[acG]at h2
  subst h2
  exact .inl ⟨h1,acQ hd⟩
 |false=>
  rw[hd]at h2
  exact .inr h2.symm
theorem ua{f:Fi}{s:Int}{Z:List Ac}(h0:jr f s Z=0)(o:Int):jr f s (ec o Z)=0:=by
 obtain⟨g1,g2,g3,g4⟩:=cF h0
 unfold jr
 rw[g1,g3,df,acp g2]
 simp only[acG]
 refine BZ (fun k a ha=>?_)
 rw[adr]
 rcases tF ha with⟨h1,_⟩|rfl
 ·exact g4 k a h1
 ·rfl
theorem u5{f:Fi}{s:Int}{Z:List Ac}(hp:o9 f s Z=false)(o:Int):o9 f s (ec o Z)=false:=by
 refine CB (fun j a _ ha=>?_)
 rcases tF ha with⟨h1,_⟩|rfl
 ·exact za hp h1
 ·rfl
abbrev ku(f:Fi)(s o:Int):A.Em→Bool:=fun x=>decide (x.c=Bf f s o)
theorem xC{f:Fi}{s:Int}{Z:List Ac}(h0:jr f s Z=0){o:Int}(ho:0≤o)(hl:o<(f.C.length:Int)):∀i,aW f s (ec o Z) i=(aW f s Z i).filter (ku f s o)
 |0=>rfl
 |i+1=>by
  have ih:=xC h0 ho hl i
  unfold aW
  cases ha:Z[i]? with
  |none=>
   have:(ec o Z)[i]?=none:=by simp[ec,ha]
   rw[this]
   exact ih
  |some a=>
   by_cases hof:a.of=o
   ·rw[nY ha hof]
    simp only
    cases hk:decide (a.kd=1)with
    |false=>exact ih
    |true=>
     simp only[acG,acO]
     have:ku f s o (et f s i a)=true:=acp (show fN.lK f.v f.a f.b f.C s a.of=_ by rw[hof])
     rw[ih,ad5,this];rfl
   ·rw[u0 ha hof]
    have e0:decide (Dj.kd=1)=false:=rfl
    simp only[e0,acJ]
    cases hk:decide (a.kd=1)with
    |false=>exact ih
    |true=>
     obtain⟨f1,f2⟩:=uk h0 ha (.inl (acQ hk))
     have:ku f s o (et f s i a)=false:=acs (fun e=>hof (y6 h0 f1 f2 ho hl e))
     simp only[acG,acO,ad5,this,List.filter_nil,adn,adh,if_false]
     exact ih
theorem Co{f:Fi}{hb:Bd f}{s:Int}{Z:List Ac}{D:Nat→Nat→Prop}{Y:Int}{st:St}(g:gp f hb s Z D Y st){q:Nat}{y:A.Em}(hy:st.L[q]?=some y):∃(j:Nat) (b:Ac),y.n=(j:Int)∧Z[j]?=some b∧y.c=Bf f s b.of∧(b.kd=1∨b.kd=2):=by
 rcases kX g hy with⟨_,_,j,a,h3,h4,rfl⟩|⟨k,i,x,h1,rfl,_,h4⟩
 ·exact⟨j,a,rfl,h3,rfl,.inl (acQ h4)⟩
 ·obtain⟨x2,a2,b,L0,E,d1,d2,d3,d4,d5,d6,d7,d8,d9,d10,d11⟩:=h4
  rw[h1]at d1;cases d1
  obtain⟨_,x',g3,g4,_⟩:=A.iz (gM d8).2
  rw[d9]at g3;cases g3
  exact⟨i,b,rfl,d3,(rR g4).1,.inr (acQ d4)⟩
section
structure SR(f:Fi)(s o:Int)(Z:List Ac)(st st':St):Prop where
 L:st'.L=st.L.filter (ku f s o)
 lR:st'.R.length=Z.length
 R:∀(i:Nat) (a:Ac),Z[i]?=some a→st'.R[i]?=if a.of=o then st.R[i]? else some mj
 Q:∀(j:Nat) (a:Ac) (z z':Int×Int),Z[j]?=some a→a.of=o→st.Q[j]?=some z→st'.Q[j]?=some z'→z'.2=z.2∧((z.1= -1∧z'.1= -1)∨∃(p:Nat) (y:A.Em),z.1=(p:Int)∧z'.1=((fT (ku f s o) st.L p:Nat):Int)∧st.L[p]?=some y∧ku f s o y=true)
section
variable{f:Fi}{hb:Bd f}{s o:Int}{Z:List Ac}{D D':Nat→Nat→Prop}{Y Y':Int}{st st':St}
theorem SR.off(g:gp f hb s Z D Y st)(h:SR f s o Z st st'){k:Nat}{x:A.Em}{a:Ac}(hx:(dD f s Z)[k]?=some x)(ha:Z[x.n.toNat]?=some a)(hP:ku f s o x=false)(i:Nat):SR f s o Z (dS f hb s Z x x.n.toNat a st i) st':=by
 have hoff:¬x.c=Bf f s o:=adi hP
 have hao:¬a.of=o:=fun e=>hoff (by rw[(mM hx ha).2];show fN.lK f.v f.a f.b f.C s a.of=_;rw[e])
 unfold dS
 cases hz:Z[i]? with
 |none=>exact h
 |some b=>
  have hh:=tG g.pre g.ao hx (iV (dZ f hb) st.L (gL f s i b)) (fun q hq=>mN hq)
  simp only
  rw[hh]
  cases hc:(decide (b.kd=2)&&decide (iV (dZ f hb) st.L (gL f s i b)=some k))with
  |false=>exact h
  |true=>
   obtain⟨hkd,hhr⟩:=aeD.1 hc
   have hhr:=acQ hhr
   obtain⟨_,x',h3,h4,_⟩:=A.iz (gM hhr).2
   rw[g.pre k x hx]at h3;cases h3
   have hxc:x.c=Bf f s b.of:=(rR h4).1
   have hbo:¬b.of=o:=fun e=>hoff (by rw[hxc,e])
   have hRn:∀(r:Rs) (j:Nat) (c:Ac),Z[j]?=some c→st'.R[j]?=if c.of=o then(st.R.set i r)[j]? else some mj:=fun r j c hj=>by
    rw[h.R j c hj]
    by_cases hco:c.of=o
    ·rw[if_pos hco,if_pos hco]
     by_cases hji:j=i
     ·subst hji;rw[hz]at hj;cases hj;exact absurd hco hbo
     ·rw[acv (Ne.symm hji)]
    ·rw[if_neg hco,if_neg hco]
   cases hdi:decide (a.d=(i:Int))with
   |false=>
    simp only[acG,acJ]
    exact⟨h.L,h.lR,hRn _,h.Q⟩
   |true=>
    simp only[acG]
    have hak:ku f s o (gC x i)=false:=acs (show ¬x.c=_ from hoff)
    refine⟨?_,h.lR,hRn _,fun j c z z' hj hco hz1 hz2=>?_⟩
    ·show st'.L=(st.L++[gC x i]).filter _
     rw[acO,ad5,hak,h.L];simp
    ·have hz1:(st.Q.set x.n.toNat ((st.L.length:Int),tn (cT f i).1 (cT f i).2 s x.x))[j]?=some z:=hz1
     have hjx:j≠x.n.toNat:=fun e=>by
      subst e
      rw[ha]at hj;cases hj
      exact hao hco
     rw[acv (Ne.symm hjx)]at hz1
     obtain⟨e1,e2⟩:=h.Q j c z z' hj hco hz1 hz2
     refine⟨e1,?_⟩
     rcases e2 with e2|⟨p,y,e2,e3,e4,e5⟩
     ·exact .inl e2
     ·have hpl:=(acm.1 e4).1
      refine .inr ⟨p,y,e2,?_,?_,e5⟩
      ·show z'.1=((fT _ (st.L++[gC x i]) p:Nat):Int)
       rw[uO (by omega)];exact e3
      ·show(st.L++[gC x i])[p]?=_
       rw[acF hpl];exact e4
theorem SR.on(h0:jr f s Z=0)(hp:o9 f s Z=false)(ho:0≤o)(hl:o<(f.C.length:Int))(g:gp f hb s Z D Y st)(g':gp f hb s (ec o Z) D' Y' st')(h:SR f s o Z st st'){k k':Nat}{x:A.Em}{a:Ac}(hx:(dD f s Z)[k]?=some x)(ha:Z[x.n.toNat]?=some a)
 (hx':(dD f s (ec o Z))[k']?=some x) (hk:fT (ku f s o) st.L k=k') (hP:ku f s o x=true) (i:Nat):SR f s o Z (dS f hb s Z x x.n.toNat a st i) (dS f hb s (ec o Z) x x.n.toNat a st' i):=by
 have hon:x.c=Bf f s o:=acQ hP
 unfold dS
 cases hz:Z[i]? with
 |none=>
  have:(ec o Z)[i]?=none:=by simp[ec,hz]
  rw[this];exact h
 |some b=>
  have hh:=tG g.pre g.ao hx (iV (dZ f hb) st.L (gL f s i b)) (fun q hq=>mN hq)
  by_cases hbo:b.of=o
  ·rw[nY hz hbo]
   have hh':=tG g'.pre g'.ao hx' (iV (dZ f hb) st'.L (gL f s i b)) (fun q hq=>mN hq)
   simp only
   rw[hh,hh']
   cases hkd:decide (b.kd=2)with
   |false=>simp only[ac3,acJ];exact h
   |true=>
    have hl32:st.L.length≤1000:=by
     have:=yw h0 hp g
     obtain⟨k1,k2,_⟩:=cF h0
     obtain⟨k3,k4,k5⟩:=iW k1
     omega
    have hyc:(gL f s i b).c=Bf f s o:=by show fN.lK f.v f.a f.b f.C s b.of=_;rw[hbo]
    have hhe:iV (dZ f hb) st'.L (gL f s i b)=(iV (dZ f hb) st.L (gL f s i b)).map (fT (ku f s o) st.L):=by
     rw[Cf h0 hp g hz hkd,Cf (ua h0 o) (u5 hp o) g' (nY hz hbo) hkd,h.L]
     refine yX (qa (cF h0).1) hl32 (fun z=>by rw[hyc]) (fun e he hen=>?_)
     obtain⟨q,hq⟩:=ac4 he
     obtain⟨j,c,e1,e2,e3,_⟩:=Co g hq
     have hji:j=i:=by
      have:e.n=(i:Int):=hen
      omega
     subst hji
     rw[hz]at e2;cases e2
     exact acp (by rw[e3,hbo])
    have hb2:decide (iV (dZ f hb) st'.L (gL f s i b)=some k')=decide (iV (dZ f hb) st.L (gL f s i b)=some k):=by
     rw[hhe,aeg]
     constructor
     ·intro e
      cases hq:iV (dZ f hb) st.L (gL f s i b)with
      |none=>rw[hq]at e;cases e
      |some q=>
       rw[hq]at e
       obtain⟨_,x2,h3,h4,_⟩:=A.iz (gM hq).2
       have e:fT (ku f s o) st.L q=k':=by simpa using e
       rw[vi h3 (acp (by rw[(rR h4).1,hyc])) (g.pre k x hx) hP (by rw[e,hk])]
     ·intro e
      rw[e]
      show some (fT (ku f s o) st.L k)=_
      rw[hk]
    rw[hb2]
    simp only[ac9]
    cases hc:decide (iV (dZ f hb) st.L (gL f s i b)=some k)with
    |false=>simp only[acJ];exact h
    |true=>
     have hil:=(acm.1 hz).1
     have hRn:∀(r:Rs) (j:Nat) (c:Ac),Z[j]?=some c→(st'.R.set i r)[j]?=if c.of=o then(st.R.set i r)[j]? else some mj:=fun r j c hj=>by
      by_cases hji:j=i
      ·subst hji
       rw[hz]at hj;cases hj
       rw[if_pos hbo,acM (by rw[h.lR];exact hil),acM (by rw[g.lR];exact hil)]
      ·rw[acv (Ne.symm hji),acv (Ne.symm hji)]
       exact h.R j c hj
     have hlR:∀r,(st'.R.set i r).length=Z.length:=fun r=>by rw[acU];exact h.lR
     cases hdi:decide (a.d=(i:Int))with
     |false=>
      simp only[acG,acJ]
      exact⟨h.L,hlR _,hRn _,h.Q⟩
     |true=>
      simp only[acG]
      have hak:ku f s o (gC x i)=true:=acp (show x.c=_ from hon)
      refine⟨?_,hlR _,hRn _,fun j c z z' hj hco hz1 hz2=>?_⟩
      ·show st'.L++[gC x i]=(st.L++[gC x i]).filter _
       rw[acO,ad5,hak,h.L];rfl
      ·have hz1:(st.Q.set x.n.toNat ((st.L.length:Int),tn (cT f i).1 (cT f i).2 s x.x))[j]?=some z:=hz1
       have hz2:(st'.Q.set x.n.toNat ((st'.L.length:Int),tn (cT f i).1 (cT f i).2 s x.x))[j]?=some z':=hz2
       by_cases hjx:j=x.n.toNat
       ·subst hjx
        have hnl:=(acm.1 ha).1
        rw[acM (by rw[g.lQ];exact hnl)]at hz1
        rw[acM (by rw[g'.lQ,df];exact hnl)]at hz2
        cases hz1;cases hz2
        refine⟨rfl,.inr ⟨st.L.length,gC x i,rfl,?_,by show(st.L++[gC x i])[st.L.length]?=_;simp,hak⟩⟩
        show(st'.L.length:Int)=((fT _ (st.L++[gC x i]) st.L.length:Nat):Int)
        rw[uO (acH _),ug,h.L]
       ·rw[acv (Ne.symm hjx)]at hz1 hz2
        obtain⟨e1,e2⟩:=h.Q j c z z' hj hco hz1 hz2
        refine⟨e1,?_⟩
        rcases e2 with e2|⟨p,y,e2,e3,e4,e5⟩
        ·exact .inl e2
        ·have hpl:=(acm.1 e4).1
         refine .inr ⟨p,y,e2,?_,?_,e5⟩
         ·show z'.1=((fT _ (st.L++[gC x i]) p:Nat):Int)
          rw[uO (by omega)];exact e3
         ·show(st.L++[gC x i])[p]?=_
          rw[acF hpl];exact e4
  ·rw[u0 hz hbo]
   have e0:decide (Dj.kd=2)=false:=rfl
   simp only[e0,ac3,acJ]
   rw[hh]
   have:(decide (b.kd=2)&&decide (iV (dZ f hb) st.L (gL f s i b)=some k))=false:=by
    cases hc:(decide (b.kd=2)&&decide (iV (dZ f hb) st.L (gL f s i b)=some k))with
    |false=>rfl
    |true=>
     exfalso
     obtain⟨hkd,hhr⟩:=aeD.1 hc
     have hhr:=acQ hhr
     obtain⟨_,x',h3,h4,_⟩:=A.iz (gM hhr).2
     rw[g.pre k x hx]at h3;cases h3
     have hxc:x.c=Bf f s b.of:=(rR h4).1
     obtain⟨f1,f2⟩:=uk h0 hz (.inr (acQ hkd))
     exact hbo (y6 h0 f1 f2 ho hl (by rw[←hxc,hon]))
   rw[this]
   exact h
end
end
section
theorem FZ{P:A.Em→Bool}{f:Fi}{hb:Bd f}{s:Int}{Z:List Ac}{D:Nat→Nat→Prop}{Y:Int}{st:St}(g:gp f hb s Z D Y st){k:Nat}(hk:k≤(dD f s Z).length):fT P st.L k=fT P (dD f s Z) k:=by
 unfold fT
 have:st.L.take k=(dD f s Z).take k:=by
  apply aen
  intro i
  rw[acX,acX]
  by_cases hi:i<k
  ·rw[if_pos hi,if_pos hi]
   obtain⟨x,hx⟩:=bO (show i<(dD f s Z).length by omega)
   rw[hx,g.pre i x hx]
  ·rw[if_neg hi,if_neg hi]
 rw[this]
section
variable{f:Fi}{hb:Bd f}{s o:Int}{Z:List Ac}
theorem uN(h0:jr f s Z=0)(ho:0≤o)(hl:o<(f.C.length:Int)):dD f s (ec o Z)=(dD f s Z).filter (ku f s o):=by
 show aW f s (ec o Z) (ec o Z).length=_
 rw[df]
 exact xC h0 ho hl _
theorem SR.Av{D:Nat→Nat→Prop}{st st':St}{k:Nat}{x:A.Em}{a:Ac}(hx:(dD f s Z)[k]?=some x)(ha:Z[x.n.toNat]?=some a)(g:gp f hb s Z D x.y st)(hD:∀i,¬D k i)(h:SR f s o Z st st')(hP:ku f s o x=false) :
 ∀i,SR f s o Z (fH f hb s Z x x.n.toNat a st i) st'
 |0=>h
 |i+1=>SR.off (gp.loop hx ha g hD i) (SR.Av hx ha g hD h hP i) hx ha hP i
theorem SR.EZ(h0:jr f s Z=0)(hp:o9 f s Z=false)(ho:0≤o)(hl:o<(f.C.length:Int)){D D':Nat→Nat→Prop}{st st':St}{k k':Nat}{x:A.Em}{a:Ac}(hx:(dD f s Z)[k]?=some x)(ha:Z[x.n.toNat]?=some a)
 (hx':(dD f s (ec o Z))[k']?=some x) (ha':(ec o Z)[x.n.toNat]?=some a) (g:gp f hb s Z D x.y st) (g':gp f hb s (ec o Z) D' x.y st') (hD:∀i,¬D k i) (hD':∀i,¬D' k' i) (h:SR f s o Z st st') (hk:fT (ku f s o) (dD f s Z) k=k') (hP:ku f s o x=true) :
 ∀i,SR f s o Z (fH f hb s Z x x.n.toNat a st i) (fH f hb s (ec o Z) x x.n.toNat a st' i)
 |0=>h
 |i+1=>SR.on h0 hp ho hl (gp.loop hx ha g hD i) (gp.loop hx' ha' g' hD' i) (SR.EZ h0 hp ho hl hx ha hx' ha' g g' hD hD' h hk hP i) hx ha hx'
  (by rw[FZ (gp.loop hx ha g hD i) (Nat.le_of_lt (acm.1 hx).1)];exact hk) hP i
theorem SR.fold(h0:jr f s Z=0)(hp:o9 f s Z=false)(ho:0≤o)(hl:o<(f.C.length:Int)):∀(l:List Nat) {st st':St} {D D':Nat→Nat→Prop} {Y:Int},gp f hb s Z D Y st→gp f hb s (ec o Z) D' Y st'→SR f s o Z st st'→
 Q.pv (kA (dD f s Z)) l→(∀k∈l,Y≤kA (dD f s Z) k)→l.Nodup→(∀k∈l,k<(dD f s Z).length)→(∀k∈l,∀i,¬D k i)→(∀k∈l,eU (ku f s o) (dD f s Z) k=true→∀i,¬D' (fT (ku f s o) (dD f s Z) k) i)→
 SR f s o Z (l.foldl (dh f hb s Z (dD f s Z)) st) (((l.filter (eU (ku f s o) (dD f s Z))).map (fT (ku f s o) (dD f s Z))).foldl (dh f hb s (ec o Z) (dD f s (ec o Z))) st')
 |[],_,_,_,_,_,_,_,h,_,_,_,_,_,_=>h
 |k::l,st,st',D,D',Y,g,g',h,hs,hY,hn,hlt,hD,hD'=>by
  obtain⟨hs1,hs2⟩:=adx.1 hs
  obtain⟨hn1,hn2⟩:=aee.1 hn
  have hlt2:∀k∈l,k<(dD f s Z).length:=fun k hk=>hlt k (ade _ hk)
  have hD2:∀k∈l,∀i,¬D k i:=fun k hk=>hD k (ade _ hk)
  have hD2':∀k∈l,eU (ku f s o) (dD f s Z) k=true→∀i,¬D' (fT (ku f s o) (dD f s Z) k) i:=fun k hk=>hD' k (ade _ hk)
  obtain⟨x,hx⟩:=bO (hlt k ac5)
  obtain⟨j,a,_,ha,hk1,hxe⟩:=ef f s Z Z.length k x hx
  have hj:x.n.toNat=j:=by rw[hxe];exact GL
  have haj:Z[x.n.toNat]?=some a:=by rw[hj];exact ha
  have hky:kA (dD f s Z) k=x.y:=by unfold kA;rw[hx]
  have hYx:=hY k ac5
  rw[hky]at hYx
  have hYn:∀k'∈l,x.y≤kA (dD f s Z) k':=fun k' hk'=>by
   have:=hs1 k' hk'
   rw[hky]at this;exact this
  have gx:=g.mono hYx (fun _ _ h=>h)
  have gx':=g'.mono hYx (fun _ _ h=>h)
  have hDk:=hD k ac5
  have e1:dh f hb s Z (dD f s Z) st k=fH f hb s Z x x.n.toNat a st Z.length:=by
   unfold dh
   rw[hx]
   simp only[haj]
  have gn:=gp.loop hx haj gx hDk Z.length
  have hDn:∀k'∈l,∀i,¬(D k' i∨k'=k∧i<Z.length):=fun k' hk' i h=>by
   rcases h with h|⟨rfl,_⟩
   ·exact hD2 k' hk' i h
   ·exact hn1 hk'
  have hkp:eU (ku f s o) (dD f s Z) k=ku f s o x:=by unfold eU;rw[hx]
  rw[adB,e1,ad5,hkp]
  cases hP:ku f s o x with
  |false=>
   simp only[adh,if_false]
   exact SR.fold h0 hp ho hl l gn gx' (SR.Av hx haj gx hDk h hP Z.length) hs2 hYn hn2 hlt2 hDn hD2'
  |true=>
   have hao:a.of=o:=by
    obtain⟨f1,f2⟩:=uk h0 ha (.inl (acQ hk1))
    refine y6 h0 f1 f2 ho hl ?_
    have:=acQ hP
    rw[hxe]at this;exact this
   have hx':(dD f s (ec o Z))[fT (ku f s o) (dD f s Z) k]?=some x:=by
    rw[uN h0 ho hl];exact l6 hx hP
   have ha':(ec o Z)[x.n.toNat]?=some a:=nY haj hao
   have hDk':=hD' k ac5 (by rw[hkp];exact hP)
   have e2:dh f hb s (ec o Z) (dD f s (ec o Z)) st' (fT (ku f s o) (dD f s Z) k)=fH f hb s (ec o Z) x x.n.toNat a st' Z.length:=by
    unfold dh
    rw[hx']
    simp only[ha',df]
   simp only[if_true,ada,adB]
   rw[e2]
   refine SR.fold h0 hp ho hl l gn (gp.loop hx' ha' gx' hDk' Z.length) (SR.EZ h0 hp ho hl hx haj hx' ha' gx gx' hDk hDk' h rfl hP Z.length) hs2 hYn hn2 hlt2 hDn (fun k2 hk2 hkk i hh=>?_)
   rcases hh with hh|⟨e,_⟩
   ·exact hD2' k2 hk2 hkk i hh
   ·unfold eU at hkk
    obtain⟨x2,hx2⟩:=bO (hlt2 k2 hk2)
    rw[hx2]at hkk
    have:=vi hx2 hkk hx hP e
    subst this
    exact hn1 hk2
theorem tk(h0:jr f s Z=0)(hp:o9 f s Z=false)(ho:0≤o)(hl:o<(f.C.length:Int)):SR f s o Z (cS f hb s Z) (cS f hb s (ec o Z)):=by
 have hs:Q.pv (kA (dD f s Z)) (eg (dD f s Z)):=Q.lJ _ _
 have hn:=rh (dD f s Z)
 have e1:cS f hb s (ec o Z)=(((eg (dD f s Z)).filter (eU (ku f s o) (dD f s Z))).map (fT (ku f s o) (dD f s Z))).foldl (dh f hb s (ec o Z) (dD f s (ec o Z))) (ks (dD f s (ec o Z)) (ec o Z).length):=by
  show(eg (dD f s (ec o Z))).foldl (dh f hb s (ec o Z) (dD f s (ec o Z))) (ks (dD f s (ec o Z)) (ec o Z).length)=_
  rw[←vO,←uN h0 ho hl]
 have e2:cS f hb s Z=(eg (dD f s Z)).foldl (dh f hb s Z (dD f s Z)) (ks (dD f s Z) Z.length):=rfl
 rw[e1,e2]
 have hz:SR f s o Z (ks (dD f s Z) Z.length) (ks (dD f s (ec o Z)) (ec o Z).length):=by
  refine⟨uN h0 ho hl,by simp[ks,df],fun i a ha=>?_,fun j a z z' ha _ h1 h2=>?_⟩
  ·have hil:=(acm.1 ha).1
   have r1:(List.replicate Z.length mj)[i]?=some mj:=by rw[adX,if_pos hil]
   show(List.replicate (ec o Z).length mj)[i]?=if a.of=o then(List.replicate Z.length mj)[i]? else some mj
   rw[df,r1]
   split<;>rfl
  ·have e1:=acy h1
   have e2:=acy h2
   simp only[ks,aeO]at e1 e2
   rw[e1.2,e2.2]
   exact⟨rfl,.inl ⟨rfl,rfl⟩⟩
 obtain⟨Y,hY⟩:∃Y,∀k∈eg (dD f s Z),Y≤kA (dD f s Z) k:=by
  cases hl:eg (dD f s Z)with
  |nil=>exact⟨0,fun k hk=>by cases hk⟩
  |cons k l=>
   rw[hl]at hs
   refine⟨kA (dD f s Z) k,fun k' hk'=>?_⟩
   rcases adj.1 hk' with rfl|hk'
   ·exact aeH _
   ·exact(adx.1 hs).1 k' hk'
 exact SR.fold h0 hp ho hl _ (gp.zero f hb s Z Y) (gp.zero f hb s (ec o Z) Y) hz hs hY hn (fun k hk=>qQ hk) (fun _ _ _ h=>h) (fun _ _ _ _ h=>h)
theorem Cl(f:Fi)(hb:Bd f)(s:Int)(Z:List Ac)(j:Nat)(hj:j<Z.length):(fe f hb s Z)[j]?=match wv f hb (cS f hb s Z) j with|some r=>some r|none=>(cS f hb s Z).R[j]?:=by
 obtain⟨D,Y,g⟩:=inv f hb s Z
 cases hw:wv f hb (cS f hb s Z) j with
 |none=>exact jl hw
 |some r=>
  have hw2:=hw
  unfold wv at hw
  cases hz:(cS f hb s Z).Q[j]? with
  |none=>rw[hz]at hw;cases hw
  |some z=>
   rcases g.q j z hz with h1|⟨p,k,i,x,h1,h2,h3,_⟩
   ·rw[hz]at hw;simp only[h1]at hw;cases hw
   ·exact lU hw2 _ _ (by rw[g.lR];exact hj) (.inr ⟨k,(Q.jW _ _ _).2 (ac2.2 (acm.1 h2).1),x,h2,h3⟩)
theorem Gd{i:Nat}{b:Ac}(hm:Z[i]?=some b)(hk:¬b.kd=1):wv f hb (cS f hb s Z) i=none:=by
 obtain⟨D,Y,g⟩:=inv f hb s Z
 unfold wv
 cases hz:(cS f hb s Z).Q[i]? with
 |none=>rfl
 |some z=>
  rcases g.q i z hz with h|⟨p,k,i',x,h1,h2,h3,⟨x',a,h4,h5,_⟩,_⟩
  ·simp only[h];rfl
  ·exfalso
   rw[h2]at h4;cases h4
   have:=(mM h2 h5).1
   rw[h3,hm]at h5
   cases h5
   exact hk (acQ this)
theorem Ec{i:Nat}{b:Ac}(hm:Z[i]?=some b)(hk:b.kd=0):(fe f hb s Z)[i]?=some mj:=by
 obtain⟨D,Y,g⟩:=inv f hb s Z
 have hil:=(acm.1 hm).1
 rw[jl (Gd hm (by omega))]
 obtain⟨r,hr⟩:=bO (l:=(cS f hb s Z).R) (i:=i) (by rw[g.lR];exact hil)
 rcases g.row i r hr with h|⟨k,⟨x,a,b',L0,E,e1,e2,e3,e4,_⟩,_⟩
 ·rw[hr,h]
 ·exfalso
  rw[hm]at e3;cases e3
  have:=acQ e4
  omega
theorem EO(h0:jr f s Z=0)(hp:o9 f s Z=false)(ho:0≤o)(hl:o<(f.C.length:Int)){i:Nat}{a:Ac}(ha:Z[i]?=some a):(fe f hb s (ec o Z))[i]?=if a.of=o then(fe f hb s Z)[i]? else some mj:=by
 have h:=tk (hb:=hb) h0 hp ho hl
 have hil:=(acm.1 ha).1
 by_cases hao:a.of=o
 ·rw[if_pos hao,Cl f hb s (ec o Z) i (by rw[df];exact hil),Cl f hb s Z i hil]
  have hR:=h.R i a ha
  rw[if_pos hao]at hR
  have hw:wv f hb (cS f hb s (ec o Z)) i=wv f hb (cS f hb s Z) i:=by
   obtain⟨D,Y,g⟩:=inv f hb s Z
   obtain⟨D',Y',g'⟩:=inv f hb s (ec o Z)
   obtain⟨z,hz⟩:=bO (l:=(cS f hb s Z).Q) (i:=i) (by rw[g.lQ];exact hil)
   obtain⟨z',hz'⟩:=bO (l:=(cS f hb s (ec o Z)).Q) (i:=i) (by rw[g'.lQ,df];exact hil)
   obtain⟨e1,e2⟩:=h.Q i a z z' ha hao hz hz'
   unfold wv
   rw[hz,hz']
   simp only
   rcases e2 with⟨e2,e3⟩|⟨p,y,e2,e3,e4,e5⟩
   ·rw[e2,e3];rfl
   ·rw[e2,e3,e1,acs (show ¬((p:Nat):Int)<0 by omega),acs (show ¬((fT (ku f s o) (cS f hb s Z).L p:Nat):Int)<0 by omega)]
    simp only[acJ]
    have hrc:nK (dZ f hb) (cS f hb s (ec o Z)).L ((fT (ku f s o) (cS f hb s Z).L p:Nat):Int) i=nK (dZ f hb) (cS f hb s Z).L (p:Int) i:=by
     obtain⟨k1,k2,_⟩:=cF h0
     obtain⟨k3,k4,k5⟩:=iW k1
     have hl32:(cS f hb s Z).L.length≤1000:=by
      have:=yw h0 hp g
      omega
     have a1:A.pr (A.eN (dZ f hb)) (dZ f hb).N.length (cS f hb s Z).L=0:=zr h0 hp g
     have a2:A.pr (A.eN (dZ f hb)) (dZ f hb).N.length (cS f hb s (ec o Z)).L=0:=zr (ua h0 o) (u5 hp o) g'
     have hpl:=(acm.1 e4).1
     have hg:=l6 e4 e5
     have hpl':=(acm.1 hg).1
     rw[←h.L]at hg hpl'
     have c1:A.Ap (dZ f hb) (cS f hb s Z).L (p:Int) (i:Int)=0:=by
      unfold A.Ap
      rw[a1,acs (show ¬(p:Int)<0 by omega),acs (show ¬((cS f hb s Z).L.length:Int)≤(p:Int) by omega),acs (show ¬(i:Int)<0 by omega),acs (show ¬((dZ f hb).N.length:Int)≤(i:Int) by show ¬(f.N.length:Int)≤_;omega)]
      rfl
     have c2:A.Ap (dZ f hb) (cS f hb s (ec o Z)).L ((fT (ku f s o) (cS f hb s Z).L p:Nat):Int) (i:Int)=0:=by
      unfold A.Ap
      rw[a2,acs (show ¬((fT (ku f s o) (cS f hb s Z).L p:Nat):Int)<0 by omega),acs (show ¬((cS f hb s (ec o Z)).L.length:Int)≤((fT (ku f s o) (cS f hb s Z).L p:Nat):Int) by omega),acs (show ¬(i:Int)<0 by omega),acs (show ¬((dZ f hb).N.length:Int)≤(i:Int) by show ¬(f.N.length:Int)≤_;omega)]
      rfl
     unfold nK
     rw[c1,c2]
     simp only[decide_true,acG,adl,hg,e4]
     rw[h.L]
     refine qM (qa k1) hl32 e4 e5 (fun x hx hxp=>?_) (fun b hb1 hbn=>?_)
     ·have q1:=adi hxp
      have q2:=acQ e5
      rw[q2];exact q1
     ·obtain⟨q,hq⟩:=ac4 hb1
      obtain⟨j,c,n1,n2,n3,_⟩:=Co g hq
      have hji:j=i:=by omega
      subst hji
      rw[ha]at n2;cases n2
      exact acp (by rw[n3,hao])
    rw[hrc]
  rw[hw,hR]
 ·rw[if_neg hao]
  exact Ec (u0 ha hao) rfl
end
theorem CZ(A:List Ac):SV.refs.av (ic A).flatten=0:=jw (fun cs hcs c hc=>by
 simp only[ic,adt]at hcs
 obtain⟨a,_,rfl⟩:=hcs
 simp only[zT,adj,afY,or_false]at hc
 rcases hc with rfl|rfl|rfl|rfl|rfl|rfl|rfl|rfl|rfl|rfl|rfl|rfl|rfl|rfl<;>rfl)
theorem HP(B:aC)(A:List Ac)(ex:Bool)(n:Nat)(hn:A.length=n)(es:List (Nat×Nat)):tZ ⟨[B,.arr 0 14 (ic A) ex],es,0⟩ (.bn 1 0 0 n)=some (.ao 14 (ic A) false,⟨[B,.dead],es,0⟩):=by
 subst hn
 have e1:((ic A).drop 0).take A.length=ic A:=by rw[aev,ac1 (by rw[nD];exact acH _)]
 have e2:decide (0+A.length≤(ic A).length)=true:=acp (by rw[nD];omega)
 have hg:bk ⟨[B,.arr 0 14 (ic A) ex],es,0⟩ 1=some (.arr 0 14 (ic A) ex):=rfl
 simp only[tZ,hg,e1,e2,CZ,adL,acW,acG]
 rfl
end
end Go.Sh
