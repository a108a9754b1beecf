/- A part of the proof: texts K19a, K19o, K19vc, K19vd. -/
import Derived.Test.YtcfgikdpokjhpaaGreatB12
import Derived.Test.YtcfgikdpokjhpaaGreatB6
import Derived.Test.YtcfgikdpokjhpaaGreatB10
namespace Go.Sh
set_option linter.unusedSectionVars false
set_option linter.unnecessarySimpa false
set_option linter.unusedSimpArgs false
set_option linter.unusedVariables false
set_option maxRecDepth 100000
set_option maxHeartbeats 4000000
theorem U5(H:ab):aa T 60 (.fn 10) [] H=some (.bool true,H):=by
 have h1:=K9
 have h2:=Kj
 have h3:=Ke
 have h4:=JX
 simp only[EI,C0,GZ,Gz,Z5,ZZ]at h1 h2 h3 h4
 refine ae tE (by rfl) ?_
 simp only[VK,ah,go_sem,simprocAttr,h1,h2,h3,h4]
theorem EJ{es:List DT}{cs:List SV}(h:cG (.str::es) cs):∃b r,cs=.str b::r∧b.size≤maxLen∧cG es r:=by
 obtain⟨c,r,rfl,h1,h2⟩:=lD h
 obtain⟨b,rfl,hb⟩:=Ce h1
 exact⟨b,r,rfl,hb,h2⟩
abbrev CU(f:Fi)(s:Int)(A:List Ac)(fl:Bool):List SV:=[.aA 2 (G.dK f.N) f.f1,.aA 1 (G.dC f.P) f.f2,.aA 5 (G.ft f.W) f.f3,acH f.ex,acH f.no,acH f.th,
 .aA 7 (U.dM f.S) f.g1,.aA 6 (U.dG f.F) f.g2,.aA 2 (G.dK f.K) f.h1,acH f.v,acH f.a,acH f.b,.aA 1 (iS f.C) f.h2,acH s,.aA 14 (oU A) fl]
abbrev Ws:List DT:=[.int .i64,.int .i64,.int .i64,.int .i64,.int .i64,.int .i64,.int .i64,.int .i64,.int .i64,.int .i64,.int .i64,.int .i64,.int .i64,.str]
abbrev R1:List DT:=[.aA [.int .i64,.int .i64],.aA [.int .i64],.aA [.int .i64,.int .i64,.int .i64,.int .i64,.int .i64],.int .i64,.int .i64,.int .i64,
 .aA [.int .i64,.int .i64,.int .i64,.aA [.int .i64],.int .i64,.int .i64,.int .i64],.aA [.int .i64,.int .i64,.int .i64,.int .i64,.int .i64,.int .i64],
 .aA [.int .i64,.int .i64],.int .i64,.int .i64,.int .i64,.aA [.int .i64],.int .i64,.aA Ws]
abbrev FL:Bool×List DT:=(true,R1)
theorem pF:∀{L:List (List SV)},(∀q∈L,cG [.int .i64,.int .i64] q)→∃N,L=G.dK N
 |[],_=>⟨[],rfl⟩
 |r::L,h=>by
  obtain⟨N,rfl⟩:=pF (L:=L) (fun q hq=>h q (by simp[hq]))
  have h0:=h r (by simp)
  obtain⟨a,_,rfl,_,h0⟩:=aY h0
  obtain⟨b,_,rfl,_,h0⟩:=aY h0
  cases cu h0
  exact⟨(a,b)::N,rfl⟩
theorem mS:∀{L:List (List SV)},(∀q∈L,cG [.int .i64] q)→∃N,L=G.dC N
 |[],_=>⟨[],rfl⟩
 |r::L,h=>by
  obtain⟨N,rfl⟩:=mS (L:=L) (fun q hq=>h q (by simp[hq]))
  have h0:=h r (by simp)
  obtain⟨a,_,rfl,_,h0⟩:=aY h0
  cases cu h0
  exact⟨a::N,rfl⟩
theorem kD:∀{L:List (List SV)},(∀q∈L,cG [.int .i64] q)→∃N,L=iS N
 |[],_=>⟨[],rfl⟩
 |r::L,h=>by
  obtain⟨N,rfl⟩:=kD (L:=L) (fun q hq=>h q (by simp[hq]))
  have h0:=h r (by simp)
  obtain⟨a,_,rfl,_,h0⟩:=aY h0
  cases cu h0
  exact⟨a::N,rfl⟩
theorem tz:∀{L:List (List SV)},(∀q∈L,cG [.int .i64,.int .i64,.int .i64,.int .i64,.int .i64] q)→∃N,L=G.ft N
 |[],_=>⟨[],rfl⟩
 |r::L,h=>by
  obtain⟨N,rfl⟩:=tz (L:=L) (fun q hq=>h q (by simp[hq]))
  have h0:=h r (by simp)
  obtain⟨a,_,rfl,_,h0⟩:=aY h0
  obtain⟨b,_,rfl,_,h0⟩:=aY h0
  obtain⟨c,_,rfl,_,h0⟩:=aY h0
  obtain⟨d,_,rfl,_,h0⟩:=aY h0
  obtain⟨f,_,rfl,_,h0⟩:=aY h0
  cases cu h0
  exact⟨⟨a,b,c,d,f⟩::N,rfl⟩
theorem tx:∀{L:List (List SV)},(∀q∈L,cG [.int .i64,.int .i64,.int .i64,.aA [.int .i64],.int .i64,.int .i64,.int .i64] q)→∃S,L=U.dM S∧∀s∈S,s.C.length≤maxLen
 |[],_=>⟨[],rfl,fun s h=>by cases h⟩
 |r::L,h=>by
  obtain⟨N,rfl,hN⟩:=tx (L:=L) (fun q hq=>h q (by simp[hq]))
  have k:=h r (by simp)
  obtain⟨a,_,rfl,_,k⟩:=aY k
  obtain⟨b,_,rfl,_,k⟩:=aY k
  obtain⟨p,_,rfl,_,k⟩:=aY k
  obtain⟨L1,f1,_,rfl,m1,a1,k⟩:=fO k
  obtain⟨j5,_,rfl,_,k⟩:=aY k
  obtain⟨fr,_,rfl,_,k⟩:=aY k
  obtain⟨to,_,rfl,_,k⟩:=aY k
  cases cu k
  obtain⟨C,rfl⟩:=kD a1
  exact⟨⟨a,b,p,C,f1,j5,fr,to⟩::N,rfl,fun t ht=>by
   rcases ZU.1 ht with rfl|ht
   ·simpa[iS]using m1
   ·exact hN t ht⟩
theorem te:∀{L:List (List SV)},(∀q∈L,cG [.int .i64,.int .i64,.int .i64,.int .i64,.int .i64,.int .i64] q)→∃S,L=U.dG S
 |[],_=>⟨[],rfl⟩
 |r::L,h=>by
  obtain⟨N,rfl⟩:=te (L:=L) (fun q hq=>h q (by simp[hq]))
  have k:=h r (by simp)
  obtain⟨a,_,rfl,_,k⟩:=aY k
  obtain⟨b,_,rfl,_,k⟩:=aY k
  obtain⟨c,_,rfl,_,k⟩:=aY k
  obtain⟨x,_,rfl,_,k⟩:=aY k
  obtain⟨y,_,rfl,_,k⟩:=aY k
  obtain⟨f,_,rfl,_,k⟩:=aY k
  cases cu k
  exact⟨⟨a,b,c,x,y,f⟩::N,rfl⟩
theorem Bc:∀{L:List (List SV)},(∀q∈L,cG Ws q)→∃A,L=oU A
 |[],_=>⟨[],rfl⟩
 |r::L,h=>by
  obtain⟨N,rfl⟩:=Bc (L:=L) (fun q hq=>h q (by simp[hq]))
  have k:=h r (by simp)
  obtain⟨a1,_,rfl,_,k⟩:=aY k
  obtain⟨a2,_,rfl,_,k⟩:=aY k
  obtain⟨a3,_,rfl,_,k⟩:=aY k
  obtain⟨a4,_,rfl,_,k⟩:=aY k
  obtain⟨a5,_,rfl,_,k⟩:=aY k
  obtain⟨a6,_,rfl,_,k⟩:=aY k
  obtain⟨a7,_,rfl,_,k⟩:=aY k
  obtain⟨a8,_,rfl,_,k⟩:=aY k
  obtain⟨a9,_,rfl,_,k⟩:=aY k
  obtain⟨a10,_,rfl,_,k⟩:=aY k
  obtain⟨a11,_,rfl,_,k⟩:=aY k
  obtain⟨a12,_,rfl,_,k⟩:=aY k
  obtain⟨a13,_,rfl,_,k⟩:=aY k
  obtain⟨x,_,rfl,_,k⟩:=EJ k
  cases cu k
  exact⟨⟨a1,a2,a3,a4,a5,a6,a7,a8,a9,a10,a11,a12,a13,x⟩::N,rfl⟩
theorem xc{x:SV}(h:uB FL x):∃f s A fl,x=.agg (CU f s A fl)∧f.S.length≤maxLen∧A.length≤maxLen∧Bq f:=by
 obtain⟨cs,rfl,k⟩:=zp h
 obtain⟨L1,f1,_,rfl,m1,a1,k⟩:=fO k
 obtain⟨L2,f2,_,rfl,m2,a2,k⟩:=fO k
 obtain⟨L3,f3,_,rfl,m3,a3,k⟩:=fO k
 obtain⟨ex,_,rfl,_,k⟩:=aY k
 obtain⟨no,_,rfl,_,k⟩:=aY k
 obtain⟨th,_,rfl,_,k⟩:=aY k
 obtain⟨L4,g1,_,rfl,m4,a4,k⟩:=fO k
 obtain⟨L5,g2,_,rfl,m5,a5,k⟩:=fO k
 obtain⟨L6,h1,_,rfl,m6,a6,k⟩:=fO k
 obtain⟨v,_,rfl,_,k⟩:=aY k
 obtain⟨a,_,rfl,_,k⟩:=aY k
 obtain⟨b,_,rfl,_,k⟩:=aY k
 obtain⟨L7,h2,_,rfl,m7,a7,k⟩:=fO k
 obtain⟨s,_,rfl,_,k⟩:=aY k
 obtain⟨L8,fl,_,rfl,m8,a8,k⟩:=fO k
 cases cu k
 obtain⟨N,rfl⟩:=pF a1
 obtain⟨P,rfl⟩:=mS a2
 obtain⟨W,rfl⟩:=tz a3
 obtain⟨S,rfl,hS⟩:=tx a4
 obtain⟨F,rfl⟩:=te a5
 obtain⟨K,rfl⟩:=pF a6
 obtain⟨C,rfl⟩:=kD a7
 obtain⟨A,rfl⟩:=Bc a8
 have m4':S.length≤maxLen:=by simpa[U.dM]using m4
 exact⟨⟨N,P,W,f1,f2,f3,ex,no,th,S,g1,F,g2,K,h1,v,a,b,C,h2⟩,s,A,fl,rfl,m4',by simpa[oU]using m8,⟨by simpa[G.dK]using m1,by simpa[G.dC]using m2,by simpa[G.ft]using m3,⟨m4',hS⟩,by simpa[U.dG]using m5,by simpa[G.dK]using m6,by simpa[iS]using m7⟩⟩
theorem S7(n:Nat)(H:ab)(f:Fi)(s:Int)(A:List Ac)(fl:Bool)(hS:f.S.length≤maxLen)(hA:A.length≤maxLen):aa T (n+4) (.fn 12) [.agg (CU f s A fl)] H=some (.bool (oK f&&kO A),H):=by
 have h1:=fun H=>W5 n H f hS
 have h2:=fun H=>WV (n+2) H A fl hA
 refine ae FH (by rfl) ?_
 cases a1:oK f<;>rw[a1]at h1<;>simp only[Vx,ah,go_sem,simprocAttr,h1,h2,ZP,ZJ]
theorem s8{f:Fi}{A:List Ac}(h:(oK f&&kO A)=true):f.C.length≤20∧A.length≤40∧∀a∈A,a.x.size≤200:=by
 simp only[Zh,oK,kO,Ze]at h
 obtain⟨⟨_,hC⟩,hA⟩:=h
 cases hx:(A.take 40).any (fun a=>decide (200<a.x.size))with
 |true=>rw[hx]at hA;cases hA
 |false=>
  rw[hx]at hA
  simp only[Zu,Ze]at hA
  refine⟨hC,hA,fun a ha=>?_⟩
  rw[ZM hA,aau]at hx
  have:=hx a ha
  simp only[Ze]at this
  omega
theorem Da{C:List Int}(h:kR.oG C=true):C.length≤16:=by
 unfold kR.oG at h
 simp only[Zh,ZK,aau]at h
 have hb:∀(i:Nat) (c:Int),C[i]?=some c→kR.eC C i=false:=fun i c hc=>by
  have:=h.1 i (ZF.2 (Y8.1 hc).1)
  simpa using this
 have hb2:∀(i:Nat) (c:Int),C[i]?=some c→(0≤c∧c<16)∧c∉C.take i:=fun i c hc=>by
  have:=hb i c hc
  rw[kR.pk hc]at this
  simp only[kR.di,aaw,abv,Zh,Ze,Zi]at this
  exact this
 have h1:(C.map Int.toNat).Nodup:=by
  unfold List.Nodup
  rw[abG]
  intro i j hi hj hij
  simp only[ab9]at hi hj
  simp only[List.getElem_map]
  have e1:=hb2 i _ (Zq hi)
  have e2:=hb2 j _ (Zq hj)
  intro he
  have:C[i]=C[j]:=by omega
  refine e2.2 ?_
  rw[←this]
  exact Zj (i:=i) (by rw[ZC,if_pos hij];exact Zq hi)
 have h2:=cQ (C.map Int.toNat) (List.range 16) h1 (fun x hx=>by
  obtain⟨c,hc,rfl⟩:=Z3.1 hx
  obtain⟨i,hi⟩:=ZH hc
  have:=hb2 i c hi
  exact ZF.2 (by omega))
 simpa using h2
theorem Ng{f:Fi}(h:okF f=true)(hq:Bq f):Bd f:=by
 refine hq.d ?_
 unfold okF at h
 simp only[Zh]at h
 have:=Da (kR.uf h.2).2.2.2.2
 omega
theorem Qd(n:Nat)(H:ab)(f:Fi)(hq:Bq f)(s:Int)(Z:List Ac)(fl:Bool)(hZ:Z.length≤maxLen)(he:decide (qA f s Z=0)=false) :
 aa T (n+60) (.fn 11) [.agg (sx f),acH s,.aA 14 (oU Z) fl] H=some (.ba [.aA 0 [] true,.aA 0 [] true,acH (qA f s Z)],H):=by
 have h38:=fun H=>GA (n+49) H f s Z fl hq hZ
 refine ae sS (by rfl) ?_
 simp only[Pl,ah,go_sem,simprocAttr,h38,he]
theorem Gl(f:Fi)(hq:Bq f)(s:Int)(Z:List Ac)(fl:Bool)(hZ:Z.length≤maxLen) :
 (∃e,decide (e=0)=false∧∀n H,aa T (n+60) (.fn 11) [.agg (sx f),acH s,.aA 14 (oU Z) fl] H=some (.ba [.aA 0 [] true,.aA 0 [] true,acH e],H))∨
 (qA f s Z=0∧xk f s Z=false∧Z.length≤32∧∃hb:Bd f,∀n H,aa T (n+60) (.fn 11) [.agg (sx f),acH s,.aA 14 (oU Z) fl] H=
  some (.ba [.aA 15 (kM (gp f hb s Z)) true,(bif (aW f s Z Z.length).isEmpty then .aA 0 [] true else .aA 4 (A.bM (eO f hb s Z).L) false),acI],H)):=by
 cases he:decide (qA f s Z=0)with
 |false=>exact .inl ⟨qA f s Z,he,fun n H=>Qd n H f hq s Z fl hZ he⟩
 |true=>
  have he0:=ZE he
  obtain⟨k1,k2,_⟩:=iY he0
  have hb:=Ng k1 hq
  have k5:=FK k1
  have h:=fun n H=>Q1 n H f hb s Z fl (by omega)
  unfold SZ C8 at h
  rw[he]at h
  simp only[Zr]at h
  cases hp:xk f s Z with
  |true=>
   rw[hp]at h
   exact .inl ⟨15,rfl,h⟩
  |false=>
   rw[hp]at h
   exact .inr ⟨he0,rfl,by omega,hb,h⟩
theorem Wn:T 15=some (rS 25):=IV
theorem TA:T 25=some (jc true 4):=Yb
theorem Yg(n b:Nat)(H:ab)(y:A.Em)(t:Int)(hb:H.bl[b]?=some (.box [acH t])):aa T (n+1) (.fn 21) [.agg (A.qC y),.ptr b 0 0 0] H=some (.bool (decide (y.n=t)),H):=by
 refine cU Xs rfl rfl (fun R k bl ro r hbl hk=>?_)
 obtain rfl:bl=H.bl:=by
  rcases hbl with⟨rfl,h0⟩|rfl
  ·simp[SV.refs.au,SV.refs]at h0
  ·rfl
 have hB:∀l:List aD,(H.bl++l)[b]?=some (.box [acH t]):=fun l=>fa hb
 simp only[VI,aF,aB,aG,aE,az,av,ay,ax,bc,aS,bg,aU,aP,aT,aH,aQ,aJ,aI,aw,af,bK,bL,Za,Y9,Zk,go_sem,simprocAttr,hb,hB]
 exact hk _
theorem xe(L:List A.Em):∀r∈A.bM L,r.length=4:=fun r hr=>by
 simp only[A.bM,Z3]at hr
 obtain⟨y,_,rfl⟩:=hr
 rfl
def LA:List SV→Int
 | .int _ a::_=>a
 |_=>0
theorem XO(n b:Nat)(H:ab)(L:List A.Em)(f:Bool)(t:Int)(hL:L.length≤maxLen)(hb:H.bl[b]?=some (.box [acH t])) :
 aa T (n+3) (.fn 15) [.aA 4 (A.bM L) f,.fn 21 [.ptr b 0 0 0]] H=some (.bool (L.any fun y=>decide (y.n=t)),H):=by
 have h:=gK (T:=T) (f:=15) (n:=n+1) (H:=H) (ag:=true) (z:=4) (id:=21) (caps:=[.ptr b 0 0 0]) (v:=.aA 4 (A.bM L) f) (L:=A.bM L) (p:=fun r=>decide (LA r=t)) Wn TA (.aA 4 f (.inl rfl)) (xe L) (fun h=>by cases h) (by rw[A.dq];exact hL)
  (fun r hr bl ro hbl=>by
   simp only[A.bM,Z3]at hr
   obtain⟨y,_,rfl⟩:=hr
   rcases hbl with⟨_,_,h0⟩|rfl
   ·simp[SV.refs.au,SV.refs]at h0
   ·exact Yg n b ⟨H.bl,[],ro⟩ y t hb) (by
   have:=(Y8.1 hb).1
   simp[SV.refs.au,SV.refs];omega)
 rw[h,A.bM,acy]
 rfl
theorem vV(f:Fi)(hb:Bd f)(s:Int)(Z:List Ac):(gp f hb s Z).length=Z.length:=by
 obtain⟨D,Y,g⟩:=inv f hb s Z
 unfold gp;rw[nz,g.lR]
theorem vP(f:Fi)(hb:Bd f)(s:Int)(Z:List Ac)(hZ:Z.length≤40):(eO f hb s Z).L.length≤2000:=by
 refine ZN (su f hb s Z (aW f s Z Z.length) _ _) ?_
 have la:=mR f s Z Z.length
 have e2:=ach (show(fF (aW f s Z Z.length)).length≤40 by rw[iL];omega) hZ
 have e3:(oP (aW f s Z Z.length) Z.length).L.length=(aW f s Z Z.length).length:=rfl
 omega
theorem sf{R:List Rs}{i:Nat}:(kM R)[i]?=(R[i]?).map BU:=by simp[kM]
theorem j7{R:List Rs}:(kM R).length=R.length:=by simp[kM]
theorem s5(f:Fi)(s:Int)(Z:List Ac)(fl:Bool)(hS:f.S.length≤maxLen)(hZ:Z.length≤maxLen)(hq:Bq f):aa T 61 (.fn 5) [.agg (CU f s Z fl)] ah=some (.bool true,ah):=by
 have h10:=fun H=>U5 H
 have h12:=fun H=>S7 56 H f s Z fl hS hZ
 refine ae e5 (by rfl) ?_
 rcases Gl f hq s Z fl hZ with⟨e,he,h11⟩|⟨h0,hp,h32,hb,h11⟩
 ·have h11:=fun H=>h11 0 H
  simp only[aae]at h11
  cases hf:oK f&&kO Z<;>rw[hf]at h12<;>simp only[c5,ah,go_sem,simprocAttr,h10,h12,h11,he]
 ·have h11:=fun H=>h11 0 H
  simp only[aae]at h11
  cases hf:oK f&&kO Z with
  |false=>rw[hf]at h12;simp only[c5,ah,go_sem,simprocAttr,h10,h12,h11]
  |true=>
   obtain⟨hC,hA4,hx⟩:=s8 hf
   rw[hf]at h12
   have h20:=fun H=>Wo 49 H f s Z fl hb (by omega) (fun a ha=>ZN (hx a ha) (by decide))
   unfold Oo at h20
   rw[h0]at h20
   simp only[aaq,Zr]at h20
   obtain⟨lv,hlv⟩:∃lv,(bif (aW f s Z Z.length).isEmpty then SV.aA 0 [] true else .aA 4 (A.bM (eO f hb s Z).L) false)=lv:=⟨_,rfl⟩
   have hlr:lv.refs=0:=by rw[←hlv];cases(aW f s Z Z.length).isEmpty<;>rfl
   rw[hlv]at h11
   have lR:=vV f hb s Z
   obtain⟨R,hR⟩:∃R,gp f hb s Z=R:=⟨_,rfl⟩
   have hak:=fun i r (h:(gp f hb s Z)[i]?=some r)=>JT h
   rw[hR]at h11 lR hak
   have lC:(iS (gr f s Z)).length=Z.length:=by simp[iS,gr]
   simp only[c5,ah,go_sem,simprocAttr,h10,h12,h11,h20,lC,lR,j7,aaq]
   refine bn (fun i=>([(1,.ptr 0 0 0 0),(3,.aA 15 (kM R) true),(4,lv),(6,.aA 1 (iS (gr f s Z)) false),(60,.aA 14 (oU Z) fl),(61,acH Z.length),(62,acH i)],⟨[.box (CU f s Z fl)],[],0⟩)) (fun _=>True) Z.length ?_ trivial ?_
   ·simp only[go_sem,simprocAttr,hlr]<;>rfl
   ·intro i hi _
    rcases Zl i Z.length with hlt|hge
    ·obtain⟨a,ha⟩:=bV hlt
     obtain⟨r,hr⟩:=bV (l:=R) (i:=i) (by omega)
     have hw:=bR hlt hZ
     have hiR:i<R.length:=by omega
     cases hk:r.ak with
     |false=>
      simp only[go_sem,simprocAttr,hlt,hiR,ha,hr,hk,hw,sf,hlr]
      exact⟨by first|trivial|omega,by first|trivial|rfl,trivial⟩
     |true=>
      obtain⟨a',b,t,g1,g2,g3,g4,g5,g6,g7,⟨y,g8,g9⟩,g10⟩:=hak i r hr hk
      rw[ha]at g1;cases g1
      have he:(aW f s Z Z.length).isEmpty=false:=by
       cases hq:aW f s Z Z.length with
       |nil=>exact absurd hq g10
       |cons _ _=>rfl
      rw[he]at hlv
      simp only[Zu]at hlv
      subst hlv
      have htl:=(Y8.1 g4).1
      have htR:t<R.length:=by omega
      have lL:=vP f hb s Z (by omega)
      obtain⟨L,hL⟩:∃L,(eO f hb s Z).L=L:=⟨_,rfl⟩
      rw[hL]at g8 lL⊢
      have hk2:=ZE g5
      have hk1:=ZE g2
      have hct:(gr f s Z)[t]?=some (kR.oX f.v f.a f.b f.C s a.of):=by
       simp only[gr,aat,g4,ZQ,G9,Zf (show ¬b.kd=0 by omega),Zu,g6]
      have hci:(gr f s Z)[i]?=some (kR.oX f.v f.a f.b f.C s a.of):=by
       simp only[gr,aat,ha,ZQ,G9,Zf (show ¬a.kd=0 by omega),Zu]
      have hRt:(kM R)[t]?=some (BU (oI a r.er)):=by rw[sf,g7];rfl
      have hRi:(kM R)[i]?=some (BU r):=by rw[sf,hr];rfl
      have d1:decide ((t:Int)<0)=false:=Zf (by omega)
      have d2:decide ((Z.length:Int)≤(t:Int))=false:=Zf (by omega)
      have hany:(L.any fun y=>decide (y.n=(t:Int)))=true:=aav.2 ⟨y,g8,Zc g9⟩
      have h15:=fun X Y es ro=>XO 57 2 ⟨[X,Y,.box [acH (t:Int)]],es,ro⟩ L false t (ZN lL (by decide)) rfl
      rw[hany]at h15
      simp only[oI]at hRt
      simp only[go_sem,simprocAttr,hlt,htl,hiR,htR,hr,g7,ha,hk,hw,g2,g3,g4,g5,hct,hci,hRt,hRi,lC,lR,j7,d1,d2,h15,aaq,oI,aaF,ZP,ZD,aai]
      exact⟨by first|trivial|omega,by first|trivial|rfl,trivial⟩
    ·obtain rfl:i=Z.length:=by omega
     have hlt:¬Z.length<Z.length:=by omega
     simp only[go_sem,simprocAttr,hlt]
theorem PD(xs:List SV)(h:gw [FL] xs):∃m,aa T m (.fn 5) xs ah=some (.bool true,ah):=by
 obtain⟨x1,r1,rfl,h1,h⟩:=ji h
 cases kp h
 obtain⟨f,s,A,fl,rfl,hS,hA,hb⟩:=xc h1
 exact⟨61,s5 f s A fl hS hA hb⟩
end Go.Sh
