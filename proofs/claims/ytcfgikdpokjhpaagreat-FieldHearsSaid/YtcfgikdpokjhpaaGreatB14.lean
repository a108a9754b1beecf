/- A part of the proof: texts K19vx, K19vy, K19vz. -/
import Derived.Test.YtcfgikdpokjhpaaGreatB10
import Derived.Test.YtcfgikdpokjhpaaGreatB13
namespace Go.Sh
set_option linter.unusedSectionVars false
set_option linter.unnecessarySimpa false
set_option linter.unusedSimpArgs false
set_option linter.unusedVariables false
set_option maxRecDepth 100000
set_option maxHeartbeats 4000000
theorem GH{a:Int}(h1: -4611686018427387904≤a)(h2:a≤4611686018427387904):Ex a=a/1000000000:=by
 unfold Ex
 rcases Int.lt_or_le a 0 with h|h
 ·obtain⟨b,rfl⟩:∃b,a= -b:=⟨-a,by omega⟩
  rw[Int.neg_tdiv,Int.neg_tmod,aaI (by omega),aaM (by omega)]
  cases hd:decide (-(b%1000000000)<0)with
  |true=>
   rw[Ze]at hd
   simp only[Zr]
   rw[ao (n:= -(b/1000000000)) (by omega) (by omega),ao (by omega) (by omega)];omega
  |false=>
   rw[Zi]at hd
   simp only[Zu]
   rw[ao (by omega) (by omega)];omega
 ·rw[aaI h,aaM h,Zf (show ¬a%1000000000<0 by omega)]
  simp only[Zu]
  exact ao (by omega) (by omega)
theorem BZ{o d:Int}(h:mE o d=true): -1099511627776≤o∧o≤1099511627776∧ -100000≤d∧d≤100000:=by
 unfold mE at h
 simp only[Zh,Ze]at h
 omega
theorem sb{t d:Int}(h0:0≤t)(h1: -100000≤d)(h2:d≤100000): -(t*100000)≤t*d∧t*d≤t*100000:=by
 have e1:=aaD h1 h0
 have e2:=aaD h2 h0
 rw[Int.mul_neg]at e1
 exact⟨e1,e2⟩
theorem wR{o d t:Int}(hk:mE o d=true)(h0:0≤t)(h1:t≤1099511627776):jP o d t=o+t+t*d/1000000000:=by
 obtain⟨k1,k2,k3,k4⟩:=BZ hk
 obtain⟨m1,m2⟩:=sb h0 k3 k4
 unfold jP
 rw[ao (n:=t*d) (by omega) (by omega),GH (by omega) (by omega),ao (n:=o+t) (by omega) (by omega),ao (by omega) (by omega)]
theorem tW{o d t t':Int}(hk:mE o d=true)(h0:0≤t)(h:t≤t')(h1:t'≤1099511627776):jP o d t≤jP o d t':=by
 rw[wR hk h0 (by omega),wR hk (by omega) h1]
 obtain⟨k1,k2,k3,k4⟩:=BZ hk
 obtain⟨m1,m2⟩:=sb (t:=t'-t) (by omega) k3 k4
 have:=Int.sub_mul t' t d
 omega
theorem EW{o d t:Int}(hk:mE o d=true)(h0:0≤t)(h1:t≤1099511627776): -4398046511104≤jP o d t∧jP o d t≤4398046511104:=by
 rw[wR hk h0 h1]
 obtain⟨k1,k2,k3,k4⟩:=BZ hk
 obtain⟨m1,m2⟩:=sb h0 k3 k4
 omega
theorem xQ{q:Int→Bool}(hm:∀t t',0≤t→t≤t'→t'≤1099511627776→q t=true→q t'=true)(h1:q 1099511627776=true):∀i,(∀t,0≤t→t<(bs q i).1→q t=false)∧q (bs q i).2=true
 |0=>⟨fun t h0 h=>absurd h (by simp only[bs];omega),h1⟩
 |i+1=>by
  obtain⟨g1,g2⟩:=xQ hm h1 i
  obtain⟨b1,b2,b3,_⟩:=nT q i
  rw[bs]
  cases hlt:decide ((bs q i).1<(bs q i).2)with
  |false=>exact⟨g1,g2⟩
  |true=>
   rw[Ze]at hlt
   cases hq:q (((bs q i).1+(bs q i).2)/2)with
   |true=>exact⟨g1,hq⟩
   |false=>
    refine⟨fun t h0 h=>?_,g2⟩
    cases ht:q t with
    |false=>rfl
    |true=>
     have h:t<((bs q i).1+(bs q i).2)/2+1:=h
     have:=hm t (((bs q i).1+(bs q i).2)/2) h0 (by omega) (by omega) ht
     rw[hq]at this;cases this
theorem yH{q:Int→Bool}(hm:∀t t',0≤t→t≤t'→t'≤1099511627776→q t=true→q t'=true)(h1:q 1099511627776=true):(∀t,0≤t→t<sO q→q t=false)∧q (sO q)=true∧0≤sO q∧sO q≤1099511627776:=by
 obtain⟨g1,g2⟩:=xQ hm h1 41
 obtain⟨b1,b2,b3,_⟩:=nT q 41
 have he:=wC q
 unfold sO
 exact⟨g1,by rw[he];exact g2,b1,by omega⟩
theorem xW{o d x:Int}(hk:mE o d=true)(h:x≤jP o d 1099511627776):(∀t,0≤t→t<rV o d x→jP o d t<x)∧x≤jP o d (rV o d x)∧0≤rV o d x∧rV o d x≤1099511627776:=by
 obtain⟨g1,g2,g3,g4⟩:=yH (q:=fun t=>decide (x≤jP o d t)) (fun t t' h0 h1 h2 h3=>by
  have:=tW hk h0 h1 h2
  simp only[Ze]at h3⊢
  omega) (Zc h)
 unfold rV
 rw[Zf (by omega)]
 simp only[Zu]
 refine⟨fun t h0 ht=>?_,ZE g2,g3,g4⟩
 have:=aak (g1 t h0 ht)
 omega
theorem uC{o d s t:Int}(hw:C2 o d s=0)(h1:Aa o d s≤t)(h2:t≤CR o d s)(h0:0≤t):mE o d=true∧0≤s∧s≤109951162∧t≤1099511627776∧s*10000+1020≤jP o d t∧jP o d t<s*10000+3221:=by
 unfold C2 at hw
 unfold Aa at h1
 unfold CR at h2
 cases hs:vC o d s with
 |false=>
  rw[hs]at hw
  have:=vW hs
  simp only[Zu]at hw
  exact absurd hw (aak this)
 |true=>
  obtain⟨k1,k2,k3,_⟩:=mj hs
  rw[hs]at hw h1 h2
  simp only[Zr,ZP]at hw h1 h2
  unfold rE at hw
  cases hd:decide (jP o d 1099511627776<s*10000+3221)with
  |true=>rw[hd]at hw;cases hw
  |false=>
   have hd:=aak hd
   rw[Zc (show s*10000+3221≤jP o d 1099511627776 by omega)]at h1 h2
   simp only[Zr]at h1 h2
   obtain⟨a1,a2,a3,a4⟩:=xW (x:=s*10000+1020) k1 (by omega)
   obtain⟨b1,b2,b3,b4⟩:=xW (x:=s*10000+3221) k1 (by omega)
   rw[ao (by omega) (by omega)]at h2
   refine⟨k1,k2,k3,by omega,?_,b1 t h0 (by omega)⟩
   have:=tW k1 a3 h1 (by omega)
   omega
theorem E4{o d s t:Int}(hw:C2 o d s=0)(h1:Aa o d s≤t)(h2:t≤CR o d s)(h0:0≤t):qx o d s t=jP o d t-(s*10000+2120)∧ -1100≤qx o d s t∧qx o d s t≤1100∧CO o d t=0∧Dd o d t=jP o d t:=by
 obtain⟨k1,k2,k3,k4,k5,k6⟩:=uC hw h1 h2 h0
 have e1:Nj o d s t=0:=by
  unfold Nj rO
  rw[k1,Zc k2,Zc k3,Zc h0,Zc k4];rfl
 have e2:CO o d t=0:=by
  unfold CO
  rw[k1,Zc h0,Zc k4];rfl
 have e3:qx o d s t=jP o d t-(s*10000+2120):=by
  unfold qx
  rw[e1]
  exact ao (by omega) (by omega)
 refine⟨e3,by omega,by omega,e2,?_⟩
 unfold Dd
 rw[e2];rfl
theorem px{f:Fi}{s:Int}{Z:List Ac}(h0:qA f s Z=0){i:Nat}{a:Ac}(ha:Z[i]?=some a)(hk:decide (a.kd=1)=true):a.s=(i:Int)∧zL a=0∧¬a.k=2:=by
 have h:=(iY h0).2.2.2 i a ha
 unfold CK at h
 have hk1:=ZE hk
 rw[Zf (show ¬a.kd=0 by omega),hk]at h
 simp only[Zu,Zr,abh,ZP]at h
 cases hc:(decide (a.of<0)||decide ((f.C.length:Int)≤a.of))with
 |true=>rw[hc]at h;cases h
 |false=>
  rw[hc]at h
  simp only[Zu]at h
  cases h1:decide (zL a=0)with
  |false=>rw[h1]at h;cases h
  |true=>
   cases h2:decide (a.k=2)with
   |true=>rw[h1,h2]at h;cases h
   |false=>
    cases h3:decide (a.s=(i:Int))with
    |false=>rw[h1,h2,h3]at h;cases h
    |true=>exact⟨ZE h3,ZE h1,aak h2⟩
theorem z7{f:Fi}{i:Nat}{p:Int×Int}(h:f.K[i]?=some p):dE f (i:Int)=p:=by
 unfold dE
 rw[ZX,Z7,h];rfl
theorem Cs{f:Fi}{s:Int}{Z:List Ac}(hp:xk f s Z=false){i:Nat}{a:Ac}(ha:Z[i]?=some a):tC f s i a=false:=by
 cases h:tC f s i a with
 |false=>rfl
 |true=>rw[vM ha h]at hp;cases hp
theorem AK{f:Fi}{s:Int}{Z:List Ac}(hp:xk f s Z=false){i:Nat}{a:Ac}(ha:Z[i]?=some a)(hk:decide (a.kd=1)=true):xa (dE f i).1 (dE f i).2 s=0∧E2 f s i a≤1099511627776:=by
 have h:=Cs hp ha
 unfold tC at h
 rw[hk]at h
 simp only[Zr,pg,aaw,abv,Ze,Zi]at h
 exact⟨h.1,by omega⟩
theorem Gn{f:Fi}{s:Int}{Z:List Ac}(hp:xk f s Z=false){i:Nat}{a:Ac}(ha:Z[i]?=some a)(hk:decide (a.kd=2)=true):C2 (dE f i).1 (dE f i).2 s=0:=by
 have h:=Cs hp ha
 unfold tC at h
 have hk1:=ZE hk
 rw[Zf (show ¬a.kd=1 by omega),hk]at h
 simp only[Zr,Zu,Cw,abv,Ze]at h
 exact h
theorem o0(f:Fi)(hb:Bd f)(s:Int)(Z:List Ac){k:Nat}{x:A.Em}(h:(jL f s Z)[k]?=some x):(eO f hb s Z).L[k]?=some x:=by
 obtain⟨D,Y,g⟩:=inv f hb s Z
 exact g.pre k x h
theorem AR(f:Fi)(hb:Bd f)(s:Int)(Z:List Ac){k j:Nat}{a:Ac}(h:(jL f s Z)[k]?=some (jb f s j a)):gZ (fun r=>decide (LA r=(j:Int))) (A.bM (eO f hb s Z).L)=(k:Int):=by
 refine jt (a:=A.qC (jb f s j a)) (by rw[A.tQ,o0 f hb s Z h];rfl) (Zc rfl) (fun q r hq hr=>?_)
 rw[A.tQ]at hr
 obtain⟨y,hy,rfl⟩:=Zb.1 hr
 refine Zf (fun e=>?_)
 have hkl:=(Y8.1 h).1
 obtain⟨y',hy'⟩:=bV (show q<(jL f s Z).length by omega)
 have:=o0 f hb s Z hy'
 rw[hy]at this
 cases this
 have e:y.n=(j:Int):=e
 have:=iV f s Z Z.length q k y (jb f s j a) hy' h (by rw[G3,e];omega)
 omega
theorem KP{f:Fi}{hb:Bd f}{s:Int}{Z:List Ac}{i:Nat}{r:Rs}(h0:qA f s Z=0)(hp:xk f s Z=false)(h:(gp f hb s Z)[i]?=some r)(hr:r.hd=true) :
 ∃(b a:Ac) (j k:Nat) (y:A.Em) (p:Int×Int),Z[i]?=some b∧b.kd=2∧Z[j]?=some a∧a.kd=1∧j<Z.length∧a.s=(j:Int)∧r=oI a r.er∧kR.oX f.v f.a f.b f.C s b.of=kR.oX f.v f.a f.b f.C s a.of∧ -1100≤r.er∧r.er≤1100∧
  IH f s j i=0∧PB f s j i=true∧gZ (fun r=>decide (LA r=(j:Int))) (A.bM (eO f hb s Z).L)=(k:Int)∧(eO f hb s Z).L[k]?=some y∧f.K[i]?=some p∧CO p.1 p.2 y.x=0∧r.er=bb (bb (Dd p.1 p.2 y.x-bb (s*10000))-2120)∧
  (jL f s Z).isEmpty=false:=by
 obtain⟨b,k,j,a,e1,e2,e3,e4,e5,e6,e7,e8,e9,tE,sS,FH,_⟩:=heard h hr
 obtain⟨g1,g2,g3,g4⟩:=iY h0
 have hil:=(Y8.1 e1).1
 have hjl:=(Y8.1 e4).1
 obtain⟨p,hpi⟩:=bV (show i<f.K.length by omega)
 have hc:=z7 hpi
 have hw:=Gn hp e1 e2
 have hs:=(AK hp e4 e5).1
 obtain⟨m1,m2,m3,m4,m5⟩:=E4 hw e8 e9 tE
 obtain⟨n1,n2,n3,n4,n5,n6⟩:=uC hw e8 e9 tE
 have her:r.er=xl f s i (jb f s j a):=by rw[e6];rfl
 have hE:IH f s j i=0:=by
  unfold IH D4
  rw[g1,g3,hs,hw,Zc (show(0:Int)≤(j:Int) by omega),Zc (show(0:Int)≤(i:Int) by omega),Zc (show(j:Int)<(f.K.length:Int) by omega),Zc (show(i:Int)<(f.K.length:Int) by omega)]
  rfl
 refine⟨b,a,j,k,jb f s j a,p,e1,ZE e2,e4,ZE e5,hjl,(px h0 e4 e5).1,?_,e7.symm,by rw[her];exact m2,by rw[her];exact m3,hE,?_,AR f hb s Z e3,o0 f hb s Z e3,hpi,?_,?_,?_⟩
 ·rw[her];exact e6
 ·unfold PB
  rw[hE,Zc (show Aa (dE f i).1 (dE f i).2 s≤qz (dE f j).1 (dE f j).2 s from e8),Zc (show qz (dE f j).1 (dE f j).2 s≤CR (dE f i).1 (dE f i).2 s from e9)]
  rfl
 ·rw[←hc];exact m4
 ·rw[her,←hc,m5]
  show qx _ _ _ _=_
  rw[m1]
  have hr:=EW n1 tE n4
  rw[ao (n:=s*10000) (by omega) (by omega),ao (n:=_-s*10000) (by omega) (by omega),ao (by omega) (by omega)]
  omega
 ·cases hq:jL f s Z with
  |nil=>rw[hq]at e3;cases e3
  |cons _ _=>rfl
theorem Xi(n b:Nat)(H:ab)(y:A.Em)(t:Int)(hb:H.bl[b]?=some (.box [acH t])):aa T (n+1) (.fn 26) [.agg (A.qC y),.ptr b 0 0 0] H=some (.bool (decide (y.n=t)),H):=by
 refine cU Xh rfl rfl (fun R k bl ro r hbl hk=>?_)
 obtain rfl:bl=H.bl:=by
  rcases hbl with⟨rfl,h0⟩|rfl
  ·simp[SV.refs.au,SV.refs]at h0
  ·rfl
 have hB:∀l:List aD,(H.bl++l)[b]?=some (.box [acH t]):=fun l=>fa hb
 simp only[Wa,aF,aB,aG,aE,az,av,ay,ax,bc,aS,bg,aU,aP,aT,aH,aQ,aJ,aI,aw,af,bK,bL,Za,Y9,Zk,go_sem,simprocAttr,hb,hB]
 exact hk _
theorem PQ(n b:Nat)(H:ab)(L:List A.Em)(f:Bool)(t:Int)(hL:L.length≤maxLen)(hb:H.bl[b]?=some (.box [acH t])) :
 aa T (n+2) (.fn 25) [.aA 4 (A.bM L) f,.fn 26 [.ptr b 0 0 0]] H=some (acH (gZ (fun r=>decide (LA r=t)) (A.bM L)),H):=
 pN (T:=T) (f:=25) (n:=n+1) (H:=H) (ag:=true) (z:=4) (id:=26) (caps:=[.ptr b 0 0 0]) (v:=.aA 4 (A.bM L) f) (L:=A.bM L) (p:=fun r=>decide (LA r=t)) TA (.aA 4 f (.inl rfl)) (xe L) (fun h=>by cases h) (by rw[A.dq];exact hL)
  (fun r hr bl ro hbl=>by
   simp only[A.bM,Z3]at hr
   obtain⟨y,_,rfl⟩:=hr
   rcases hbl with⟨_,_,h0⟩|rfl
   ·simp[SV.refs.au,SV.refs]at h0
   ·exact Xi n b ⟨H.bl,[],ro⟩ y t hb) (by
   have:=(Y8.1 hb).1
   simp[SV.refs.au,SV.refs];omega)
theorem s7(f:Fi)(s:Int)(Z:List Ac)(fl:Bool)(hS:f.S.length≤maxLen)(hZ:Z.length≤maxLen)(hq:Bq f):aa T 61 (.fn 7) [.agg (CU f s Z fl)] ah=some (.bool true,ah):=by
 have h10:=fun H=>U5 H
 have h12:=fun H=>S7 56 H f s Z fl hS hZ
 refine ae e7 (by rfl) ?_
 rcases Gl f hq s Z fl hZ with⟨e,he,h11⟩|⟨h0,hp,h32,hb,h11⟩
 ·have h11:=fun H=>h11 0 H
  simp only[aae]at h11
  cases hf:oK f&&kO Z<;>rw[hf]at h12<;>simp only[c7,ah,go_sem,simprocAttr,h10,h12,h11,he]
 ·have h11:=fun H=>h11 0 H
  simp only[aae]at h11
  cases hf:oK f&&kO Z with
  |false=>rw[hf]at h12;simp only[c7,ah,go_sem,simprocAttr,h10,h12,h11]
  |true=>
   obtain⟨hC,hA4,hx⟩:=s8 hf
   rw[hf]at h12
   have h20:=fun H=>Wo 49 H f s Z fl hb (by omega) (fun a ha=>ZN (hx a ha) (by decide))
   unfold Oo at h20
   rw[h0]at h20
   simp only[aaq,Zr]at h20
   obtain⟨lv,hlv⟩:∃lv,(bif (aW f s Z Z.length).isEmpty then SV.aA 0 [] true else .aA 4 (A.bM (eO f hb s Z).L) false)=lv:=⟨_,rfl⟩
   have hlr:lv.refs=0:=by rw[←hlv];cases(aW f s Z Z.length).isEmpty<;>rfl
   rw[hlv]at h11
   have lR:=vV f hb s Z
   obtain⟨R,hR⟩:∃R,gp f hb s Z=R:=⟨_,rfl⟩
   have hhd:=fun i r (h:(gp f hb s Z)[i]?=some r)=>KP h0 hp h
   have lL:=vP f hb s Z (by omega)
   rw[hR]at h11 lR hhd
   have lC:(iS (gr f s Z)).length=Z.length:=by simp[iS,gr]
   simp only[c7,ah,go_sem,simprocAttr,h10,h12,h11,h20,lC,lR,j7,aaq]
   refine bn (fun i=>([(1,.ptr 0 0 0 0),(3,.aA 15 (kM R) true),(4,lv),(6,.aA 1 (iS (gr f s Z)) false),(65,.aA 14 (oU Z) fl),(66,acH Z.length),(67,acH i)],⟨[.box (CU f s Z fl)],[],0⟩)) (fun _=>True) Z.length ?_ trivial ?_
   ·simp only[go_sem,simprocAttr,hlr]<;>rfl
   ·intro i hi _
    rcases Zl i Z.length with hlt|hge
    ·obtain⟨a,ha⟩:=bV hlt
     obtain⟨r,hr⟩:=bV (l:=R) (i:=i) (by omega)
     have hw:=bR hlt hZ
     have hiR:i<R.length:=by omega
     cases hk:r.hd with
     |false=>
      simp only[go_sem,simprocAttr,hlt,hiR,ha,hr,hk,hw,sf,hlr]
      exact⟨by first|trivial|omega,by first|trivial|rfl,trivial⟩
     |true=>
      obtain⟨b,a',j,k,y,p,e1,e2,e3,e4,e5,e6,e7,e8,e9,tE,sS,FH,C4,EY,IV,UR,SH,Pj⟩:=hhd i r hr hk
      rw[ha]at e1;cases e1
      have Pj:(aW f s Z Z.length).isEmpty=false:=Pj
      rw[Pj]at hlv
      simp only[Zu]at hlv
      subst hlv
      have hjR:j<R.length:=by omega
      have hkd:f.K.length=Z.length:=(iY h0).2.1.symm
      have hiK:i<f.K.length:=by omega
      obtain⟨L,hL⟩:∃L,(eO f hb s Z).L=L:=⟨_,rfl⟩
      rw[hL]at C4 EY lL⊢
      have hkl:=(Y8.1 EY).1
      obtain⟨E,hE⟩:∃E,r.er=E:=⟨_,rfl⟩
      rw[hE]at e7 e9 tE SH
      rw[e7]at hr
      have k1:decide (a.kd=2)=true:=Zc e2
      have k2:decide (a'.kd=1)=true:=Zc e4
      have hcj:(gr f s Z)[j]?=some (kR.oX f.v f.a f.b f.C s a'.of):=by
       simp only[gr,aat,e3,ZQ,G9,Zf (show ¬a'.kd=0 by omega),Zu]
      have hci:(gr f s Z)[i]?=some (kR.oX f.v f.a f.b f.C s a'.of):=by
       simp only[gr,aat,ha,ZQ,G9,Zf (show ¬a.kd=0 by omega),Zu,e8]
      have d1:decide ((j:Int)<0)=false:=Zf (by omega)
      have d2:decide ((Z.length:Int)≤(j:Int))=false:=Zf (by omega)
      have d3:decide ((1100:Int)<E)=false:=Zf (by omega)
      have d4:decide (E<(-1100:Int))=false:=Zf (by omega)
      have d5:decide ((k:Int)<0)=false:=Zf (by omega)
      have d6:decide (E=bb (bb (Dd p.1 p.2 y.x-bb (s*10000))-2120))=true:=Zc SH
      have h23:=fun H=>Yr 51 H f s j i hb
      rw[sS,FH]at h23
      have h25:=fun X Y es ro=>PQ 58 2 ⟨[X,Y,.box [acH (j:Int)]],es,ro⟩ L false j (ZN lL (by decide)) rfl
      rw[C4]at h25
      have h27:=fun H=>Xo 57 H p.1 p.2 y.x
      rw[UR]at h27
      simp only[go_sem,simprocAttr,hlt,e5,hiR,hjR,hiK,hkl,ha,hr,hw,k1,k2,e3,e6,EY,IV,hcj,hci,lC,lR,j7,G.aL,d1,d2,d3,d4,d5,d6,h23,h25,h27,aaq,oI,aaF,ZP,ZD,aai]
      exact⟨by first|trivial|omega,by first|trivial|rfl,trivial⟩
    ·obtain rfl:i=Z.length:=by omega
     have hlt:¬Z.length<Z.length:=by omega
     simp only[go_sem,simprocAttr,hlt]
theorem UQ(xs:List SV)(h:gw [FL] xs):∃m,aa T m (.fn 7) xs ah=some (.bool true,ah):=by
 obtain⟨x1,r1,rfl,h1,h⟩:=ji h
 cases kp h
 obtain⟨f,s,A,fl,rfl,hS,hA,hb⟩:=xc h1
 exact⟨61,s7 f s A fl hS hA hb⟩
end Go.Sh
