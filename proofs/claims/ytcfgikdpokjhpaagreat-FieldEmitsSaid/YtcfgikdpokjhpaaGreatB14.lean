/- A part of the proof: texts K19vx, K19vy, K19xa, K19xb. -/
import Derived.Test.YtcfgikdpokjhpaaGreatB10
import Derived.Test.YtcfgikdpokjhpaaGreatB13
namespace Go.Sh
set_option linter.unusedSectionVars false
set_option linter.unnecessarySimpa false
set_option linter.unusedSimpArgs false
set_option linter.unusedVariables false
set_option maxRecDepth 100000
set_option maxHeartbeats 4000000
theorem GH{a:Int}(h1: -4611686018427387904≤a)(h2:a≤4611686018427387904):Ex a=a/1000000000:=by
 unfold Ex
 rcases Int.lt_or_le a 0 with h|h
 ·obtain⟨b,rfl⟩:∃b,a= -b:=⟨-a,by omega⟩
  rw[Int.neg_tdiv,Int.neg_tmod,aaI (by omega),aaM (by omega)]
  cases hd:decide (-(b%1000000000)<0)with
  |true=>
   rw[Ze]at hd
   simp only[Zr]
   rw[ao (n:= -(b/1000000000)) (by omega) (by omega),ao (by omega) (by omega)];omega
  |false=>
   rw[Zi]at hd
   simp only[Zu]
   rw[ao (by omega) (by omega)];omega
 ·rw[aaI h,aaM h,Zf (show ¬a%1000000000<0 by omega)]
  simp only[Zu]
  exact ao (by omega) (by omega)
theorem BZ{o d:Int}(h:mE o d=true): -1099511627776≤o∧o≤1099511627776∧ -100000≤d∧d≤100000:=by
 unfold mE at h
 simp only[Zh,Ze]at h
 omega
theorem sb{t d:Int}(h0:0≤t)(h1: -100000≤d)(h2:d≤100000): -(t*100000)≤t*d∧t*d≤t*100000:=by
 have e1:=aaD h1 h0
 have e2:=aaD h2 h0
 rw[Int.mul_neg]at e1
 exact⟨e1,e2⟩
theorem wR{o d t:Int}(hk:mE o d=true)(h0:0≤t)(h1:t≤1099511627776):jP o d t=o+t+t*d/1000000000:=by
 obtain⟨k1,k2,k3,k4⟩:=BZ hk
 obtain⟨m1,m2⟩:=sb h0 k3 k4
 unfold jP
 rw[ao (n:=t*d) (by omega) (by omega),GH (by omega) (by omega),ao (n:=o+t) (by omega) (by omega),ao (by omega) (by omega)]
theorem tW{o d t t':Int}(hk:mE o d=true)(h0:0≤t)(h:t≤t')(h1:t'≤1099511627776):jP o d t≤jP o d t':=by
 rw[wR hk h0 (by omega),wR hk (by omega) h1]
 obtain⟨k1,k2,k3,k4⟩:=BZ hk
 obtain⟨m1,m2⟩:=sb (t:=t'-t) (by omega) k3 k4
 have:=Int.sub_mul t' t d
 omega
theorem EW{o d t:Int}(hk:mE o d=true)(h0:0≤t)(h1:t≤1099511627776): -4398046511104≤jP o d t∧jP o d t≤4398046511104:=by
 rw[wR hk h0 h1]
 obtain⟨k1,k2,k3,k4⟩:=BZ hk
 obtain⟨m1,m2⟩:=sb h0 k3 k4
 omega
theorem xQ{q:Int→Bool}(hm:∀t t',0≤t→t≤t'→t'≤1099511627776→q t=true→q t'=true)(h1:q 1099511627776=true):∀i,(∀t,0≤t→t<(bs q i).1→q t=false)∧q (bs q i).2=true
 |0=>⟨fun t h0 h=>absurd h (by simp only[bs];omega),h1⟩
 |i+1=>by
  obtain⟨g1,g2⟩:=xQ hm h1 i
  obtain⟨b1,b2,b3,_⟩:=nT q i
  rw[bs]
  cases hlt:decide ((bs q i).1<(bs q i).2)with
  |false=>exact⟨g1,g2⟩
  |true=>
   rw[Ze]at hlt
   cases hq:q (((bs q i).1+(bs q i).2)/2)with
   |true=>exact⟨g1,hq⟩
   |false=>
    refine⟨fun t h0 h=>?_,g2⟩
    cases ht:q t with
    |false=>rfl
    |true=>
     have h:t<((bs q i).1+(bs q i).2)/2+1:=h
     have:=hm t (((bs q i).1+(bs q i).2)/2) h0 (by omega) (by omega) ht
     rw[hq]at this;cases this
theorem yH{q:Int→Bool}(hm:∀t t',0≤t→t≤t'→t'≤1099511627776→q t=true→q t'=true)(h1:q 1099511627776=true):(∀t,0≤t→t<sO q→q t=false)∧q (sO q)=true∧0≤sO q∧sO q≤1099511627776:=by
 obtain⟨g1,g2⟩:=xQ hm h1 41
 obtain⟨b1,b2,b3,_⟩:=nT q 41
 have he:=wC q
 unfold sO
 exact⟨g1,by rw[he];exact g2,b1,by omega⟩
theorem xW{o d x:Int}(hk:mE o d=true)(h:x≤jP o d 1099511627776):(∀t,0≤t→t<rV o d x→jP o d t<x)∧x≤jP o d (rV o d x)∧0≤rV o d x∧rV o d x≤1099511627776:=by
 obtain⟨g1,g2,g3,g4⟩:=yH (q:=fun t=>decide (x≤jP o d t)) (fun t t' h0 h1 h2 h3=>by
  have:=tW hk h0 h1 h2
  simp only[Ze]at h3⊢
  omega) (Zc h)
 unfold rV
 rw[Zf (by omega)]
 simp only[Zu]
 refine⟨fun t h0 ht=>?_,ZE g2,g3,g4⟩
 have:=aak (g1 t h0 ht)
 omega
theorem uC{o d s t:Int}(hw:C2 o d s=0)(h1:Aa o d s≤t)(h2:t≤CR o d s)(h0:0≤t):mE o d=true∧0≤s∧s≤109951162∧t≤1099511627776∧s*10000+1020≤jP o d t∧jP o d t<s*10000+3221:=by
 unfold C2 at hw
 unfold Aa at h1
 unfold CR at h2
 cases hs:vC o d s with
 |false=>
  rw[hs]at hw
  have:=vW hs
  simp only[Zu]at hw
  exact absurd hw (aak this)
 |true=>
  obtain⟨k1,k2,k3,_⟩:=mj hs
  rw[hs]at hw h1 h2
  simp only[Zr,ZP]at hw h1 h2
  unfold rE at hw
  cases hd:decide (jP o d 1099511627776<s*10000+3221)with
  |true=>rw[hd]at hw;cases hw
  |false=>
   have hd:=aak hd
   rw[Zc (show s*10000+3221≤jP o d 1099511627776 by omega)]at h1 h2
   simp only[Zr]at h1 h2
   obtain⟨a1,a2,a3,a4⟩:=xW (x:=s*10000+1020) k1 (by omega)
   obtain⟨b1,b2,b3,b4⟩:=xW (x:=s*10000+3221) k1 (by omega)
   rw[ao (by omega) (by omega)]at h2
   refine⟨k1,k2,k3,by omega,?_,b1 t h0 (by omega)⟩
   have:=tW k1 a3 h1 (by omega)
   omega
theorem E4{o d s t:Int}(hw:C2 o d s=0)(h1:Aa o d s≤t)(h2:t≤CR o d s)(h0:0≤t):qx o d s t=jP o d t-(s*10000+2120)∧ -1100≤qx o d s t∧qx o d s t≤1100∧CO o d t=0∧Dd o d t=jP o d t:=by
 obtain⟨k1,k2,k3,k4,k5,k6⟩:=uC hw h1 h2 h0
 have e1:Nj o d s t=0:=by
  unfold Nj rO
  rw[k1,Zc k2,Zc k3,Zc h0,Zc k4];rfl
 have e2:CO o d t=0:=by
  unfold CO
  rw[k1,Zc h0,Zc k4];rfl
 have e3:qx o d s t=jP o d t-(s*10000+2120):=by
  unfold qx
  rw[e1]
  exact ao (by omega) (by omega)
 refine⟨e3,by omega,by omega,e2,?_⟩
 unfold Dd
 rw[e2];rfl
theorem px{f:Fi}{s:Int}{Z:List Ac}(h0:qA f s Z=0){i:Nat}{a:Ac}(ha:Z[i]?=some a)(hk:decide (a.kd=1)=true):a.s=(i:Int)∧zL a=0∧¬a.k=2:=by
 have h:=(iY h0).2.2.2 i a ha
 unfold CK at h
 have hk1:=ZE hk
 rw[Zf (show ¬a.kd=0 by omega),hk]at h
 simp only[Zu,Zr,abh,ZP]at h
 cases hc:(decide (a.of<0)||decide ((f.C.length:Int)≤a.of))with
 |true=>rw[hc]at h;cases h
 |false=>
  rw[hc]at h
  simp only[Zu]at h
  cases h1:decide (zL a=0)with
  |false=>rw[h1]at h;cases h
  |true=>
   cases h2:decide (a.k=2)with
   |true=>rw[h1,h2]at h;cases h
   |false=>
    cases h3:decide (a.s=(i:Int))with
    |false=>rw[h1,h2,h3]at h;cases h
    |true=>exact⟨ZE h3,ZE h1,aak h2⟩
theorem z7{f:Fi}{i:Nat}{p:Int×Int}(h:f.K[i]?=some p):dE f (i:Int)=p:=by
 unfold dE
 rw[ZX,Z7,h];rfl
theorem Cs{f:Fi}{s:Int}{Z:List Ac}(hp:xk f s Z=false){i:Nat}{a:Ac}(ha:Z[i]?=some a):tC f s i a=false:=by
 cases h:tC f s i a with
 |false=>rfl
 |true=>rw[vM ha h]at hp;cases hp
theorem AK{f:Fi}{s:Int}{Z:List Ac}(hp:xk f s Z=false){i:Nat}{a:Ac}(ha:Z[i]?=some a)(hk:decide (a.kd=1)=true):xa (dE f i).1 (dE f i).2 s=0∧E2 f s i a≤1099511627776:=by
 have h:=Cs hp ha
 unfold tC at h
 rw[hk]at h
 simp only[Zr,pg,aaw,abv,Ze,Zi]at h
 exact⟨h.1,by omega⟩
theorem Gn{f:Fi}{s:Int}{Z:List Ac}(hp:xk f s Z=false){i:Nat}{a:Ac}(ha:Z[i]?=some a)(hk:decide (a.kd=2)=true):C2 (dE f i).1 (dE f i).2 s=0:=by
 have h:=Cs hp ha
 unfold tC at h
 have hk1:=ZE hk
 rw[Zf (show ¬a.kd=1 by omega),hk]at h
 simp only[Zr,Zu,Cw,abv,Ze]at h
 exact h
theorem o0(f:Fi)(hb:Bd f)(s:Int)(Z:List Ac){k:Nat}{x:A.Em}(h:(jL f s Z)[k]?=some x):(eO f hb s Z).L[k]?=some x:=by
 obtain⟨D,Y,g⟩:=inv f hb s Z
 exact g.pre k x h
theorem AR(f:Fi)(hb:Bd f)(s:Int)(Z:List Ac){k j:Nat}{a:Ac}(h:(jL f s Z)[k]?=some (jb f s j a)):gZ (fun r=>decide (LA r=(j:Int))) (A.bM (eO f hb s Z).L)=(k:Int):=by
 refine jt (a:=A.qC (jb f s j a)) (by rw[A.tQ,o0 f hb s Z h];rfl) (Zc rfl) (fun q r hq hr=>?_)
 rw[A.tQ]at hr
 obtain⟨y,hy,rfl⟩:=Zb.1 hr
 refine Zf (fun e=>?_)
 have hkl:=(Y8.1 h).1
 obtain⟨y',hy'⟩:=bV (show q<(jL f s Z).length by omega)
 have:=o0 f hb s Z hy'
 rw[hy]at this
 cases this
 have e:y.n=(j:Int):=e
 have:=iV f s Z Z.length q k y (jb f s j a) hy' h (by rw[G3,e];omega)
 omega
theorem KP{f:Fi}{hb:Bd f}{s:Int}{Z:List Ac}{i:Nat}{r:Rs}(h0:qA f s Z=0)(hp:xk f s Z=false)(h:(gp f hb s Z)[i]?=some r)(hr:r.hd=true) :
 ∃(b a:Ac) (j k:Nat) (y:A.Em) (p:Int×Int),Z[i]?=some b∧b.kd=2∧Z[j]?=some a∧a.kd=1∧j<Z.length∧a.s=(j:Int)∧r=oI a r.er∧kR.oX f.v f.a f.b f.C s b.of=kR.oX f.v f.a f.b f.C s a.of∧ -1100≤r.er∧r.er≤1100∧
  IH f s j i=0∧PB f s j i=true∧gZ (fun r=>decide (LA r=(j:Int))) (A.bM (eO f hb s Z).L)=(k:Int)∧(eO f hb s Z).L[k]?=some y∧f.K[i]?=some p∧CO p.1 p.2 y.x=0∧r.er=bb (bb (Dd p.1 p.2 y.x-bb (s*10000))-2120)∧
  (jL f s Z).isEmpty=false:=by
 obtain⟨b,k,j,a,e1,e2,e3,e4,e5,e6,e7,e8,e9,tE,sS,FH,_⟩:=heard h hr
 obtain⟨g1,g2,g3,g4⟩:=iY h0
 have hil:=(Y8.1 e1).1
 have hjl:=(Y8.1 e4).1
 obtain⟨p,hpi⟩:=bV (show i<f.K.length by omega)
 have hc:=z7 hpi
 have hw:=Gn hp e1 e2
 have hs:=(AK hp e4 e5).1
 obtain⟨m1,m2,m3,m4,m5⟩:=E4 hw e8 e9 tE
 obtain⟨n1,n2,n3,n4,n5,n6⟩:=uC hw e8 e9 tE
 have her:r.er=xl f s i (jb f s j a):=by rw[e6];rfl
 have hE:IH f s j i=0:=by
  unfold IH D4
  rw[g1,g3,hs,hw,Zc (show(0:Int)≤(j:Int) by omega),Zc (show(0:Int)≤(i:Int) by omega),Zc (show(j:Int)<(f.K.length:Int) by omega),Zc (show(i:Int)<(f.K.length:Int) by omega)]
  rfl
 refine⟨b,a,j,k,jb f s j a,p,e1,ZE e2,e4,ZE e5,hjl,(px h0 e4 e5).1,?_,e7.symm,by rw[her];exact m2,by rw[her];exact m3,hE,?_,AR f hb s Z e3,o0 f hb s Z e3,hpi,?_,?_,?_⟩
 ·rw[her];exact e6
 ·unfold PB
  rw[hE,Zc (show Aa (dE f i).1 (dE f i).2 s≤qz (dE f j).1 (dE f j).2 s from e8),Zc (show qz (dE f j).1 (dE f j).2 s≤CR (dE f i).1 (dE f i).2 s from e9)]
  rfl
 ·rw[←hc];exact m4
 ·rw[her,←hc,m5]
  show qx _ _ _ _=_
  rw[m1]
  have hr:=EW n1 tE n4
  rw[ao (n:=s*10000) (by omega) (by omega),ao (n:=_-s*10000) (by omega) (by omega),ao (by omega) (by omega)]
  omega
 ·cases hq:jL f s Z with
  |nil=>rw[hq]at e3;cases e3
  |cons _ _=>rfl
theorem tR(f:Fi)(s:Int)(Z:List Ac):∀(i j:Nat) (a:Ac),j<i→Z[j]?=some a→decide (a.kd=1)=true→jb f s j a∈aW f s Z i
 |0,j,a,h,_,_=>by omega
 |i+1,j,a,h,ha,hk=>by
  unfold aW
  by_cases hj:j=i
  ·subst hj
   rw[ha]
   simp only[hk,Zr]
   exact aa5 _ (aab.2 rfl)
  ·have ih:=tR f s Z i j a (by omega) ha hk
   split
   ·rename_i b _
    cases decide (b.kd=1)
    ·exact ih
    ·exact aas _ ih
   ·exact ih
theorem pJ{f:Fi}{hb:Bd f}{s:Int}{Z:List Ac}{D:Nat→Nat→Prop}{Y:Int}{st:St}(g:lF f hb s Z D Y st){q:Nat}{y:A.Em}(hy:st.L[q]?=some y) :
 (q<(jL f s Z).length∧(jL f s Z)[q]?=some y∧∃(j:Nat) (a:Ac),Z[j]?=some a∧decide (a.kd=1)=true∧y=jb f s j a)∨
 (∃(k i:Nat) (x:A.Em),(jL f s Z)[k]?=some x∧y=vD x i∧Ak f s Z st q k i∧Hd f hb s Z D Y st k i):=by
 rcases Zl q (jL f s Z).length with h|h
 ·obtain⟨x,hx⟩:=bV h
  have:=g.pre q x hx
  rw[hy]at this
  cases this
  obtain⟨j,a,_,h2,h3,h4⟩:=ep f s Z Z.length q y hx
  exact .inl ⟨h,hx,j,a,h2,h3,h4⟩
 ·obtain⟨k,i,h1,h2⟩:=g.Ek q h (Y8.1 hy).1
  have h1':=h1
  obtain⟨x,a,e1,e2,e3,e4,e5,e6⟩:=h1
  rw[hy]at e4;cases e4
  exact .inr ⟨k,i,x,e1,rfl,h1',h2⟩
theorem Ik{f:Fi}{hb:Bd f}{s:Int}{Z:List Ac}{D:Nat→Nat→Prop}{Y:Int}{st:St}(g:lF f hb s Z D Y st){q q':Nat}{y y':A.Em}(hy:st.L[q]?=some y)(hy':st.L[q']?=some y')(hn:y.n=y'.n):q=q':=by
 have mix:∀{j i k:Nat} {a:Ac} {x:A.Em},Z[j]?=some a→decide (a.kd=1)=true→Hd f hb s Z D Y st k i→(j:Int)≠(i:Int):=fun ha hk ⟨_,_,b,_,_,_,_,h3,h4,_⟩ e=>by
  have e:=ab7 e
  subst e
  rw[ha]at h3;cases h3
  rw[Ze]at hk h4
  omega
 rcases pJ g hy with⟨h1,h2,j,a,h3,h4,rfl⟩|⟨k,i,x,h1,rfl,h3,h4⟩<;>rcases pJ g hy' with⟨h1',h2',j',a',h3',h4',rfl⟩|⟨k',i',x',h1',rfl,h3',h4'⟩
 ·refine iV f s Z Z.length q q' _ _ h2 h2' ?_
  rw[hn]
 ·exact absurd hn (mix (x:=x') h3 h4 h4')
 ·exact absurd hn.symm (mix (x:=x) h3' h4' h4)
 ·have hn:(i:Int)=(i':Int):=hn
  have hn:=ab7 hn
  subst hn
  have:=h4.uniq h4'
  subst this
  obtain⟨x1,_,e1,_,_,_,e5,_⟩:=h3
  obtain⟨x2,_,d1,_,_,_,d5,_⟩:=h3'
  rw[e1]at d1;cases d1
  rw[e5]at d5
  injection d5 with d5
  injection d5 with d5 _
  exact ab7 d5
theorem Ax{f:Fi}{hb:Bd f}{s:Int}{Z:List Ac}(h0:qA f s Z=0)(hp:xk f s Z=false){q:Nat}{y:A.Em}(hy:(eO f hb s Z).L[q]?=some y) :
 (∃(j:Nat) (a:Ac),Z[j]?=some a∧decide (a.kd=1)=true∧y=jb f s j a∧xa (dE f j).1 (dE f j).2 s=0∧zL a=0)∨
 (∃(i:Nat) (b:Ac) (r:Rs),Z[i]?=some b∧decide (b.kd=2)=true∧y.n=(i:Int)∧(gp f hb s Z)[i]?=some r∧r.hd=true∧r.d=(i:Int)∧bb (y.y-y.x)=832∧
  ∃z∈(eO f hb s Z).L,z.n=r.s∧bb (z.y+1000)=y.x∧z.c=y.c):=by
 obtain⟨D,Y,g⟩:=inv f hb s Z
 rcases pJ g hy with⟨_,_,j,a,h3,h4,rfl⟩|⟨k,i,x,h1,rfl,⟨x1,a,e1,e2,e3,e4,e5,e6⟩,h4⟩
 ·exact .inl ⟨j,a,h3,h4,rfl,(AK hp h3 h4).1,(px h0 h3 h4).2.1⟩
 ·rw[h1]at e1;cases e1
  obtain⟨x2,a2,b,L0,E,d1,d2,d3,d4,d5,d6,d7,d8,d9,d10,d11⟩:=h4
  rw[h1]at d1;cases d1
  rw[e2]at d2;cases d2
  obtain⟨k1,hx⟩:=sy h1 e2
  have hem:=uX ((iR (kg d8).1).2.2 k x d9)
  have hs:=(px h0 e2 k1).1
  have hxn:(x.n.toNat:Int)=x.n:=by rw[hx,G3];rfl
  have w1:bb (x.y+1000)=x.y+1000:=ao (by omega) (by omega)
  refine .inr ⟨i,b,_,d3,d4,rfl,(mP (qS d3 d4)).trans d6,rfl,e3,?_,x,Zj (g.pre k x h1),?_,rfl,rfl⟩
  ·show bb (bb (bb (x.y+1000)+832)-bb (x.y+1000))=832
   rw[w1,ao (n:=x.y+1000+832) (by omega) (by omega),ao (by omega) (by omega)]
   omega
  ·show x.n=a.s
   omega
theorem D9{f:Fi}{hb:Bd f}{s:Int}{Z:List Ac}(h0:qA f s Z=0)(hp:xk f s Z=false){q:Nat}{y:A.Em}(hy:(eO f hb s Z).L[q]?=some y):0≤y.n∧y.n<(Z.length:Int):=by
 rcases Ax h0 hp hy with⟨j,a,h1,_,rfl,_⟩|⟨i,b,r,h1,_,h3,_⟩
 ·have:=(Y8.1 h1).1
  show(0:Int)≤(j:Int)∧(j:Int)<_
  omega
 ·have:=(Y8.1 h1).1
  omega
theorem GP{f:Fi}{hb:Bd f}{s:Int}{Z:List Ac}(h0:qA f s Z=0)(hp:xk f s Z=false){i:Nat}{a:Ac}{r:Rs}(ha:Z[i]?=some a)(hr:(gp f hb s Z)[i]?=some r) :
 (decide (a.kd=1)||(r.hd&&decide (r.d=(i:Int))))=decide ((i:Int)∈(eO f hb s Z).L.map fun y=>y.n):=by
 rw[aam]
 simp only[Z6,Zh,Ze,Z3]
 constructor
 ·rintro(h|⟨h1,h2⟩)
  ·have hm:=tR f s Z Z.length i a (Y8.1 ha).1 ha (Zc h)
   obtain⟨k,hk⟩:=ZH hm
   exact⟨_,Zj (o0 f hb s Z hk),rfl⟩
  ·obtain⟨b,k,j,a',e1,e2,e3,e4,e5,e6,_,_,_,_,_,_,C4⟩:=heard hr h1
   obtain⟨p,h3,_⟩:=C4 (by rw[e6]at h2;exact h2)
   exact⟨_,Zj h3,rfl⟩
 ·rintro⟨y,hy,hn⟩
  obtain⟨q,hq⟩:=ZH hy
  rcases Ax h0 hp hq with⟨j,a',h1,h2,rfl,_⟩|⟨i',b,r',h1,_,h3,h4,h5,h6,_⟩
  ·have e:=ab7 (show(j:Int)=(i:Int)from hn)
   subst e
   rw[ha]at h1;cases h1
   exact .inl (ZE h2)
  ·have e:=ab7 (show(i':Int)=(i:Int) by omega)
   subst e
   rw[hr]at h4;cases h4
   exact .inr ⟨h5,h6⟩
def qG(K:List Int):List (SV×SV):=K.map fun k=>(acH k,.bool true)
theorem FT{k:Int}:∀{K:List Int} (i:Nat),k∈K→∃j,gk .i (acH k) (qG K) i=some (some (j,.bool true))
 |[],_,h=>by cases h
 |q::K,i,h=>by
  simp only[qG,ZO,qk,rn,ZV]
  cases hd:decide (k=q)with
  |true=>exact⟨i,rfl⟩
  |false=>
   rcases ZU.1 h with h1|h1
   ·exact absurd h1 (aak hd)
   ·exact FT (K:=K) (i+1) h1
theorem vK{k:Int}:∀{K:List Int} (i:Nat),k∉K→gk .i (acH k) (qG K) i=some none
 |[],_,_=>rfl
 |q::K,i,h=>by
  simp only[qG,ZO,qk,rn,ZV]
  rw[Zf (fun e=>h (by rw[e];exact ZI))]
  exact vK (K:=K) (i+1) (fun h1=>h (ZS _ h1))
theorem zd{L:List A.Em}{q:Nat}{y:A.Em}(hy:L[q]?=some y):qG ((L.take q).map fun y=>y.n)++[(acH y.n,.bool true)]=qG ((L.take (q+1)).map fun y=>y.n):=by
 rw[aaE,hy]
 simp[qG]
def toE:List SV→A.Em
 |[.int _ a,.int _ b,.int _ c,.int _ d]=>⟨a,b,c,d⟩
 |_=>⟨0,0,0,0⟩
theorem Rg(n id:Nat)(H:ab)(L:List A.Em)(f:Bool)(caps:List SV)(P:A.Em→Bool)(hL:L.length≤maxLen)(hr:SV.refs.au caps≤H.bl.length)(h0:SV.refs.au caps≠0)
 (hc:∀z ro,aa T n (.fn id) (.agg (A.qC z)::caps) ⟨H.bl,[],ro⟩=some (.bool (P z),⟨H.bl,[],ro⟩)) :
 aa T (n+2) (.fn 15) [.aA 4 (A.bM L) f,.fn id caps] H=some (.bool (L.any P),H):=by
 have h:=gK (T:=T) (f:=15) (n:=n) (H:=H) (ag:=true) (z:=4) (id:=id) (caps:=caps) (v:=.aA 4 (A.bM L) f) (L:=A.bM L) (p:=fun r=>P (toE r)) Wn TA (.aA 4 f (.inl rfl)) (xe L) (fun h=>by cases h) (by rw[A.dq];exact hL)
  (fun r hr bl ro hbl=>by
   simp only[A.bM,Z3]at hr
   obtain⟨y,_,rfl⟩:=hr
   rcases hbl with⟨_,_,h1⟩|rfl
   ·exact absurd h1 h0
   ·exact hc y ro) hr
 rw[h,A.bM,acy]
 rfl
def CG(r:Rs)(y z:A.Em):Bool:=decide (z.n=r.s)&&(decide (bb (z.y+1000)=y.x)&&decide (z.c=y.c))
theorem XI(n b1 b2:Nat)(H:ab)(r:Rs)(y z:A.Em)(h1:H.bl[b1]?=some (.box (BU r)))(h2:H.bl[b2]?=some (.box (A.qC y))) :
 aa T (n+1) (.fn 16) [.agg (A.qC z),.ptr b1 0 0 0,.ptr b2 0 0 0] H=some (.bool (CG r y z),H):=by
 refine cU UR rfl rfl (fun R k bl ro r' hbl hk=>?_)
 obtain rfl:bl=H.bl:=by
  rcases hbl with⟨rfl,h0⟩|rfl
  ·simp[SV.refs.au,SV.refs]at h0
  ·rfl
 have hB1:∀l:List aD,(H.bl++l)[b1]?=some (.box (BU r)):=fun l=>fa h1
 have hB2:∀l:List aD,(H.bl++l)[b2]?=some (.box (A.qC y)):=fun l=>fa h2
 unfold CG at hk
 cases d1:decide (z.n=r.s)with
 |false=>
  rw[d1]at hk
  simp only[Py,aF,aB,aG,aE,az,av,ay,ax,bc,aS,bg,aU,aP,aT,aH,aQ,aJ,aI,aw,af,bK,bL,Za,Y9,Zk,go_sem,simprocAttr,h1,h2,hB1,hB2,d1]
  exact hk _
 |true=>
  rw[d1]at hk
  cases d2:decide (bb (z.y+1000)=y.x)with
  |false=>
   rw[d2]at hk
   simp only[Py,aF,aB,aG,aE,az,av,ay,ax,bc,aS,bg,aU,aP,aT,aH,aQ,aJ,aI,aw,af,bK,bL,Za,Y9,Zk,go_sem,simprocAttr,h1,h2,hB1,hB2,d1,d2]
   exact hk _
  |true=>
   rw[d2]at hk
   simp only[Py,aF,aB,aG,aE,az,av,ay,ax,bc,aS,bg,aU,aP,aT,aH,aQ,aJ,aI,aw,af,bK,bL,Za,Y9,Zk,go_sem,simprocAttr,h1,h2,hB1,hB2,d1,d2]
   exact hk _
theorem Bb(rec:Rec)(e:Env)(H:ab)(N o:Nat)(t:LK)(ok:Bool)(z:SV)(x k:bU):bY rec N ⟨.jE,[],0,o⟩ e H (.kf t ok z x k)=aq rec e H (.kf t ok z x k):=by
 show(jz t ok z ⟨H.bl,[],H.bl.length⟩ (ev e k) (ev e x)).bind _=jz t ok z H (ev e k) (ev e x)
 cases ev e x with
 |mp b=>
  simp only[jz]
  rw[show bk ⟨H.bl,[],H.bl.length⟩ b=bk H b from rfl]
  cases bk H b with
  |none=>rfl
  |some B=>
   cases B with
   |map es=>
    simp only
    cases isKey (ev e k)with
    |false=>rfl
    |true=>
     simp only[Zr]
     cases gk t (ev e k) es 0 with
     |none=>rfl
     |some r=>simp
   |_=>rfl
 |_=>rfl
theorem E6{f:Fi}{hb:Bd f}{s:Int}{Z:List Ac}(h:(aW f s Z Z.length).isEmpty=true):(eO f hb s Z).L=[]:=by
 have hnil:=List.isEmpty_iff.1 h
 unfold eO;rw[hnil];rfl
theorem s3(f:Fi)(s:Int)(Z:List Ac)(fl:Bool)(hS:f.S.length≤maxLen)(hZ:Z.length≤maxLen)(hq:Bq f):aa T 61 (.fn 3) [.agg (CU f s Z fl)] ah=some (.bool true,ah):=by
 have h10:=fun H=>U5 H
 have h12:=fun H=>S7 56 H f s Z fl hS hZ
 refine ae e3 (by rfl) ?_
 rcases Gl f hq s Z fl hZ with⟨e,he,h11⟩|⟨h0,hp,h32,hb,h11⟩
 ·have h11:=fun H=>h11 0 H
  simp only[aae]at h11
  cases hf:oK f&&kO Z<;>rw[hf]at h12<;>simp only[c3,ah,go_sem,simprocAttr,h10,h12,h11,he]
 ·have h11:=fun H=>h11 0 H
  simp only[aae]at h11
  have lR:=vV f hb s Z
  obtain⟨zz,ff,hlv,h4⟩:∃zz ff,(bif (aW f s Z Z.length).isEmpty then SV.aA 0 [] true else .aA 4 (A.bM (eO f hb s Z).L) false)=.aA zz (A.bM (eO f hb s Z).L) ff∧((eO f hb s Z).L.length≠0→zz=4∧ff=false):=by
   cases hn:(aW f s Z Z.length).isEmpty with
   |true=>rw[E6 hn];exact⟨0,true,rfl,fun h=>absurd rfl h⟩
   |false=>exact⟨4,false,rfl,fun _=>⟨rfl,rfl⟩⟩
  rw[hlv]at h11
  have hem:=fun q y (h:(eO f hb s Z).L[q]?=some y)=>Ax h0 hp h
  have hnd:=fun q y (h:(eO f hb s Z).L[q]?=some y)=>D9 h0 hp h
  have hwho:=fun i a r (h1:Z[i]?=some a) (h2:(gp f hb s Z)[i]?=some r)=>GP h0 hp h1 h2
  have hinj:∀{q q':Nat} {y y':A.Em},(eO f hb s Z).L[q]?=some y→(eO f hb s Z).L[q']?=some y'→y.n=y'.n→q=q':=by
   obtain⟨D,Y,g⟩:=inv f hb s Z
   exact fun h1 h2 h3=>Ik g h1 h2 h3
  have lL:=vP f hb s Z (by omega)
  obtain⟨R,hR⟩:∃R,gp f hb s Z=R:=⟨_,rfl⟩
  obtain⟨L,hL⟩:∃L,(eO f hb s Z).L=L:=⟨_,rfl⟩
  rw[hR]at h11 lR hem hwho
  rw[hL]at h11 h4 hem hnd hwho lL
  simp only[hL]at hinj
  cases hf:oK f&&kO Z with
  |false=>
   rw[hf]at h12
   cases z1:decide ((Z.length:Int)=0)<;>cases z2:decide ((L.length:Int)=0)<;>simp only[c3,ah,go_sem,simprocAttr,h10,h12,h11,j7,A.dq,lR,z1,z2]
  |true=>
   rw[hf]at h12
   have hkd:f.K.length=Z.length:=(iY h0).2.1.symm
   simp only[c3,ah,go_sem,simprocAttr,h10,h12,h11,j7,A.dq,lR,G.aL,hkd,aaq]
   have hRi:∀{i:Nat} {r:Rs},R[i]?=some r→i<R.length:=fun h=>(Y8.1 h).1
   refine bn (fun q=>([(1,.ptr 0 0 0 0),(3,.aA 15 (kM R) true),(4,.aA zz (A.bM L) ff),(6,.mp 1),(70,.aA zz (A.bM L) ff),(71,acH L.length),(72,acH q)],⟨[.box (CU f s Z fl),.map (qG ((L.take q).map fun y=>y.n))],[],0⟩)) (fun _=>True) L.length ?_ trivial ?_
   ·simp only[go_sem,simprocAttr]<;>rfl
   ·intro q hi _
    rcases Zl q L.length with hlt|hge
    ·obtain⟨rfl,rfl⟩:=h4 (by omega)
     obtain⟨y,hy⟩:=bV hlt
     have hw:=bR hlt (ZN lL (by decide))
     obtain⟨n0,n1⟩:=hnd q y hy
     obtain⟨j,hj⟩:∃j:Nat,y.n=(j:Int):=⟨y.n.toNat,by omega⟩
     have hjl:j<Z.length:=by omega
     have hjR:j<R.length:=by omega
     have hjK:j<f.K.length:=by omega
     have d1:decide ((j:Int)<0)=false:=Zf (by omega)
     have d2:decide ((Z.length:Int)≤(j:Int))=false:=Zf (by omega)
     have hfr:(j:Int)∉(L.take q).map fun y=>y.n:=fun h=>by
      obtain⟨y',h1,h2⟩:=Z3.1 h
      obtain⟨q',hq'⟩:=ZH h1
      rw[ZC]at hq'
      split at hq'
      ·have:=hinj hq' hy (by rw[hj];exact h2)
       omega
      ·cases hq'
     have hm:=vK 0 hfr
     have hsn:=zd hy
     rw[hj]at hsn
     obtain⟨p,hpj⟩:=bV hjK
     have hck:=z7 hpj
     have h13:=fun H=>Xx 55 H p.1 p.2 s
     rcases hem q y hy with⟨j',a,e1,e2,e3,e4,e5⟩|⟨i,b,r,e1,e2,e3,e4,e5,e6,e7,z,e8,e9,tE,sS⟩
     ·have hjj:j'=j:=by
       have:y.n=(j':Int):=by rw[e3];rfl
       omega
      subst hjj
      rw[hck]at e4
      have ex:y.x=qz p.1 p.2 s:=by rw[e3,←hck];rfl
      have ey:y.y=bb (qz p.1 p.2 s+Fk a):=by rw[e3,←hck];rfl
      have h14:=fun H=>XT 54 H a
      rw[e5]at h14
      rw[e4]at h13
      simp only[go_sem,simprocAttr,hlt,hjl,hjR,hjK,hy,hj,d1,d2,hm,wu,hsn,e1,e2,j7,A.dq,lR,G.aL,hkd,hpj,h13,h14,ex,ey,hw,aaq]
      exact⟨by first|trivial|omega,by first|trivial|rfl,trivial⟩
     ·have hjj:i=j:=by omega
      subst hjj
      have hany:(L.any (CG r y))=true:=aav.2 ⟨z,e8,by unfold CG;rw[Zc e9,Zc tE,Zc sS];rfl⟩
      have k2:=ZE e2
      have d3:decide (b.kd=1)=false:=Zf (by omega)
      have h15:=fun X M B ro=>Rg 58 16 ⟨[X,M,.box (A.qC y),B,.box (BU r)],[],ro⟩ L false [.ptr 4 0 0 0,.ptr 2 0 0 0] (CG r y) (ZN lL (by decide)) (by simp[SV.refs.au,SV.refs]) (by simp[SV.refs.au,SV.refs]) (fun z ro=>XI 57 4 2 _ r y z rfl rfl)
      rw[hany]at h15
      obtain⟨yn,yc,yx,yy⟩:=y
      obtain⟨ak,hd,rk,rs,rd,rq,ro,rc,rm,re,rt,ru,rv,rx,er⟩:=r
      simp only at e3 e5 e6 e7 hj
      subst e3 e5 e6
      simp only[go_sem,simprocAttr,hlt,hjl,hjR,hjK,hy,d1,d2,d3,hm,wu,hsn,e1,e2,e4,j7,A.dq,lR,h15,e7,hw,aaq,aai]
      exact⟨by first|trivial|omega,by first|trivial|rfl,trivial⟩
    ·obtain rfl:q=L.length:=by omega
     have hlt:¬L.length<L.length:=by omega
     rw[aaj]
     simp only[go_sem,simprocAttr,hlt]
     refine bn (fun i=>([(3,.aA 15 (kM R) true),(6,.mp 1),(180,.aA 14 (oU Z) fl),(181,acH Z.length),(182,acH i)],⟨[.box (CU f s Z fl),.map (qG (L.map fun y=>y.n))],[],0⟩)) (fun _=>True) Z.length ?_ trivial ?_
     ·simp only[go_sem,simprocAttr]<;>rfl
     ·intro i hi _
      rcases Zl i Z.length with hlt|hge
      ·obtain⟨a,ha⟩:=bV hlt
       obtain⟨r,hr⟩:=bV (l:=R) (i:=i) (by omega)
       have hiR:i<R.length:=by omega
       have hw:=bR hlt hZ
       have hwi:=hwho i a r ha hr
       obtain⟨B,hmf,hB⟩:∃B:Option (Nat×SV),gk .i (acH (i:Int)) (qG (L.map fun y=>y.n)) 0=some B∧((∃j,B=some (j,.bool true))∧decide ((i:Int)∈L.map fun y=>y.n)=true∨B=none∧decide ((i:Int)∈L.map fun y=>y.n)=false):=by
        cases hm:decide ((i:Int)∈L.map fun y=>y.n)with
        |true=>obtain⟨j,hj⟩:=FT 0 (ZE hm);exact⟨_,hj,.inl ⟨⟨j,rfl⟩,rfl⟩⟩
        |false=>exact⟨_,vK 0 (aak hm),.inr ⟨rfl,rfl⟩⟩
       rcases hB with⟨⟨jj,rfl⟩,hm⟩|⟨rfl,hm⟩<;>cases c1:decide (a.kd=1)<;>cases c2:r.hd<;>cases c3:decide (r.d=(i:Int))<;>rw[hm,c1,c2,c3]at hwi
       all_goals first
        |exact absurd hwi (by decide)
        |(simp only[go_sem,simprocAttr,hlt,hiR,ha,hr,hmf,hw,c1,c2,c3,Bb,tZ,tO]
          exact⟨by first|trivial|omega,by first|trivial|rfl,trivial⟩)
      ·obtain rfl:i=Z.length:=by omega
       have hlt:¬Z.length<Z.length:=by omega
       simp only[go_sem,simprocAttr,hlt]
theorem S3(xs:List SV)(h:gw [FL] xs):∃m,aa T m (.fn 3) xs ah=some (.bool true,ah):=by
 obtain⟨x1,r1,rfl,h1,h⟩:=ji h
 cases kp h
 obtain⟨f,s,A,fl,rfl,hS,hA,hb⟩:=xc h1
 exact⟨61,s3 f s A fl hS hA hb⟩
end Go.Sh
