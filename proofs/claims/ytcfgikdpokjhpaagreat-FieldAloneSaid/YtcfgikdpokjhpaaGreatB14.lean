/- A part of the proof: texts K19xd, K19xe. -/
import Derived.Test.YtcfgikdpokjhpaaGreatB13
namespace Go.Sh
set_option linter.unusedSectionVars false
set_option linter.unnecessarySimpa false
set_option linter.unusedSimpArgs false
set_option linter.unusedVariables false
set_option maxRecDepth 100000
set_option maxHeartbeats 4000000
section
def ml(f:Fi)(x y:Int):Bool:=decide (bb (f.th*f.no)≤bb (G.p7 (G.atR f.W f.ex) f.N f.P x y*1000))
theorem MX{f:Fi}(h:okF f=true):(1000≤f.th∧f.th≤100000)∧1≤f.no∧f.no≤68719476736:=by
 unfold okF at h
 simp only[acw]at h
 have h:=h.1.1.1.1
 simp only[G.gh,G.okB,G.mK,acw,acr]at h
 omega
theorem tq{f:Fi}{hb:Bd f}(h:okF f=true)(hF:f.F=[]){e:A.Em}(he:A.vj e=true){k:Nat}(hn:0≤e.n)(hnl:e.n<(f.N.length:Int))(hk:k<f.N.length) :
 A.sig (dZ f hb) e k=G.p7 (G.atR f.W f.ex) f.N f.P e.n k∧G.cM (G.p7 (G.atR f.W f.ex) f.N f.P e.n k)=true:=by
 have hok:=qa (hb:=hb) h
 unfold okF at h
 simp only[acw]at h
 have hin:G.pC f.N e.n k=true:=by
  unfold G.pC
  rw[acp hn,acp hnl,acp (show(0:Int)≤(k:Int) by omega),acp (show(k:Int)<(f.N.length:Int) by omega)];rfl
 have hp:=(G.uq (W:=f.W) (ex:=f.ex) h.1.1.1.1 hin).2
 refine⟨?_,hp⟩
 have he2:=qn he
 have hc:(U.cr e.c&&U.BT e.x)=true:=by
  unfold A.vj at he
  simp only[acw]at he
  rw[he.1.1.1]
  unfold U.BT
  rw[acp he2.1,acp (show e.x≤1099511627776 by omega)];rfl
 unfold A.sig
 rw[hok]
 show U.V3 true (G.pC f.N e.n k) (U.cr e.c&&U.BT e.x) (U.Ca (G.p7 (G.atR f.W f.ex) f.N f.P e.n k) (U.Bc (U.z7 e.n k e.c e.x) f.F))=_
 rw[hin,hc,hF]
 show U.Ca (G.p7 (G.atR f.W f.ex) f.N f.P e.n k) 1000=_
 unfold G.cM at hp
 simp only[acw,acr]at hp
 unfold U.Ca
 rw[al (n:=_*1000) (by omega) (by omega),Int.mul_tdiv_cancel _ (by decide),al (by omega) (by omega)]
theorem sJ{f:Fi}{hb:Bd f}(hS:f.S=[])(e:A.Em)(k:Int):A.ext (dZ f hb) e k=0:=by
 unfold A.ext U.V3
 cases(A.eN (dZ f hb)&&U.eA (dZ f hb).N.length k&&(U.cr e.c&&U.BY e.x e.y))with
 |false=>rfl
 |true=>
  show U.EP (U.FA f.N f.P f.W f.ex f.no f.th k.toNat) f.S e.c e.x e.y=0
  rw[hS];rfl
theorem qV{f:Fi}{hb:Bd f}(h:okF f=true){p:Int}(hp:G.cM p=true):A.wJ (dZ f hb) p 0=decide (bb (f.th*f.no)≤bb (p*1000)):=by
 obtain⟨t1,n1,n2⟩:=MX h
 have hp2:=hp
 unfold G.cM at hp2
 simp only[acw,acr]at hp2
 have hm:f.th*f.no≤100000*68719476736:=Int.mul_le_mul t1.2 n2 (by omega) (by omega)
 have hm0:0≤f.th*f.no:=afQ (by omega) (by omega)
 rw[al (n:=f.th*f.no) (by omega) (by omega),al (n:=p*1000) (by omega) (by omega)]
 unfold A.wJ A.R4
 show decide (0≤bif G.cM p&&(decide (1000≤f.th)&&decide (f.th≤100000)&&decide (1≤f.no)&&decide (f.no≤68719476736))then max (bb ((bb ((bb (1000*p)).tdiv f.th))-f.no)) (-1)else 0)=_
 rw[hp,acp t1.1,acp t1.2,acp n1,acp n2]
 simp only[acW,acG]
 have hq0:0≤(1000*p)/f.th:=Int.ediv_nonneg (by omega) (by omega)
 have hq1:(1000*p)/f.th≤1000*p:=Int.ediv_le_self _ (by omega)
 rw[al (n:=1000*p) (by omega) (by omega),ad4 (by omega),al (n:=1000*p/f.th) (by omega) (by omega),al (by omega) (by omega),aeg]
 have key:f.no≤1000*p/f.th↔f.no*f.th≤1000*p:=Int.le_ediv_iff_mul_le (by omega)
 rw[afy f.no f.th]at key
 have:(0≤max (1000*p/f.th-f.no) (-1))↔f.no≤1000*p/f.th:=by omega
 rw[this,key,afy p 1000]
section
variable{f:Fi}{hb:Bd f}{s:Int}{Z:List Ac}{a b:Nat}{A' B:Ac}
theorem vI(ha:Z[a]?=some A')(kA:decide (A'.kd=1)=true)(hO:∀(i:Nat) (c:Ac),Z[i]?=some c→i≠a→decide (c.kd=1)=false):∀i,aW f s Z i=if a<i then[et f s a A']else[]
 |0=>by rw[if_neg (by omega)];rfl
 |i+1=>by
  have ih:=vI ha kA hO i
  unfold aW
  by_cases hi:i=a
  ·subst hi
   rw[ha,ih,if_neg (by omega),if_pos (by omega)]
   simp only[kA,acG];rfl
  ·cases hz:Z[i]? with
   |none=>
    simp only
    rw[ih]
    by_cases h:a<i
    ·rw[if_pos h,if_pos (by omega)]
    ·rw[if_neg h,if_neg (by omega)]
   |some c=>
    simp only[hO i c hz hi,acJ]
    rw[ih]
    by_cases h:a<i
    ·rw[if_pos h,if_pos (by omega)]
    ·rw[if_neg h,if_neg (by omega)]
theorem sN{x:A.Em}{j:Nat}{st:St}(hO:∀(i:Nat) (c:Ac),Z[i]?=some c→i≠b→decide (c.kd=2)=false):∀i,fH f hb s Z x j A' st i=if b<i then dS f hb s Z x j A' st b else st
 |0=>by rw[if_neg (by omega)];rfl
 |i+1=>by
  have ih:=sN (x:=x) (j:=j) (st:=st) hO i
  show dS f hb s Z x j A' (fH f hb s Z x j A' st i) i=_
  rw[ih]
  by_cases hi:i=b
  ·subst hi
   rw[if_neg (by omega),if_pos (by omega)]
  ·have hs:∀t,dS f hb s Z x j A' t i=t:=fun t=>by
    unfold dS
    cases hz:Z[i]? with
    |none=>rfl
    |some c=>simp only[hO i c hz hi,ac3,acJ]
   rw[hs]
   by_cases h:b<i
   ·rw[if_pos h,if_pos (by omega)]
   ·rw[if_neg h,if_neg (by omega)]
end
theorem alone{f:Fi}{hb:Bd f}{s:Int}{Z:List Ac}{a b:Nat}{A' B:Ac}(h0:jr f s Z=0)(hp:o9 f s Z=false)(hS:f.S=[])(hF:f.F=[])(ha:Z[a]?=some A')(kA:A'.kd=1)(hbz:Z[b]?=some B)(kB:B.kd=2)
 (hd:A'.d=(b:Int)) (ho:A'.of=B.of) (hab:a≠b) (hO:∀(i:Nat) (c:Ac),Z[i]?=some c→i≠a→i≠b→c.kd=0) :
 Lb f s a b=0∧∃ra rb,(fe f hb s Z)[a]?=some ra∧(fe f hb s Z)[b]?=some rb∧rb.hd=(BX f s a b&&ml f a b)∧ra.ak=((BX f s a b&&ml f a b)&&ml f b a):=by
 have kA1:decide (A'.kd=1)=true:=acp kA
 have kB2:decide (B.kd=2)=true:=acp kB
 obtain⟨g1,g2,g3,_⟩:=cF h0
 obtain⟨l1,l2,l3⟩:=iW g1
 have hal:=(acm.1 ha).1
 have hbl:=(acm.1 hbz).1
 have hsn:=(yu hp ha kA1).1
 have hwn:=CK hp hbz kB2
 have hE:Lb f s a b=0:=by
  unfold Lb Gb
  rw[g1,g3,hsn,hwn,acp (show(0:Int)≤(a:Int) by omega),acp (show(0:Int)≤(b:Int) by omega),acp (show(a:Int)<(f.K.length:Int) by omega),acp (show(b:Int)<(f.K.length:Int) by omega)]
  rfl
 refine⟨hE,?_⟩
 have hO1:∀(i:Nat) (c:Ac),Z[i]?=some c→i≠a→decide (c.kd=1)=false:=fun i c hc hi=>by
  by_cases h:i=b
  ·subst h;rw[hbz]at hc;cases hc;exact acs (by omega)
  ·have:=hO i c hc hi h;exact acs (by omega)
 have hO2:∀(i:Nat) (c:Ac),Z[i]?=some c→i≠b→decide (c.kd=2)=false:=fun i c hc hi=>by
  by_cases h:i=a
  ·subst h;rw[ha]at hc;cases hc;exact acs (by omega)
  ·have:=hO i c hc h hi;exact acs (by omega)
 obtain⟨x,hx⟩:∃x,et f s a A'=x:=⟨_,rfl⟩
 have hxn:x.n.toNat=a:=by rw[←hx];exact GL
 have hxi:x.n=(a:Int):=by rw[←hx];rfl
 have har:aW f s Z Z.length=[x]:=by rw[vI ha kA1 hO1,if_pos hal,hx]
 obtain⟨hxe,_,_⟩:=xJ h0 hp ha kA1
 obtain⟨hke,hk1,hk2⟩:=De h0 hp ha kA1 b hd
 rw[hx]at hxe hke hk1 hk2
 have hord:eg [x]=[0]:=Q.ma _ 0
 have hst:cS f hb s Z=dS f hb s Z x a A' (ks [x] Z.length) b:=by
  unfold cS
  rw[har,hord]
  show dh f hb s Z [x] (ks [x] Z.length) 0=_
  unfold dh
  simp only[List.getElem?_cons_zero,hxn,ha]
  rw[sN hO2,if_pos hbl]
 have hfr:fe f hb s Z=iu f hb (cS f hb s Z) [x] (cS f hb s Z).R 0:=by
  unfold fe
  rw[har,hord];rfl
 have hgi:∃D Y,gp f hb s Z D Y (ks (dD f s Z) Z.length):=⟨_,0,gp.zero f hb s Z 0⟩
 obtain⟨D0,Y0,gi⟩:=hgi
 have hh:=Cf h0 hp gi hbz kB2
 have hsl:(ks (dD f s Z) Z.length).L=[x]:=har
 rw[hsl]at hh
 obtain⟨p1,p2⟩:=tq (hb:=hb) g1 hF hxe (k:=b) (by omega) (by omega) (by omega)
 obtain⟨p3,p4⟩:=tq (hb:=hb) g1 hF hke (k:=a) (by show(0:Int)≤(b:Int);omega) (by show(b:Int)<_;omega) (by omega)
 have hrec:A.fk (dZ f hb) [x] 0 x b=ml f a b:=by
  unfold A.fk
  have e1:A.fU [x] x b=true:=by
   unfold A.fU
   simp only[afj,List.any_nil,hxi,acs (show ¬(a:Int)=(b:Int) by omega),ac3,aeA,adU]
  have e2:A.inter (dZ f hb) [x] 0 x b=0:=by
   unfold A.inter
   simp only[acR,acV,adr,A.jt,List.getElem?_cons_zero,A.jd,afX,decide_true,adp,ac3,acJ]
   exact sJ hS x b
  rw[e1,e2,p1,qV g1 p2,hxi];rfl
 have hxc:x.c=(gL f s b B).c:=by rw[←hx];show fN.lK f.v f.a f.b f.C s A'.of=fN.lK f.v f.a f.b f.C s B.of;rw[ho]
 have hxx:x.x=nn (cT f a).1 (cT f a).2 s:=by rw[←hx];rfl
 have hcn:BX f s a b=(!decide (x.x<(gL f s b B).x)&&!decide ((gL f s b B).y<x.x)):=by
  unfold BX
  rw[hE,hxx]
  show(true&&(decide (BP (cT f b).1 (cT f b).2 s≤nn (cT f a).1 (cT f a).2 s)&&decide (nn (cT f a).1 (cT f a).2 s≤Cg (cT f b).1 (cT f b).2 s)))=(!decide (nn (cT f a).1 (cT f a).2 s<BP (cT f b).1 (cT f b).2 s)&&!decide (Cg (cT f b).1 (cT f b).2 s<nn (cT f a).1 (cT f a).2 s))
  rw[adz]
  simp only[ac9,acw,acr,ac8,acx]
  omega
 have hhe:A.iy (dZ f hb) [x] (gL f s b B) 1=bif BX f s a b&&ml f a b then some 0 else none:=by
  have hr':A.fk (dZ f hb) [x] 0 x (gL f s b B).n=ml f a b:=hrec
  unfold A.iy A.iy A.xE
  simp only[List.getElem?_cons_zero,hr',hxc,decide_true,ac9,hcn,adU,aeq]
 have hq0:(List.replicate Z.length ((-1:Int),(0:Int)))[a]?=some (-1,0):=by rw[adX,if_pos hal]
 have hr0a:(List.replicate Z.length mj)[a]?=some mj:=by rw[adX,if_pos hal]
 have hr0b:(List.replicate Z.length mj)[b]?=some mj:=by rw[adX,if_pos hbl]
 have hhs:iV (dZ f hb) [x] (gL f s b B)=bif BX f s a b&&ml f a b then some 0 else none:=hh.trans hhe
 have hhd:BS [x] (iV (dZ f hb) [x] (gL f s b B)) x=(BX f s a b&&ml f a b):=by
  rw[hhs]
  cases BX f s a b&&ml f a b with
  |false=>rfl
  |true=>exact zJ x
 obtain⟨C,hC⟩:∃C,(BX f s a b&&ml f a b)=C:=⟨_,rfl⟩
 rw[hC]at hhd⊢
 have hst2:cS f hb s Z=bif C then⟨[x]++[gC x b],(List.replicate Z.length mj).set b (oN A' (tK f s b x)),(List.replicate Z.length ((-1:Int),(0:Int))).set a ((1:Int),tK f s b x)⟩else ks [x] Z.length:=by
  rw[hst]
  unfold dS
  simp only[hbz,kB2,ac9]
  show(bif BS [x] (iV (dZ f hb) [x] (gL f s b B)) x then _ else _)=_
  rw[hhd,acp hd]
  cases C<;>rfl
 rw[hfr]
 unfold iu
 simp only[List.getElem?_cons_zero,hxn]
 cases C with
 |false=>
  simp only[acJ]at hst2
  rw[hst2]
  have hqz:(ks [x] Z.length).Q[a]?=some (-1,0):=hq0
  simp only[hqz,show decide ((-1:Int)<0)=true from rfl,acG]
  exact⟨mj,mj,hr0a,hr0b,rfl,rfl⟩
 |true=>
  simp only[acG]at hst2
  have hrv:nK (dZ f hb) (cS f hb s Z).L 1 a=ml f b a:=by
   obtain⟨D,Y,g⟩:=inv f hb s Z
   have hac:A.pr (A.eN (dZ f hb)) (dZ f hb).N.length (cS f hb s Z).L=0:=zr h0 hp g
   have hL:(cS f hb s Z).L=[x,gC x b]:=by rw[hst2];rfl
   unfold nK A.Ap
   rw[hac,hL]
   have e1:decide (((([x,gC x b]:List A.Em)).length:Int)≤1)=false:=rfl
   have e2:decide ((a:Int)<0)=false:=acs (by omega)
   have e3:decide (((dZ f hb).N.length:Int)≤(a:Int))=false:=acs (by show ¬((f.N.length:Int)≤(a:Int));omega)
   rw[e1,e2,e3]
   simp only[decide_true,acG,aeA,acJ,show decide ((1:Int)<0)=false from rfl]
   show A.fk (dZ f hb) [x,gC x b] 1 (gC x b) a=_
   unfold A.fk
   have f1:A.fU [x,gC x b] (gC x b) a=true:=by
    unfold A.fU A.vk
    simp only[afj,List.any_nil,hxi,decide_true,ac9,aer]
    rw[acs (show ¬max x.x (gC x b).x<min x.y (gC x b).y by omega),acs (show ¬(gC x b).n=(a:Int) by show ¬(b:Int)=(a:Int);omega)]
    rfl
   have f2:A.inter (dZ f hb) [x,gC x b] 1 (gC x b) a=0:=by
    unfold A.inter
    simp only[acR,acV,adr,Nat.reduceAdd,A.jt,List.getElem?_cons_zero,aeE,A.jd,hxi,decide_true,adp,ac3,adk,acJ]
    exact sJ hS _ a
   rw[f1,f2,p3,qV g1 p4];rfl
  rw[hst2]
  have hqa:((List.replicate Z.length ((-1:Int),(0:Int))).set a ((1:Int),tK f s b x))[a]?=some (1,tK f s b x):=acM (by simpa using hal)
  rw[hst2]at hrv
  simp only[hqa,show decide ((1:Int)<0)=false from rfl,acJ,hrv]
  have hRb:((List.replicate Z.length mj).set b (oN A' (tK f s b x)))[b]?=some (oN A' (tK f s b x)):=acM (by simpa using hbl)
  have hRa:((List.replicate Z.length mj).set b (oN A' (tK f s b x)))[a]?=some mj:=by rw[acv (Ne.symm hab)];exact hr0a
  cases ml f b a with
  |false=>exact⟨mj,_,hRa,hRb,rfl,rfl⟩
  |true=>exact⟨_,_,acM (by simpa using hal),by rw[acG,acv hab];exact hRb,rfl,rfl⟩
end
theorem ZP(n:Nat)(H:ab)(f:Fi)(hb:Bd f)(x y:Int)(h:okF f=true)(hin:G.pC f.N x y=true):aa T (n+8) (.fn 24) [G.st f.N f.P f.W f.f1 f.f2 f.f3 f.ex f.no f.th,af5 x,af5 y] H=some (.bool (ml f x y),H):=by
 have h68:=fun H=>G.s68 n H f.N f.P f.W f.f1 f.f2 f.f3 f.ex f.no f.th x y hb.N hb.W
 unfold okF at h
 simp only[acw]at h
 rw[h.1.1.1.1,hin]at h68
 unfold G.o5 G.vE at h68
 simp only[acW,acG]at h68
 unfold ml
 refine ae e24 (by rfl) ?_
 simp only[YZ,ah,go_sem,simprocAttr,h68]
def SL(o a b:Int):Ac:=⟨1,o,4,a,b,0,0,0,0,0,0,0,0,⟨⟨[]⟩⟩⟩
def Wa(o:Int):Ac:=⟨2,o,0,0,0,0,0,0,0,0,0,0,0,⟨⟨[]⟩⟩⟩
def Fk(n:Nat)(o:Int)(a b:Nat):List Ac:=((List.replicate n Dj).set a (SL o a b)).set b (Wa o)
theorem Gs(n:Nat)(o:Int)(a b:Nat):ic (Fk n o a b)=((List.replicate n (zT Dj)).set a (zT (SL o a b))).set b (zT (Wa o)):=by
 simp only[ic,Fk,afO,List.map_replicate]
theorem Ar(n:Nat)(o:Int)(a b:Nat):(Fk n o a b).length=n:=by simp[Fk]
abbrev Iq:List SV:=[af6,af6,af6,af6,af6,af6,af6,af6,af6,af6,af6,af6,af6,.str ⟨⟨[]⟩⟩]
theorem Wz(n:Nat)(hn:n≤1000)(H:ab):kK 14 [af6,af6,af6,af6,af6,af6,af6,af6,af6,af6,af6,af6,af6,.str ⟨⟨[]⟩⟩] 120 H (af5 n) (af5 n)=some (.bn H.bl.length 0 0 n,bJ H (.arr 0 14 (List.replicate n Iq) true)):=by
 have h1:decide ((n:Int)*((120:Nat):Int)≤(bV:Int))=true:=acp (by have:(bV:Int)=1099511627776:=rfl;omega)
 have h2:decide ((0:Int)≤(n:Int))=true:=acp (by omega)
 have h3:decide ((n:Int)≤(n:Int))=true:=acp (by omega)
 simp only[kK,h1,h2,h3,acW,acG,adl]
theorem Ek{n:Int}(h:(Lit.int .u8 n).wf=true):∃m:Nat,n=m∧m<256:=by
 simp only[Lit.wf,acw,acr]at h
 have h1:IntKind.u8.min=0:=rfl
 have h2:IntKind.u8.max=255:=rfl
 exact⟨n.toNat,by omega,by omega⟩
theorem s6(f:Fi)(s:Int)(Z:List Ac)(fl:Bool)(u v w:Nat)(hu:u<256)(hv:v<256)(hw:w<256)(hS:f.S.length≤maxLen)(hZ:Z.length≤maxLen)(hq:Bq f) :
 aa T 61 (.fn 6) [.agg (By f s Z fl),.int .u8 u,.int .u8 v,.int .u8 w] ah=some (.bool true,ah):=by
 have h10:=fun H=>Rb H
 have h12:=fun H=>RJ 56 H f s Z fl hS hZ
 refine ae e6 (by rfl) ?_
 cases hf:oT f&&lD Z with
 |false=>rw[hf]at h12;simp only[c6,ah,go_sem,simprocAttr,h10,h12]
 |true=>
  obtain⟨hC,hA4,hx⟩:=qw hf
  have hb:=hq.d (by omega)
  rw[hf]at h12
  have h22:=fun H=>YT 52 H f hb
  unfold vo at h22
  cases hok:okF f with
  |false=>rw[hok]at h22;simp only[c6,ah,go_sem,simprocAttr,h10,h12,h22]
  |true=>
   rw[hok]at h22
   obtain⟨l1,l2,l3⟩:=iW hok
   have hK0:decide ((f.K.length:Int)=0)=false:=acs (by omega)
   cases hc0:decide ((f.C.length:Int)=0)with
   |true=>simp only[c6,ah,go_sem,simprocAttr,h10,h12,h22,G.aM,hK0,hc0]
   |false=>
    have hc0':=adi hc0
    have i1:IntKind.i64.wrap (u:Int)=(u:Int):=al (by omega) (by omega)
    have i2:IntKind.i64.wrap (v:Int)=(v:Int):=al (by omega) (by omega)
    have i3:IntKind.i64.wrap (w:Int)=(w:Int):=al (by omega) (by omega)
    have m1:∀(k:Nat) (m:Nat),(k:Int).tmod (m:Int)=((k%m:Nat):Int):=fun k m=>by rw[adY (by omega)];rfl
    have mw:∀(k m:Nat),k<256→bb ((k%m:Nat):Int)=((k%m:Nat):Int):=fun k m hk=>al (by omega) (by have:=Nat.mod_le k m;omega)
    obtain⟨a,ha⟩:∃a,u%f.K.length=a:=⟨_,rfl⟩
    obtain⟨b,hbb⟩:∃b,v%f.K.length=b:=⟨_,rfl⟩
    obtain⟨o,ho⟩:∃o,w%f.C.length=o:=⟨_,rfl⟩
    have hal:a<f.K.length:=by rw[←ha];exact afo _ (by omega)
    have hbl:b<f.K.length:=by rw[←hbb];exact afo _ (by omega)
    have mu:=mw u f.K.length hu
    have mv:=mw v f.K.length hv
    have mo:=mw w f.C.length hw
    rw[ha]at mu
    rw[hbb]at mv
    rw[ho]at mo
    cases hab:decide ((a:Int)=(b:Int))with
    |true=>
     simp only[c6,ah,go_sem,simprocAttr,h10,h12,h22,G.aM,hK0,hc0,i1,i2,i3,m1,ha,hbb,ho,mu,mv,mo,hab]
    |false=>
     have hab':a≠b:=fun e=>by subst e;simp at hab
     have hmk:=Wz f.K.length (by omega)
     have hra:(List.replicate f.K.length Iq)[a]?=some Iq:=by rw[adX,if_pos hal]
     have hrb:∀X,((List.replicate f.K.length Iq).set a X)[b]?=some Iq:=fun X=>by rw[acv hab',adX,if_pos hbl]
     have hln:∀X,((List.replicate f.K.length Iq).set a X).length=f.K.length:=fun X=>by simp
     have hln0:(List.replicate f.K.length Iq).length=f.K.length:=by simp
     have ca:((List.replicate f.K.length Iq).set a [af5 1,af5 o,af5 4,af5 a,af5 b,af6,af6,af6,af6,af6,af6,af6,af6,.str ⟨⟨[]⟩⟩]).set b [af5 2,af5 o,af6,af6,af6,af6,af6,af6,af6,af6,af6,af6,af6,.str ⟨⟨[]⟩⟩]=ic (Fk f.K.length o a b):=(Gs _ _ _ _).symm
     have hfz:=fun B ex es=>HP B (Fk f.K.length o a b) ex f.K.length (Ar _ _ _ _) es
     have hzl:=Ar f.K.length o a b
     obtain⟨W,hW⟩:∃W,Fk f.K.length o a b=W:=⟨_,rfl⟩
     have hWa:W[a]?=some (SL o a b):=by
      rw[←hW,Fk,acv (Ne.symm hab'),acM (by simpa using hal)]
     have hWb:W[b]?=some (Wa o):=by
      rw[←hW,Fk,acM (by simpa using hbl)]
     have hWo:∀(i:Nat) (c:Ac),W[i]?=some c→i≠a→i≠b→c.kd=0:=fun i c hc h1 h2=>by
      rw[←hW,Fk,acv (Ne.symm h2),acv (Ne.symm h1)]at hc
      have:=acy hc
      simp only[aeO]at this
      rw[this.2];rfl
     rw[hW]at ca hfz hzl
     obtain⟨g,hg⟩:∃g:Fi,g=⟨f.N,f.P,f.W,f.f1,f.f2,f.f3,f.ex,f.no,f.th,[],true,[],true,f.K,f.h1,f.v,f.a,f.b,f.C,f.h2⟩:=⟨_,rfl⟩
     have hqg:Bq g:=by rw[hg];exact⟨hq.N,hq.P,hq.W,⟨aei _,fun s h=>by cases h⟩,aei _,hq.K,hq.C⟩
     have hfi:tS g=[.ao 2 (G.dt f.N) f.f1,.ao 1 (G.cY f.P) f.f2,.ao 5 (G.eX f.W) f.f3,af5 f.ex,af5 f.no,af5 f.th,.ao 7 [] true,.ao 6 [] true,.ao 2 (G.dt f.K) f.h1,af5 f.v,af5 f.a,af5 f.b,.ao 1 (iS f.C) f.h2]:=by rw[hg];rfl
     have hK:g.K.length=f.K.length:=by rw[hg]
     rcases GP g hqg s W false (by rw[hzl];exact hq.K)with⟨e,he,h11⟩|⟨h0,hp,h32,hbg,h11⟩
     ·have h11:=fun H=>h11 0 H
      rw[hfi]at h11
      simp only[adr]at h11
      have h23:=fun H (hbg:Bd g)=>Yw 51 H g s a b hbg
      rw[hfi]at h23
      have h23:=fun H=>h23 H (hqg.d (by rw[hg];exact ac7 hC (by decide)))
      simp only[c6,ah,go_sem,simprocAttr,h10,h12,h22,G.aM,hK0,hc0,i1,i2,i3,m1,ha,hbb,ho,mu,mv,mo,hab,hmk,hal,hbl,hln0,hln,hra,hrb,ca,hfz,h11,h23,he]
     ·have h11:=fun H=>h11 0 H
      rw[hfi]at h11
      simp only[adr]at h11
      obtain⟨lv,hlv⟩:∃lv,(bif (aW g s W W.length).isEmpty then SV.ao 0 [] true else .ao 4 (A.br (cS g hbg s W).L) false)=lv:=⟨_,rfl⟩
      rw[hlv]at h11
      have hlr:lv.refs=0:=by rw[←hlv];cases(aW g s W W.length).isEmpty<;>rfl
      obtain⟨hE,ra,rb,e1,e2,e3,e4⟩:=alone (hb:=hbg) h0 hp (by rw[hg]) (by rw[hg]) hWa rfl hWb rfl rfl rfl hab' hWo
      have hokg:=(cF h0).1
      have hin:∀{x y:Nat},x<f.K.length→y<f.K.length→G.pC g.N x y=true:=fun{x y} h1 h2=>by
       obtain⟨q1,_,_⟩:=iW hokg
       unfold G.pC
       rw[acp (show(0:Int)≤(x:Int) by omega),acp (show(x:Int)<(g.N.length:Int) by omega),acp (show(0:Int)≤(y:Int) by omega),acp (show(y:Int)<(g.N.length:Int) by omega)];rfl
      have h23:=fun H=>Yw 51 H g s a b hbg
      rw[hfi,hE]at h23
      have h24:=fun H=>ZP 52 H g hbg a b hokg (hin hal hbl)
      have h24':=fun H=>ZP 52 H g hbg b a hokg (hin hbl hal)
      have hst:G.st g.N g.P g.W g.f1 g.f2 g.f3 g.ex g.no g.th=.agg [.ao 2 (G.dt f.N) f.f1,.ao 1 (G.cY f.P) f.f2,.ao 5 (G.eX f.W) f.f3,af5 f.ex,af5 f.no,af5 f.th]:=by rw[hg]
      rw[hst]at h24 h24'
      have lR:=rj g hbg s W
      rw[hzl]at lR
      obtain⟨R,hR⟩:∃R,fe g hbg s W=R:=⟨_,rfl⟩
      rw[hR]at h11 lR e1 e2
      have haR:a<R.length:=by omega
      have hbR:b<R.length:=by omega
      cases c1:BX g s a b<;>cases c2:ml g a b<;>cases c3:ml g b a<;>rw[c1,c2]at e3<;>rw[c1,c2,c3]at e4<;>rw[c1]at h23<;>rw[c2]at h24<;>rw[c3]at h24' <;>
       simp only[acW,adk,ac3,aeq,ac9]at e3 e4 <;>
       simp only[c6,ah,go_sem,simprocAttr,h10,h12,h22,G.aM,hK0,hc0,i1,i2,i3,m1,ha,hbb,ho,mu,mv,mo,hab,hmk,hal,hbl,hln0,hln,hra,hrb,ca,hfz,h11,h23,h24,h24',j7,lR,e1,e2,e3,e4,haR,hbR,decide_true]
theorem TR(xs:List SV)(h:iY [KE,(false,[.int .u8]),(false,[.int .u8]),(false,[.int .u8])] xs):∃m,aa T m (.fn 6) xs ah=some (.bool true,ah):=by
 obtain⟨x1,r1,rfl,h1,h⟩:=eS h
 obtain⟨x2,r2,rfl,h2,h⟩:=eS h
 obtain⟨x3,r3,rfl,h3,h⟩:=eS h
 obtain⟨x4,r4,rfl,h4,h⟩:=eS h
 cases px h
 obtain⟨f,s,A,fl,rfl,hS,hA,hb⟩:=DC h1
 obtain⟨x,rfl,hx⟩:=fits_int (mf h2)
 obtain⟨y,rfl,hy⟩:=fits_int (mf h3)
 obtain⟨z,rfl,hz⟩:=fits_int (mf h4)
 obtain⟨u,rfl,hu⟩:=Ek hx
 obtain⟨v,rfl,hv⟩:=Ek hy
 obtain⟨w,rfl,hw⟩:=Ek hz
 exact⟨61,s6 f s A fl u v w hu hv hw hS hA hb⟩
end Go.Sh
