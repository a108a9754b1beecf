/- A part of the proof: texts ShFr, K19c, K19d, K19e, K19f, K19g, K19u, K19h, K19pb, K19pc, K19pd, K19pe, K19pf, K19pg, K19ph, K19pi, K19pj, K19pk, K19pl, K19pme, K19pm, K19pn, K19pr, K19ps, K19pt, K19pu, K19pv, K19pw, K19pxs, K19i, K19j, K19k, K19l, K19m, K19n, K19q. -/
import Derived.Test.YtcfgikdpokjhpaaGreatB3
import Derived.Test.YtcfgikdpokjhpaaGreatB5
namespace Go.Sh
set_option linter.unusedSectionVars false
set_option linter.unnecessarySimpa false
set_option linter.unusedSimpArgs false
set_option linter.unusedVariables false
set_option maxRecDepth 100000
set_option maxHeartbeats 4000000
section
section
variable{A:Type}(bl l:List A)(x:A)(k j:Nat)
theorem aF:(bl++l)[bl.length]?=l[0]?:=by rw[ZR (Zp _),acw]
theorem aB:(bl++l)[bl.length+k]?=l[k]?:=by rw[ZR (by omega),abP]
theorem aG:(bl++l).set bl.length x=bl++l.set 0 x:=by rw[List.set_append_right _ _ (Zp _),acw]
theorem aE:(bl++l).set (bl.length+k) x=bl++l.set k x:=by rw[List.set_append_right _ _ (by omega),abP]
theorem az:(bl++l).take bl.length=bl:=by simp
theorem av:(bl++l).take (bl.length+k)=bl++l.take k:=by rw[List.take_append,ZM (by omega)];simp
theorem ay:(bl++l).drop bl.length=l:=by simp
theorem ax:(bl++l).drop (bl.length+k)=l.drop k:=by rw[List.drop_append,aaO (by omega)];simp
end
section
variable(a r k j:Nat)
theorem bc:decide (a+j≤a+k)=decide (j≤k):=by rw[abe];omega
theorem aS:decide (a≤a+k)=true:=Zc (by omega)
theorem bg:decide (a+j<a+k)=decide (j<k):=by rw[abe];omega
theorem aU:decide (a<a+(k+1))=true:=Zc (by omega)
theorem aP:decide (a+k<a)=false:=Zf (by omega)
theorem aT:decide (min r a≤a)=true:=Zc (by omega)
theorem aH:decide (min r a≤a+k)=true:=Zc (by omega)
theorem aQ:(a+j==a+k)=(j==k):=by rw[aam];simp
theorem aw(x y z:Nat):decide (max x y≤z)=(decide (x≤z)&&decide (y≤z)):=by rw[aam];simp;omega
theorem af:decide (a≤a)=true:=Zc (Zp a)
theorem bK:decide (0≤a)=true:=Zc (abc a)
theorem bL:decide (a+(k+1)≤a)=false:=Zf (by omega)
theorem aJ:(a==a+(k+1))=false:=by simp
theorem aI:(a+(k+1)==a)=false:=by simp
end
theorem fa{A:Type}{bl l:List A}{b:Nat}{x:A}(h:bl[b]?=some x):(bl++l)[b]?=some x:=by
 rw[Zm (Y8.1 h).1];exact h
theorem qe{F:aC}{xs:List SV}(h:0<SV.refs.au xs):eA F xs=false:=by
 unfold eA
 rw[aaU]
 left
 simp;omega
theorem cU{T:FuncId→Option aC}{f:FuncId}{F:aC}{xs:List SV}{n:Nat}{H:ab}{v:SV}(hT:T f=some F)(hk:F.keep=false)(hs:jG v=true)
 (h:∀(R:Type) (k:SV→ab→Option R) (bl:List aD) (ro:Nat) (r:Option R),(bl=[]∧SV.refs.au xs=0∨bl=H.bl)→(∀ext,k v ⟨bl++ext,[],min ro bl.length⟩=r)→
  runK (aa T n) (oJ F.res k) F.body [] (dR xs) ⟨bl,[],min ro bl.length⟩ ()=r) :
 aa T (n+1) (.fn f) xs H=some (v,H):=by
 have hfz:∀N H',ec N H' cA v=some v:=fun N H'=>by
  cases v<;>simp only[jG,ZY]at hs<;>simp[cA,ec,SV.refs]
 cases hp:eA F xs with
 |true=>
  refine ae hT hp ?_
  have hr:SV.refs.au xs=0:=by
   unfold eA at hp
   simp only[Zh,aah]at hp
   exact hp.1
  exact h SV (fun v H'=>ec 0 H' cA v) [] 0 _ (.inl ⟨rfl,hr⟩) (fun ext=>hfz _ _)
 |false=>
  refine bj hT hp ?_
  refine h _ (fun v H'=>cR F.keep H v H') H.bl H.ro _ (.inr rfl) (fun ext=>?_)
  rw[hk,nQ,hfz]
  obtain⟨bl,es,ro⟩:=H
  simp[Sh.cV]
end
def Ex(a:Int):Int:=bif decide (a.tmod 1000000000<0)then bb (bb (a.tdiv 1000000000)-1)else bb (a.tdiv 1000000000)
theorem RO(n:Nat)(H:ab)(a:Int):aa T (n+1) (.fn 167) [acH a,acH 1000000000] H=some (acH (Ex a),H):=by
 refine ae SN (by rfl) ?_
 simp only[Mg,ah,go_sem,simprocAttr,Ex]
 repeat' (with_reducible refine aM (fun _=>?_) (fun _=>?_)<;>simp only[*,go_sem,simprocAttr,Ex])
theorem T8(n:Nat)(H:ab)(a:Int):aa T (n+1) (.fn 126) [acH a,acH 1000000000] H=some (acH (Ex a),H):=by
 refine ae UD (by rfl) ?_
 simp only[Lg,ah,go_sem,simprocAttr,Ex]
 repeat' (with_reducible refine aM (fun _=>?_) (fun _=>?_)<;>simp only[*,go_sem,simprocAttr,Ex])
def mE(o d:Int):Bool:=decide (-1099511627776≤o)&&decide (o≤1099511627776)&&decide (-100000≤d)&&decide (d≤100000)
def pL(o d:Int):Int:=bif mE o d then 0 else 1
theorem xU(o d:Int):pL o d=if -1099511627776≤o∧o≤1099511627776∧ -100000≤d∧d≤100000 then 0 else 1:=by
 unfold pL mE
 by_cases h1: -1099511627776≤o<;>by_cases h2:o≤1099511627776<;>by_cases h3: -100000≤d<;>by_cases h4:d≤100000<;>simp[h1,h2,h3,h4]
theorem NT(n:Nat)(H:ab)(o d:Int):aa T (n+1) (.fn 60) [.agg [acH o,acH d]] H=some (acH (pL o d),H):=by
 refine ae YA (by rfl) ?_
 simp only[VH,ah,go_sem,simprocAttr]
 repeat' (with_reducible refine aM (fun _=>?_) (fun _=>?_)<;>simp only[*,go_sem,simprocAttr])
 all_goals (refine congrArg some (congrArg (SV.int .i64) ?_);simp only[Ze,Zi]at *;rw[xU];split<;>omega)
theorem SP(n:Nat)(H:ab)(o d:Int):aa T (n+1) (.fn 69) [.agg [acH o,acH d]] H=some (acH (pL o d),H):=by
 refine ae W2 (by rfl) ?_
 simp only[WA,ah,go_sem,simprocAttr]
 repeat' (with_reducible refine aM (fun _=>?_) (fun _=>?_)<;>simp only[*,go_sem,simprocAttr])
 all_goals (refine congrArg some (congrArg (SV.int .i64) ?_);simp only[Ze,Zi]at *;rw[xU];split<;>omega)
def jP(o d t:Int):Int:=bb (bb (o+t)+Ex (bb (t*d)))
theorem Gp(n b:Nat)(H:ab)(t o d:Int)(hb:H.bl[b]?=some (.box [acH o,acH d])):aa T (n+2) (.fn 166) [acH t,.ptr b 0 0 0] H=some (acH (jP o d t),H):=by
 refine cU Qw rfl rfl (fun R k bl ro r hbl hk=>?_)
 have hb':bl[b]?=some (.box [acH o,acH d]):=by
  rcases hbl with⟨rfl,h0⟩|rfl
  ·simp[SV.refs.au,SV.refs]at h0
  ·exact hb
 have hB:∀l:List aD,(bl++l)[b]?=some (.box [acH o,acH d]):=fun l=>fa hb'
 simp only[KT,aF,aB,aG,aE,az,av,ay,ax,bc,aS,bg,aU,aP,aT,aH,aQ,aJ,aI,aw,af,bK,bL,Za,Y9,Zk,go_sem,simprocAttr,hb',hB,RO]
 have:=hk []
 rw[ZW]at this
 exact this
theorem Vy(n:Nat)(H:ab)(t o d:Int):aa T (n+2) (.fn 71) [.agg [acH o,acH d],acH t] H=some (acH (jP o d t),H):=by
 refine ae Xk (by rfl) ?_
 simp only[Wi,ah,go_sem,simprocAttr,T8,jP]
theorem QJ(n b b1 b2:Nat)(H:ab)(t o d x:Int)(hb:H.bl[b]?=some (.box [acH o,acH d]))(hb1:H.bl[b1]?=some (.box [.fn 166 [.ptr b 0 0 0]]))(hb2:H.bl[b2]?=some (.box [acH x])) :
 aa T (n+3) (.fn 169) [acH t,.ptr b1 0 0 0,.ptr b2 0 0 0] H=some (.bool (decide (x≤jP o d t)),H):=by
 refine cU Sp rfl rfl (fun R k bl ro r hbl hk=>?_)
 obtain rfl:bl=H.bl:=by
  rcases hbl with⟨rfl,h0⟩|rfl
  ·simp[SV.refs.au,SV.refs]at h0
  ·rfl
 have h6:=fun H' (h:H'.bl=H.bl)=>Gp n b H' t o d (by rw[h];exact hb)
 simp only[Nr,aF,aB,aG,aE,az,av,ay,ax,bc,aS,bg,aU,aP,aT,aH,aQ,aJ,aI,aw,af,bK,bL,Za,Y9,Zk,go_sem,simprocAttr,hb1,hb2,h6]
 have:=hk []
 rw[ZW]at this
 exact this
def bs(q:Int→Bool):Nat→Int×Int
 |0=>(0,1099511627776)
 |i+1=>bif decide ((bs q i).1<(bs q i).2)then(bif q (((bs q i).1+(bs q i).2)/2)then((bs q i).1,((bs q i).1+(bs q i).2)/2)else(((bs q i).1+(bs q i).2)/2+1,(bs q i).2))else bs q i
theorem nT(q:Int→Bool):∀i,0≤(bs q i).1∧(bs q i).1≤(bs q i).2∧(bs q i).2≤1099511627776∧((bs q i).2-(bs q i).1)*2 ^ i≤1099511627776
 |0=>by simp[bs]
 |i+1=>by
  obtain⟨h1,h2,h3,h4⟩:=nT q i
  rw[bs]
  generalize hl:(bs q i).1=l at *
  generalize hh:(bs q i).2=h at *
  have hp:(0:Int)≤2 ^ i:=Int.pow_nonneg (by omega)
  have key:∀d:Int,2*d≤h-l→d*2 ^ (i+1)≤1099511627776:=fun d hd=>by
   rw[Int.pow_succ,acv (2 ^ i) 2,←Int.mul_assoc,acv d 2]
   exact acx (Int.mul_le_mul_of_nonneg_right hd hp) h4
  cases hlt:decide (l<h)with
  |true=>
   simp only[Ze]at hlt
   cases q ((l+h)/2)with
   |true=>
    simp only[Zr]
    exact⟨by omega,by omega,by omega,key _ (by omega)⟩
   |false=>
    simp only[Zr,Zu]
    exact⟨by omega,by omega,by omega,key _ (by omega)⟩
  |false=>
   simp only[Zi]at hlt
   simp only[Zu]
   rw[hl,hh]
   exact⟨h1,h2,h3,by rw[show h-l=0 by omega];omega⟩
theorem wC(q:Int→Bool):(bs q 41).1=(bs q 41).2:=by
 obtain⟨h1,h2,h3,h4⟩:=nT q 41
 have:((2:Int) ^ 41)=2199023255552:=by decide
 rw[this]at h4
 omega
theorem Bt(q:Int→Bool)(i:Nat)(h:decide ((bs q i).1<(bs q i).2)=false):∀k,bs q (i+k)=bs q i
 |0=>rfl
 |k+1=>by
  have e:=Bt q i h k
  rw[←Zk,bs,e,h]
  rfl
def sO(q:Int→Bool):Int:=(bs q 41).1
theorem yi(q:Int→Bool)(i:Nat)(hi:i≤41)(h:decide ((bs q i).1<(bs q i).2)=false):sO q=(bs q i).1:=by
 have:=Bt q i h (41-i)
 rw[sO,show 41=i+(41-i) by omega,this]
theorem Du{z:Int}(h0:0≤z)(h1:z≤2199023255552):bb ((IntKind.u64.wrap z).fdiv (2 ^ min 1 64))=z/2:=by
 have e:IntKind.u64.wrap z=z%18446744073709551616:=by simp[IntKind.wrap,IntKind.bits,IntKind.signed]
 have e2:(2:Int) ^ min 1 64=2:=by decide
 rw[e,e2,abd _ (by omega),Int.emod_eq_of_lt h0 (by omega)]
 exact ao (by omega) (by omega)
theorem Uk(n b b1 b2:Nat)(H:ab)(o d x:Int)(hb:H.bl[b]?=some (.box [acH o,acH d]))(hb1:H.bl[b1]?=some (.box [.fn 166 [.ptr b 0 0 0]]))(hb2:H.bl[b2]?=some (.box [acH x])) :
 aa T (n+4) (.fn 168) [acH 1099511627776,.fn 169 [.ptr b1 0 0 0,.ptr b2 0 0 0]] H=some (acH (sO fun t=>decide (x≤jP o d t)),H):=by
 refine cU Sc rfl rfl (fun R k bl ro r hbl hk=>?_)
 obtain rfl:bl=H.bl:=by
  rcases hbl with⟨rfl,h0⟩|rfl
  ·simp[SV.refs.au,SV.refs]at h0
  ·rfl
 have h6:=fun t H' (h:H'.bl=H.bl)=>QJ n b b1 b2 H' t o d x (by rw[h];exact hb) (by rw[h];exact hb1) (by rw[h];exact hb2)
 obtain⟨q,hq⟩:∃q:Int→Bool,q=fun t=>decide (x≤jP o d t):=⟨_,rfl⟩
 rw[←hq]at hk
 simp only[MD,aF,aB,aG,aE,az,av,ay,ax,bc,aS,bg,aU,aP,aT,aH,aQ,aJ,aI,aw,af,bK,bL,Za,Y9,Zk,go_sem,simprocAttr]
 refine bn (fun i=>([(1,.fn 169 [.ptr b1 0 0 0,.ptr b2 0 0 0]),(5,acH (bs q i).1),(6,acH (bs q i).2)],⟨H.bl,[],min ro H.bl.length⟩)) (fun _=>True) 41 ?_ trivial ?_
 ·have l1:decide (b1+1≤H.bl.length)=true:=Zc (Y8.1 hb1).1
  have l2:decide (b2+1≤H.bl.length)=true:=Zc (Y8.1 hb2).1
  simp only[aF,aB,aG,aE,az,av,ay,ax,bc,aS,bg,aU,aP,aT,aH,aQ,aJ,aI,aw,af,bK,bL,Za,Y9,Zk,go_sem,simprocAttr,bs,l1,l2]
 ·intro i hi _
  have l1:decide (b1+1≤H.bl.length)=true:=Zc (Y8.1 hb1).1
  have l2:decide (b2+1≤H.bl.length)=true:=Zc (Y8.1 hb2).1
  obtain⟨g1,g2,g3,_⟩:=nT q i
  cases hlt:decide ((bs q i).1<(bs q i).2)with
  |false=>
   simp only[aF,aB,aG,aE,az,av,ay,ax,bc,aS,bg,aU,aP,aT,aH,aQ,aJ,aI,aw,af,bK,bL,Za,Y9,Zk,go_sem,simprocAttr,hlt]
   have:=hk []
   rw[ZW,yi q i hi hlt]at this
   exact this
  |true=>
   have hw:bb ((bs q i).1+(bs q i).2)=(bs q i).1+(bs q i).2:=ao (by omega) (by omega)
   have hm:=Du (z:=(bs q i).1+(bs q i).2) (by omega) (by omega)
   have hw2:bb (((bs q i).1+(bs q i).2)/2+1)=((bs q i).1+(bs q i).2)/2+1:=ao (by omega) (by omega)
   have hi2:i<41:=by
    rcases Zl i 41 with h|h
    ·exact h
    ·obtain rfl:i=41:=by omega
     rw[wC,Ze]at hlt
     omega
   have hb:bs q (i+1)=bif q (((bs q i).1+(bs q i).2)/2)then((bs q i).1,((bs q i).1+(bs q i).2)/2)else(((bs q i).1+(bs q i).2)/2+1,(bs q i).2):=by rw[bs,hlt];rfl
   have h6:=h6 (((bs q i).1+(bs q i).2)/2) ⟨H.bl,[],min ro H.bl.length⟩ rfl
   rw[show decide (x≤jP o d (((bs q i).1+(bs q i).2)/2))=q (((bs q i).1+(bs q i).2)/2) by rw[hq]]at h6
   cases hv:q (((bs q i).1+(bs q i).2)/2)with
   |false=>
    rw[hv]at h6 hb
    simp only[aF,aB,aG,aE,az,av,ay,ax,bc,aS,bg,aU,aP,aT,aH,aQ,aJ,aI,aw,af,bK,bL,Za,Y9,Zk,go_sem,simprocAttr,hlt,hw,hm,h6,hw2,hb,l1,l2]
    exact⟨hi2,trivial,trivial⟩
   |true=>
    rw[hv]at h6 hb
    simp only[aF,aB,aG,aE,az,av,ay,ax,bc,aS,bg,aU,aP,aT,aH,aQ,aJ,aI,aw,af,bK,bL,Za,Y9,Zk,go_sem,simprocAttr,hlt,hw,hm,h6,hb,l1,l2]
    exact⟨hi2,trivial,trivial⟩
theorem Ar{T:FuncId→Option aC}{f:FuncId}{F:aC}{xs:List SV}{n:Nat}{H:ab}{a c:Int}(hT:T f=some F)(hk:F.keep=false)
 (h:∀(R:Type) (k:SV→ab→Option R) (bl:List aD) (ro:Nat) (r:Option R),(bl=[]∧SV.refs.au xs=0∨bl=H.bl)→(∀ext,k (.ba [acH a,acH c]) ⟨bl++ext,[],min ro bl.length⟩=r)→
  runK (aa T n) (oJ F.res k) F.body [] (dR xs) ⟨bl,[],min ro bl.length⟩ ()=r) :
 aa T (n+1) (.fn f) xs H=some (.ba [acH a,acH c],H):=by
 have hfz:∀N H',ec N H' cA (.ba [acH a,acH c])=some (.ba [acH a,acH c]):=fun N H'=>by simp[cA,ec,bN]
 cases hp:eA F xs with
 |true=>
  refine ae hT hp ?_
  have hr:SV.refs.au xs=0:=by
   unfold eA at hp
   simp only[Zh,aah]at hp
   exact hp.1
  exact h SV (fun v H'=>ec 0 H' cA v) [] 0 _ (.inl ⟨rfl,hr⟩) (fun ext=>hfz _ _)
 |false=>
  refine bj hT hp ?_
  refine h _ (fun v H'=>cR F.keep H v H') H.bl H.ro _ (.inr rfl) (fun ext=>?_)
  rw[hk,nQ,hfz]
  obtain⟨bl,es,ro⟩:=H
  simp[Sh.cV]
def rV(o d x:Int):Int:=bif decide (jP o d 1099511627776<x)then 0 else sO fun t=>decide (x≤jP o d t)
def rE(o d x:Int):Int:=bif decide (jP o d 1099511627776<x)then 15 else 0
theorem HS(n b:Nat)(H:ab)(o d x:Int)(hb:H.bl[b]?=some (.box [acH o,acH d])) :
 aa T (n+5) (.fn 124) [.agg [.fn 166 [.ptr b 0 0 0]],acH x] H=some (.ba [acH (rV o d x),acH (rE o d x)],H):=by
 refine Ar R7 rfl (fun R k bl ro r hbl hk=>?_)
 obtain rfl:bl=H.bl:=by
  rcases hbl with⟨rfl,h0⟩|rfl
  ·simp[SV.refs.au,SV.refs]at h0
  ·rfl
 have h6:=fun t H' (h:H'.bl[b]?=some (.box [acH o,acH d]))=>Gp (n+2) b H' t o d h
 have h7:=fun H' hb hb1 hb2=>Uk n b H.bl.length (H.bl.length+1) H' o d x hb hb1 hb2
 have hB:∀l:List aD,(H.bl++l)[b]?=some (.box [acH o,acH d]):=fun l=>fa hb
 unfold rV rE at hk
 cases hc:decide (jP o d 1099511627776<x)with
 |true=>
  rw[hc]at hk
  simp only[GJ,aF,aB,aG,aE,az,av,ay,ax,bc,aS,bg,aU,aP,aT,aH,aQ,aJ,aI,aw,af,bK,bL,Za,Y9,Zk,go_sem,simprocAttr,h6,hB,hc]
  exact hk _
 |false=>
  rw[hc]at hk
  simp only[GJ,aF,aB,aG,aE,az,av,ay,ax,bc,aS,bg,aU,aP,aT,aH,aQ,aJ,aI,aw,af,bK,bL,Za,Y9,Zk,go_sem,simprocAttr,h6,h7,hB,hc]
  exact hk _
theorem Il(n:Nat)(bl es ro)(o d:Int):aa T (n+1) (.rW 123) [.agg [acH o,acH d]] ⟨bl,es,ro⟩=
 some (.agg [.fn 166 [.ptr bl.length 0 0 0]],⟨bl++[.box [acH o,acH d],.box [.fn 166 [.ptr bl.length 0 0 0]]],es,ro⟩):=by
 refine fg Rd ?_
 simp only[De,aF,aB,aG,aE,az,av,ay,ax,bc,aS,bg,aU,aP,aT,aH,aQ,aJ,aI,aw,af,bK,bL,Za,Y9,Zk,go_sem,simprocAttr]
def vC(o d s:Int):Bool:=mE o d&&(decide (0≤s)&&decide (s≤109951162))
def C5(o d s:Int):Int:=bif mE o d then(bif decide (0≤s)&&decide (s≤109951162)then 0 else 2)else 1
theorem Lh(n:Nat)(H:ab)(o d s:Int):aa T (n+2) (.fn 122) [.agg [acH o,acH d],acH s] H=some (acH (C5 o d s),H):=by
 have h6:=fun H=>NT n H o d
 unfold C5
 unfold pL at h6
 cases hc:mE o d with
 |false=>
  rw[hc]at h6
  (refine ae DG (by rfl) ?_;simp only[CB,ah,go_sem,simprocAttr,h6])
 |true=>
  rw[hc]at h6
  by_cases h1:s<0
  ·have e1:decide (s<0)=true:=Zc h1
   have e2:decide (0≤s)=false:=Zf (by omega)
   (refine ae DG (by rfl) ?_;simp only[CB,ah,go_sem,simprocAttr,h6,e1,e2])
  ·have e1:decide (s<0)=false:=Zf h1
   have e2:decide (0≤s)=true:=Zc (by omega)
   by_cases h3:s≤109951162
   ·have e3:decide (s≤109951162)=true:=Zc h3
    have e4:decide (109951162<s)=false:=Zf (by omega)
    (refine ae DG (by rfl) ?_;simp only[CB,ah,go_sem,simprocAttr,h6,e1,e2,e3,e4])
   ·have e3:decide (s≤109951162)=false:=Zf h3
    have e4:decide (109951162<s)=true:=Zc (by omega)
    (refine ae DG (by rfl) ?_;simp only[CB,ah,go_sem,simprocAttr,h6,e1,e2,e3,e4])
def qz(o d s:Int):Int:=bif vC o d s then rV o d (s*10000+2120)else 0
def xa(o d s:Int):Int:=bif vC o d s then rE o d (s*10000+2120)else C5 o d s
def C2(o d s:Int):Int:=bif vC o d s then rE o d (s*10000+3221)else C5 o d s
def Aa(o d s:Int):Int:=bif vC o d s&&decide (s*10000+3221≤jP o d 1099511627776)then rV o d (s*10000+1020)else 0
def CR(o d s:Int):Int:=bif vC o d s&&decide (s*10000+3221≤jP o d 1099511627776)then bb (rV o d (s*10000+3221)-1)else 0
theorem mj{o d s:Int}(h:vC o d s=true):mE o d=true∧0≤s∧s≤109951162∧C5 o d s=0:=by
 unfold vC at h
 unfold C5
 cases h1:mE o d
 ·rw[h1,ZJ]at h;cases h
 ·rw[h1,ZP]at h
  rw[h]
  simp only[Zh,Ze]at h
  exact⟨rfl,h.1,h.2,rfl⟩
theorem vW{o d s:Int}(h:vC o d s=false):decide (C5 o d s=0)=false:=by
 unfold vC at h
 unfold C5
 cases h1:mE o d
 ·rfl
 ·rw[h1,ZP]at h
  rw[h]
  rfl
theorem Qb(n:Nat)(H:ab)(o d s:Int):aa T (n+6) (.fn 66) [.agg [acH o,acH d],acH s] H=some (.ba [acH (qz o d s),acH (xa o d s)],H):=by
 have h122:=fun H=>Lh (n+3) H o d s
 have h123:=fun bl es ro=>Il (n+4) bl es ro o d
 unfold qz xa
 cases hb:vC o d s with
 |false=>
  have h0:=vW hb
  (refine ae Wh (by rfl) ?_;simp only[Ru,ah,go_sem,simprocAttr,h122,h0])
 |true=>
  obtain⟨h1,h2,h3,h4⟩:=mj hb
  rw[h4]at h122
  have hw:bb (bb (s*10000)+2120)=s*10000+2120:=by rw[ao (n:=s*10000) (by omega) (by omega)];exact ao (by omega) (by omega)
  have h124:=fun H hb=>HS n 1 H o d (s*10000+2120) hb
  (refine ae Wh (by rfl) ?_;simp only[Ru,ah,go_sem,simprocAttr,h122,h123,h124,hw])
theorem Uq(n:Nat)(H:ab)(o d s:Int):aa T (n+6) (.fn 67) [.agg [acH o,acH d],acH s] H=some (.ba [acH (Aa o d s),acH (CR o d s),acH (C2 o d s)],H):=by
 have h122:=fun H=>Lh (n+3) H o d s
 have h123:=fun bl es ro=>Il (n+4) bl es ro o d
 unfold Aa CR C2
 cases hb:vC o d s with
 |false=>
  have h0:=vW hb
  (refine ae Ot (by rfl) ?_;simp only[Lm,ah,go_sem,simprocAttr,h122,h0])
 |true=>
  obtain⟨h1,h2,h3,h4⟩:=mj hb
  rw[h4]at h122
  have hw0:bb (bb (s*10000)+2120)=s*10000+2120:=by rw[ao (n:=s*10000) (by omega) (by omega)];exact ao (by omega) (by omega)
  have hw1:bb (s*10000+2120-1100)=s*10000+1020:=by rw[ao (by omega) (by omega)];omega
  have hw2:bb (bb (s*10000+2120+1100)+1)=s*10000+3221:=by rw[ao (n:=s*10000+2120+1100) (by omega) (by omega),ao (by omega) (by omega)];omega
  have h124:=fun H hb=>HS n 1 H o d (s*10000+1020) hb
  have h125:=fun H hb=>HS n 3 H o d (s*10000+3221) hb
  cases hc:decide (s*10000+3221≤jP o d 1099511627776)with
  |true=>
   have hE1:rE o d (s*10000+1020)=0:=by unfold rE;rw[Zf (by rw[Ze]at hc;omega)];rfl
   have hE2:rE o d (s*10000+3221)=0:=by unfold rE;rw[Zf (by rw[Ze]at hc;omega)];rfl
   rw[hE1]at h124
   rw[hE2]at h125
   (refine ae Ot (by rfl) ?_;simp only[Lm,ah,go_sem,simprocAttr,h122,h123,h124,h125,hw0,hw1,hw2,hE2])
  |false=>
   have hE2:rE o d (s*10000+3221)=15:=by unfold rE;rw[Zc (by rw[Zi]at hc;omega)];rfl
   rw[hE2]at h125
   cases hd:decide (rE o d (s*10000+1020)=0)with
   |true=>
    (refine ae Ot (by rfl) ?_;simp only[Lm,ah,go_sem,simprocAttr,h122,h123,h124,h125,hw0,hw1,hw2,hE2,hd])
   |false=>
    (refine ae Ot (by rfl) ?_;simp only[Lm,ah,go_sem,simprocAttr,h122,h123,h124,h125,hw0,hw1,hw2,hE2,hd])
theorem Ye(n:Nat)(H:ab)(o d x:Int)(hk:mE o d=true):aa T (n+3) (.fn 88) [.agg [acH o,acH d],acH x] H=some (.ba [acH (rV o d x),acH (rE o d x)],H):=by
 refine ae Xj (by rfl) ?_
 have h69:=fun H=>SP (n+1) H o d
 unfold pL at h69
 rw[hk]at h69
 have h71:=fun H t=>Vy n H t o d
 unfold rV rE
 cases hc:decide (jP o d 1099511627776<x)with
 |true=>simp only[UO,ah,go_sem,simprocAttr,h69,h71,hc]
 |false=>
  simp only[UO,ah,go_sem,simprocAttr,h69,h71,hc]
  obtain⟨q,hq⟩:∃q:Int→Bool,q=fun t=>decide (x≤jP o d t):=⟨_,rfl⟩
  rw[←hq]
  refine bn (fun i=>([(1,acH x),(2,.ptr 0 0 0 0),(6,acH (bs q i).1),(7,acH (bs q i).2)],⟨[.box [acH o,acH d]],[],0⟩)) (fun _=>True) 41 ?_ trivial ?_
  ·simp only[go_sem,simprocAttr,bs]<;>rfl
  ·intro i hi _
   obtain⟨g1,g2,g3,_⟩:=nT q i
   cases hlt:decide ((bs q i).1<(bs q i).2)with
   |false=>
    simp only[go_sem,simprocAttr,hlt,yi q i hi hlt]
   |true=>
    have hw:bb ((bs q i).1+(bs q i).2)=(bs q i).1+(bs q i).2:=ao (by omega) (by omega)
    have ht:((bs q i).1+(bs q i).2).tdiv 2=((bs q i).1+(bs q i).2)/2:=aaI (by omega)
    have hm:bb (((bs q i).1+(bs q i).2)/2)=((bs q i).1+(bs q i).2)/2:=ao (by omega) (by omega)
    have hw2:bb (((bs q i).1+(bs q i).2)/2+1)=((bs q i).1+(bs q i).2)/2+1:=ao (by omega) (by omega)
    have hi2:i<41:=by
     rcases Zl i 41 with h|h
     ·exact h
     ·obtain rfl:i=41:=by omega
      rw[wC,Ze]at hlt
      omega
    have hb:bs q (i+1)=bif q (((bs q i).1+(bs q i).2)/2)then((bs q i).1,((bs q i).1+(bs q i).2)/2)else(((bs q i).1+(bs q i).2)/2+1,(bs q i).2):=by rw[bs,hlt];rfl
    have hv':decide (x≤jP o d (((bs q i).1+(bs q i).2)/2))=q (((bs q i).1+(bs q i).2)/2):=by rw[hq]
    cases hv:q (((bs q i).1+(bs q i).2)/2)with
    |false=>
     rw[hv]at hv' hb
     simp only[go_sem,simprocAttr,hlt,hw,ht,hm,h71,hv',hw2,hb]
     refine⟨hi2,?_,?_⟩<;>first|trivial|rfl
    |true=>
     rw[hv]at hv' hb
     simp only[go_sem,simprocAttr,hlt,hw,ht,hm,h71,hv',hb]
     refine⟨hi2,?_,?_⟩<;>first|trivial|rfl
theorem Xe(n:Nat)(H:ab)(o d s x:Int)(hx0:0≤x)(hx:x≤10000):aa T (n+4) (.fn 50) [.agg [acH o,acH d],acH s,acH x] H=
 some (.ba [acH (bif vC o d s then rV o d (s*10000+x)else 0),acH (bif vC o d s then rE o d (s*10000+x)else C5 o d s)],H):=by
 have h69:=fun H=>SP (n+2) H o d
 unfold pL at h69
 cases hb:vC o d s with
 |false=>
  unfold C5
  unfold vC at hb
  cases hc:mE o d with
  |false=>
   rw[hc]at h69
   (refine ae NN (by rfl) ?_;simp only[JU,ah,go_sem,simprocAttr,h69])
  |true=>
   rw[hc]at h69 hb
   rw[ZP]at hb
   by_cases h1:s<0
   ·have e1:decide (s<0)=true:=Zc h1
    (refine ae NN (by rfl) ?_;simp only[JU,ah,go_sem,simprocAttr,h69,e1,hb])
   ·have e1:decide (s<0)=false:=Zf h1
    have e2:decide (0≤s)=true:=Zc (by omega)
    rw[e2,ZP]at hb
    have e4:decide (109951162<s)=true:=by simp only[Ze,Zi]at *;omega
    (refine ae NN (by rfl) ?_;simp only[JU,ah,go_sem,simprocAttr,h69,e1,e2,hb,e4])
 |true=>
  obtain⟨h1,h2,h3,h4⟩:=mj hb
  rw[h1]at h69
  have e1:decide (s<0)=false:=Zf (by omega)
  have e4:decide (109951162<s)=false:=Zf (by omega)
  have hw:bb (bb (s*10000)+x)=s*10000+x:=by rw[ao (n:=s*10000) (by omega) (by omega)];exact ao (by omega) (by omega)
  have h88:=fun H=>Ye n H o d (s*10000+x) h1
  (refine ae NN (by rfl) ?_;simp only[JU,ah,go_sem,simprocAttr,h69,e1,e4,hw,h88])
theorem Xx(n:Nat)(H:ab)(o d s:Int):aa T (n+5) (.fn 13) [.agg [acH o,acH d],acH s] H=some (.ba [acH (qz o d s),acH (xa o d s)],H):=by
 have h50:=fun H=>Xe n H o d s 2120 (by omega) (by omega)
 (refine ae C4 (by rfl) ?_;simp only[VW,ah,go_sem,simprocAttr,h50,qz,xa])
namespace G
abbrev pt(a b:Int):SV:=.agg [acH a,acH b]
abbrev wl(a b c d f:Int):SV:=.agg [acH a,acH b,acH c,acH d,acH f]
def oL(a b:Int):Int:=if a<b then -1 else if b<a then 1 else 0
def fh(a b c d x y:Int):Int:=oL (bb (bb (c-a)*bb (y-b))) (bb (bb (d-b)*bb (x-a)))
def kS(a b c d x y:Int):Int:=if bb (bb (bb (c-a)*bb (y-b))-bb (bb (d-b)*bb (x-a)))>0 then 1 else if bb (bb (bb (c-a)*bb (y-b))-bb (bb (d-b)*bb (x-a)))<0 then -1 else 0
def dX(p q a b c d:Int):Bool:=decide (min a c≤p)&&decide (p≤max a c)&&decide (min b d≤q)&&decide (q≤max b d)
def Fp(p q a b c d:Int):Bool:=(decide (p=a)&&decide (q=b))||(decide (p=c)&&decide (q=d))||(decide (fh a b c d p q=0)&&dX p q a b c d)
def pQ(a b c d x y z t:Int):Bool:=Fp x y a b c d||Fp z t a b c d||Fp a b x y z t||Fp c d x y z t ||
 (decide (bb (fh a b c d x y*fh a b c d z t)<0)&&decide (bb (fh x y z t a b*fh x y z t c d)<0))
def wD(a b c d x y z t:Int):Bool:=(decide (bb (kS a b c d x y*kS a b c d z t)<0)&&decide (bb (kS x y z t a b*kS x y z t c d)<0)) ||
 (decide (kS a b c d x y=0)&&dX x y a b c d)||(decide (kS a b c d z t=0)&&dX z t a b c d)||(decide (kS x y z t a b=0)&&dX a b x y z t)||(decide (kS x y z t c d=0)&&dX c d x y z t)
theorem QE(n id:Nat)(H:ab)(L:List (List SV))(fl:Bool)(p:List SV→Bool)(hr:∀r∈L,r.length=2)(hm:L.length≤maxLen)
 (hc:∀r∈L,∀H,aa T n (.fn id) [.agg r] H=some (.bool (p r),H)):aa T (n+1) (.fn 155) [.aA 2 L fl,.fn id []] H=some (acH (gZ p L),H):=by
 refine ae PL (by rfl) ?_
 simp only[Nv,ah,go_sem,Nat.reduceAdd,Nat.reduceBEq]
 refine bn (fun i=>([(0,.aA 2 L fl),(1,.fn id []),(7,acH L.length),(8,acH i)],⟨[],[],0⟩)) (fun i=>∀(j:Nat) r,j<i→L[j]?=some r→p r=false) L.length ?_ (fun j r h=>by omega) ?_
 ·simp only[go_sem,Nat.reduceAdd,Nat.reduceBEq,Nat.reduceLeDiff]<;>rfl
 ·intro i hi hP
  have hm:maxLen=maxLen:=rfl
  rcases Zl i L.length with hlt|hge
  ·obtain⟨r,hr'⟩:∃r,L[i]?=some r:=⟨L[i],Zq hlt⟩
   have hmem:=Zj hr'
   have h1:=hr _ hmem
   have ht:List.take 2 r=r:=ZM (by omega)
   have hw:bb ((i:Int)+1)=((i+1:Nat):Int):=by
    rw[ao]<;>simp[maxLen]at * <;>omega
   cases hp:p r with
   |true=>
    have hx:=jt hr' hp hP
    simp only[go_sem,Nat.reduceAdd,Nat.reduceBEq,Nat.reduceLeDiff,hlt,hr',hc r hmem,hw,h1,ht,hp,hx]
   |false=>
    simp only[go_sem,Nat.reduceAdd,Nat.reduceBEq,Nat.reduceLeDiff,hlt,hr',hc r hmem,hw,h1,ht,hp]
    refine⟨trivial,trivial,fun j r' hj hr2=>?_⟩
    rcases Zl j i with hlt2|hge2
    ·exact hP j r' hlt2 hr2
    ·have:j=i:=by omega
     subst this
     rw[hr']at hr2
     cases hr2
     exact hp
  ·have hlt:¬i<L.length:=by omega
   have hx:gZ p L= -1:=gA (fun j a hj=>hP j a (by have:=(Y8.1 hj).1;omega) hj)
   simp only[go_sem,Nat.reduceAdd,Nat.reduceBEq,Nat.reduceLeDiff,hlt,hx]
theorem PE(n id:Nat)(H:ab)(L:List (List SV))(fl:Bool)(p:List SV→Bool)(hr:∀r∈L,∃x,r=[x])(hm:L.length≤maxLen)
 (hc:∀r∈L,∀H,aa T n (.fn id) [r.headD .undef] H=some (.bool (p r),H)):aa T (n+1) (.fn 156) [.aA 1 L fl,.fn id []] H=some (acH (gZ p L),H):=by
 refine ae Tz (by rfl) ?_
 simp only[Mu,ah,go_sem,Nat.reduceAdd,Nat.reduceBEq]
 refine bn (fun i=>([(0,.aA 1 L fl),(1,.fn id []),(7,acH L.length),(8,acH i)],⟨[],[],0⟩)) (fun i=>∀(j:Nat) r,j<i→L[j]?=some r→p r=false) L.length ?_ (fun j r h=>by omega) ?_
 ·simp only[go_sem,Nat.reduceAdd,Nat.reduceBEq,Nat.reduceLeDiff]<;>rfl
 ·intro i hi hP
  have hm:maxLen=maxLen:=rfl
  rcases Zl i L.length with hlt|hge
  ·obtain⟨r,hr'⟩:∃r,L[i]?=some r:=⟨L[i],Zq hlt⟩
   have hmem:=Zj hr'
   have h1:=hr _ hmem
   obtain⟨x,rfl⟩:=h1
   have hcr:=hc _ hmem
   simp only[List.headD_cons]at hcr
   have hw:bb ((i:Int)+1)=((i+1:Nat):Int):=by
    rw[ao]<;>simp[maxLen]at * <;>omega
   cases hp:p [x]with
   |true=>
    have hx:=jt hr' hp hP
    simp only[go_sem,Nat.reduceAdd,Nat.reduceBEq,Nat.reduceLeDiff,hlt,hr',hcr,hw,hp,hx]
   |false=>
    simp only[go_sem,Nat.reduceAdd,Nat.reduceBEq,Nat.reduceLeDiff,hlt,hr',hcr,hw,hp]
    refine⟨trivial,trivial,fun j r' hj hr2=>?_⟩
    rcases Zl j i with hlt2|hge2
    ·exact hP j r' hlt2 hr2
    ·have:j=i:=by omega
     subst this
     rw[hr']at hr2
     cases hr2
     exact hp
  ·have hlt:¬i<L.length:=by omega
   have hx:gZ p L= -1:=gA (fun j a hj=>hP j a (by have:=(Y8.1 hj).1;omega) hj)
   simp only[go_sem,Nat.reduceAdd,Nat.reduceBEq,Nat.reduceLeDiff,hlt,hx]
def dK(L:List (Int×Int)):List (List SV):=L.map fun p=>[acH p.1,acH p.2]
theorem vg{L:List (Int×Int)}:∀r∈dK L,r.length=2:=by
 intro r hr;simp only[dK,Z3]at hr;obtain⟨p,_,rfl⟩:=hr;rfl
theorem AE{p:List SV→Bool}{q:Int×Int→Bool}(h:∀a b,p [acH a,acH b]=q (a,b))(L:List (Int×Int)):(dK L).any p=L.any q:=by
 induction L with
 |nil=>rfl
 |cons a l ih=>simp only[dK,ZO,acp,h]at *;rw[ih]
theorem Rm(n id:Nat)(H:ab)(L:List (List SV))(fl:Bool)(p:List SV→Bool)(hr:∀r∈L,r.length=2)(hm:L.length≤maxLen)
 (hc:∀r∈L,∀H,aa T n (.fn id) [.agg r] H=some (.bool (p r),H)):aa T (n+2) (.fn 108) [.aA 2 L fl,.fn id []] H=some (.bool (L.any p),H):=by
 refine ae SF (by rfl) ?_
 simp only[K6,ah,go_sem,Nat.reduceAdd,Nat.reduceBEq,QE n id _ L fl p hr hm hc,iF]
theorem Qz(n id:Nat)(H:ab)(L:List (List SV))(fl:Bool)(p:List SV→Bool)(hr:∀r∈L,∃x,r=[x])(hm:L.length≤maxLen)
 (hc:∀r∈L,∀H,aa T n (.fn id) [r.headD .undef] H=some (.bool (p r),H)):aa T (n+2) (.fn 109) [.aA 1 L fl,.fn id []] H=some (.bool (L.any p),H):=by
 refine ae QD (by rfl) ?_
 simp only[KF,ah,go_sem,Nat.reduceAdd,Nat.reduceBEq,PE n id _ L fl p hr hm hc,iF]
def jN(a:Int):Prop:= -20000≤a∧a≤20000
theorem Ls{u v:Int}(hu:u.natAbs≤40000)(hv:v.natAbs≤40000):(u*v).natAbs≤1600000000:=by
 rw[Int.natAbs_mul];exact ach hu hv
theorem o7{a b c d x y:Int}(ha:jN a)(hb:jN b)(hc:jN c)(hd:jN d)(hx:jN x)(hy:jN y):kS a b c d x y=fh a b c d x y:=by
 unfold jN at *
 have e1:bb (c-a)=c-a:=ao (by omega) (by omega)
 have e2:bb (y-b)=y-b:=ao (by omega) (by omega)
 have e3:bb (d-b)=d-b:=ao (by omega) (by omega)
 have e4:bb (x-a)=x-a:=ao (by omega) (by omega)
 have b1:=Ls (u:=c-a) (v:=y-b) (by omega) (by omega)
 have b2:=Ls (u:=d-b) (v:=x-a) (by omega) (by omega)
 unfold kS fh oL
 rw[e1,e2,e3,e4]
 generalize (c-a)*(y-b)=P at *
 generalize (d-b)*(x-a)=Q at *
 have e5:bb P=P:=ao (by omega) (by omega)
 have e6:bb Q=Q:=ao (by omega) (by omega)
 have e7:bb (P-Q)=P-Q:=ao (by omega) (by omega)
 rw[e5,e6,e7]
 repeat' split
 all_goals omega
theorem uR(P:Int):oL P P=0:=by unfold oL;rw[if_neg (by omega),if_neg (by omega)]
theorem MU(p q a b c d:Int):Fp p q a b c d=(decide (fh a b c d p q=0)&&dX p q a b c d):=by
 unfold Fp
 rw[aam]
 simp only[Z6,Zh,Ze]
 constructor
 ·rintro((⟨rfl,rfl⟩|⟨rfl,rfl⟩)|h)
  ·refine⟨?_,?_⟩
   ·unfold fh
    have:bb 0=0:=by decide
    simp only[Int.sub_self,this,Int.mul_zero,uR]
   ·unfold dX;simp only[Zh,Ze];omega
  ·refine⟨?_,?_⟩
   ·unfold fh
    rw[acv (bb (q-b)),uR]
   ·unfold dX;simp only[Zh,Ze];omega
  ·exact h
 ·exact fun h=>.inr h
theorem zS{a b c d x y z t:Int}(ha:jN a)(hb:jN b)(hc:jN c)(hd:jN d)(hx:jN x)(hy:jN y)(hz:jN z)(ht:jN t):pQ a b c d x y z t=wD a b c d x y z t:=by
 unfold pQ wD
 simp only[MU,o7 ha hb hc hd hx hy,o7 ha hb hc hd hz ht,o7 hx hy hz ht ha hb,o7 hx hy hz ht hc hd]
 generalize (decide (fh a b c d x y=0)&&dX x y a b c d)=A
 generalize (decide (fh a b c d z t=0)&&dX z t a b c d)=B
 generalize (decide (fh x y z t a b=0)&&dX a b x y z t)=C
 generalize (decide (fh x y z t c d=0)&&dX c d x y z t)=D
 generalize (decide (bb (fh a b c d x y*fh a b c d z t)<0)&&decide (bb (fh x y z t a b*fh x y z t c d)<0))=E
 cases A<;>cases B<;>cases C<;>cases D<;>cases E<;>rfl
structure Wl where
 a:Int
 b:Int
 c:Int
 d:Int
 f:Int
abbrev Pr(w:Wl):List SV:=[acH w.a,acH w.b,acH w.c,acH w.d,acH w.f]
def ft(W:List Wl):List (List SV):=W.map Pr
def dC(P:List Int):List (List SV):=P.map fun p=>[acH p]
@[go_sem] theorem Ae {W:List Wl}:(ft W).length=W.length:=by simp[ft]
@[go_sem] theorem ym {W:List Int}:(dC W).length=W.length:=by simp[dC]
@[go_sem] theorem aL {W:List (Int×Int)}:(dK W).length=W.length:=by simp[dK]
abbrev st(N:List (Int×Int))(P:List Int)(W:List Wl)(f1 f2 f3:Bool)(ex no th:Int):SV:=.agg [.aA 2 (dK N) f1,.aA 1 (dC P) f2,.aA 5 (ft W) f3,acH ex,acH no,acH th]
def cB(a b:Int):Bool:=decide (0≤a)&&decide (a≤10000)&&decide (0≤b)&&decide (b≤10000)
theorem It(n:Nat)(H:ab)(a b:Int):aa T (n+1) (.fn 107) [pt a b] H=some (.bool (cB a b),H):=by
 refine ae Tf (by rfl) ?_
 simp only[Md,ah,go_sem,simprocAttr]
 repeat' (with_reducible refine aM (fun _=>?_) (fun _=>?_)<;>simp only[*,go_sem,simprocAttr])
 all_goals (simp only[Ze,Zi]at *;simp only[cB];congr 2;rw[aam];simp only[Zh,Ze,ZY,false_iff];omega)
def dT(n:Int):Bool:=decide (0≤n)&&decide (n≤68719476736)
theorem Ij(n:Nat)(H:ab)(a:Int):aa T (n+1) (.fn 111) [acH a] H=some (.bool (dT a),H):=by
 refine ae Rj (by rfl) ?_
 simp only[LW,ah,go_sem,simprocAttr]
 repeat' (with_reducible refine aM (fun _=>?_) (fun _=>?_)<;>simp only[*,go_sem,simprocAttr])
 all_goals (simp only[dT];grind)
theorem Hj(n:Nat)(H:ab)(a b:Int):aa T (n+2) (.fn 106) [pt a b] H=some (.bool (!cB a b),H):=by
 refine ae QO (by rfl) ?_
 simp only[M5,ah,go_sem,simprocAttr,It]
theorem SW(n:Nat)(H:ab)(a:Int):aa T (n+2) (.fn 110) [acH a] H=some (.bool (!dT a),H):=by
 refine ae U7 (by rfl) ?_
 simp only[NC,ah,go_sem,simprocAttr,Ij]
def Bz(t m:Int):Bool:=decide (1000≤t)&&decide (t≤100000)&&decide (1≤m)&&decide (m≤68719476736)
def wU(p f:Int):Bool:=dT p&&decide (0≤f)&&decide (f≤1000)
def Ir(p f:Int):Int:=if wU p f=true then bb ((bb (p*f)).tdiv 1000)else 0
def Om(p f:Int):Int:=if wU p f=true then 0 else 2
def DJ(N:List (Int×Int))(P:List Int)(W:List Wl):Bool:=decide (N.length≤40)&&decide (P.length≤40)&&decide (W.length≤40)
theorem Yp(n:Nat)(H:ab)(N P W f1 f2 f3 ex no th):aa T (n+1) (.fn 86) [st N P W f1 f2 f3 ex no th] H=some (.bool (DJ N P W),H):=by
 refine ae Xg (by rfl) ?_
 simp only[Wc,ah,go_sem,simprocAttr,Ae,ym,aL]
 repeat' (with_reducible refine aM (fun _=>?_) (fun _=>?_)<;>simp only[*,go_sem,simprocAttr])
 all_goals (simp only[DJ];refine congrArg some (congrArg SV.bool ?_);rw[aam];grind)
def RQ(a b c d:Int):Int:=bb (bb (bb (a-c)*bb (a-c))+bb (bb (b-d)*bb (b-d)))
theorem Ig(a b c d:Int):bb (bb (bb (a-c)*bb (a-c))+bb (bb (b-d)*bb (b-d)))=RQ a b c d:=rfl
def mI(a b c d:Int):Int:=max (RQ a b c d) 100
theorem Me(a b c d:Int):max (RQ a b c d) 100=mI a b c d:=rfl
theorem KC(a b c d:Int):decide (mI a b c d=0)=false:=by
 have:100≤mI a b c d:=Int.le_max_right _ _
 rw[Zi];omega
def qy(ex a b p c d:Int):Int:=let p1:=bb ((bb (p*100)).tdiv (mI a b c d));if ex=4 then bb ((bb (p1*100)).tdiv (mI a b c d))else p1
def ou(a b c d p:Int)(w:Wl):Int:=if wD a b c d w.a w.b w.c w.d=true then bb ((bb (p*w.f)).tdiv 1000)else p
def atR(W:List Wl)(ex a b p c d:Int):Int:=W.foldl (ou a b c d) (qy ex a b p c d)
theorem jh{A B:Type}(f:A→B→A)(z:A){l:List B}{i:Nat}{x:B}(h:l[i]?=some x):(l.take (i+1)).foldl f z=f ((l.take i).foldl f z) x:=by
 rw[aaE,h];simp
@[go_sem] theorem KJ (W:List Wl)(i:Nat):(ft W)[i]?=(W[i]?).map Pr:=by simp[ft]
@[go_sem] theorem Iz (W:List Int)(i:Nat):(dC W)[i]?=(W[i]?).map (fun p=>[acH p]):=by simp[dC]
@[go_sem] theorem Np (W:List (Int×Int))(i:Nat):(dK W)[i]?=(W[i]?).map (fun p=>[acH p.1,acH p.2]):=by simp[dK]
theorem uS{i n:Nat}(h:i<n)(hn:n≤maxLen):bb ((i:Int)+1)=((i+1:Nat):Int):=by
 simp only[maxLen]at hn
 rw[ao (by omega) (by omega)];omega
def kY(a b c d p:Int)(w:Wl):Int:=if pQ a b c d w.a w.b w.c w.d=true then Ir p w.f else p
theorem iP{A R:Type}{v:Option A}{f:A→Option R}{t:oR f}{r:Option R}(o:A)(h:v=some o)(k:f o=r):aN v f t=r:=by rw[h];exact k
def Al(W:List Wl)(ex a b p c d:Int):Int:=W.foldl (kY a b c d) (qy ex a b p c d)
def oH(w:Wl):Bool:=!cB w.a w.b||!cB w.c w.d||decide (w.f<0)||decide (1000<w.f)
theorem Ur(n:Nat)(X0:aD)(w:Wl):aa T (n+3) (.fn 113) [.agg (Pr w),.ptr 1 0 0 0] ⟨[X0,.box [.fn 106 []]],[],0⟩=some (.bool (oH w),⟨[X0,.box [.fn 106 []]],[],0⟩):=by
 refine bj TR (by rfl) ?_
 simp only[JQ,go_sem,simprocAttr,Hj]
 repeat' (with_reducible refine aM (fun _=>?_) (fun _=>?_)<;>simp only[*,go_sem,simprocAttr,Hj])
 all_goals (simp only[oH];grind)
theorem Tx(n id:Nat)(X0 X1:aD)(L:List (List SV))(fl:Bool)(p:List SV→Bool)(hr:∀r∈L,r.length=5)(hm:L.length≤maxLen)
 (hc:∀r∈L,aa T n (.fn id) [.agg r,.ptr 1 0 0 0] ⟨[X0,X1],[],0⟩=some (.bool (p r),⟨[X0,X1],[],0⟩)) :
 aa T (n+1) (.fn 157) [.aA 5 L fl,.fn id [.ptr 1 0 0 0]] ⟨[X0,X1],[],0⟩=some (acH (gZ p L),⟨[X0,X1],[],0⟩):=by
 refine bj Ss (by rfl) ?_
 simp only[KS,go_sem,simprocAttr]
 refine bn (fun i=>([(0,.aA 5 L fl),(1,.fn id [.ptr 1 0 0 0]),(7,acH L.length),(8,acH i)],⟨[X0,X1],[],0⟩)) (fun i=>∀(j:Nat) r,j<i→L[j]?=some r→p r=false) L.length ?_ (fun j r h=>by omega) ?_
 ·simp only[go_sem,simprocAttr]
  rfl
 ·intro i hi hP
  rcases Zl i L.length with hlt|hge
  ·obtain⟨r,hr'⟩:∃r,L[i]?=some r:=⟨L[i],Zq hlt⟩
   have hmem:=Zj hr'
   have h1:=hr _ hmem
   have ht:List.take 5 r=r:=ZM (by omega)
   have hw:=uS hlt hm
   cases hp:p r with
   |true=>
    have hx:=jt hr' hp hP
    simp only[go_sem,simprocAttr,hlt,hr',hc r hmem,hw,h1,ht,hp,hx]
   |false=>
    simp only[go_sem,simprocAttr,hlt,hr',hc r hmem,hw,h1,ht,hp]
    refine⟨trivial,rfl,fun j r' hj hr2=>?_⟩
    rcases Zl j i with hlt2|hge2
    ·exact hP j r' hlt2 hr2
    ·have:j=i:=by omega
     subst this
     rw[hr']at hr2
     cases hr2
     exact hp
  ·have hlt:¬i<L.length:=by omega
   have hx:gZ p L= -1:=gA (fun j a hj=>hP j a (by have:=(Y8.1 hj).1;omega) hj)
   simp only[go_sem,simprocAttr,hlt,hx]
theorem QK(n id:Nat)(X0 X1:aD)(L:List (List SV))(fl:Bool)(p:List SV→Bool)(hr:∀r∈L,r.length=5)(hm:L.length≤maxLen)
 (hc:∀r∈L,aa T n (.fn id) [.agg r,.ptr 1 0 0 0] ⟨[X0,X1],[],0⟩=some (.bool (p r),⟨[X0,X1],[],0⟩)) :
 aa T (n+2) (.fn 112) [.aA 5 L fl,.fn id [.ptr 1 0 0 0]] ⟨[X0,X1],[],0⟩=some (.bool (L.any p),⟨[X0,X1],[],0⟩):=by
 refine bj Ro (by rfl) ?_
 simp only[M9,go_sem,simprocAttr,Tx n id X0 X1 L fl p hr hm hc,iF]
def KW(r:List SV):Wl:=match r with|[.int _ a,.int _ b,.int _ c,.int _ d,.int _ f]=>⟨a,b,c,d,f⟩|_=>⟨0,0,0,0,0⟩
theorem any_map'{A B:Type}(f:A→B)(p:B→Bool)(q:A→Bool)(h:∀a,p (f a)=q a)(l:List A):(l.map f).any p=l.any q:=by
 induction l with
 |nil=>rfl
 |cons a l ih=>simp only[ZO,acp,h,ih]
def Vo(r:List SV):Bool:=match r with|[.int _ a,.int _ b]=>!cB a b|_=>false
def VV(r:List SV):Bool:=match r with|[.int _ a]=>!dT a|_=>false
def okB(n p w:Nat)(A B C:Bool)(ex no th:Int):Bool:=decide (2≤n)&&decide (n≤32)&&!A&&decide (p=n)&&!B&&decide (w≤32)&&!C&&(decide (ex=2)||decide (ex=4))&&Bz th no
def jg(N:List (Int×Int))(P:List Int)(W:List Wl)(ex no th:Int):Bool:=okB N.length P.length W.length (N.any (fun p=>!cB p.1 p.2)) (P.any (fun p=>!dT p)) (W.any oH) ex no th
def At(N:List (Int×Int))(P:List Int)(W:List Wl)(ex no th:Int):Int:=bif jg N P W ex no th then 0 else 1
theorem I5(n:Nat)(H:ab)(N P W f1 f2 f3 ex no th)(hN:N.length≤maxLen)(hP:P.length≤maxLen)(hW:W.length≤maxLen):aa T (n+6) (.fn 61) [st N P W f1 f2 f3 ex no th] H=some (acH (At N P W ex no th),H):=by
 refine ae XU (by rfl) ?_
 have h38:=fun H=>Rm (n+3) (id:=106) H (dK N) f1 Vo vg (by simpa[dK]using hN) (fun r hr H=>by
  simp only[dK,Z3]at hr;obtain⟨p,_,rfl⟩:=hr;exact Hj (n+1) H p.1 p.2)
 have h48:=fun H=>Qz (n+3) (id:=110) H (dC P) f2 VV (fun r hr=>by simp only[dC,Z3]at hr;obtain⟨p,_,rfl⟩:=hr;exact⟨_,rfl⟩) (by simpa[dC]using hP) (fun r hr H=>by
  simp only[dC,Z3]at hr;obtain⟨p,_,rfl⟩:=hr;exact SW (n+1) H p)
 have h50:=fun X0=>QK (n+3) (id:=113) X0 (.box [.fn 106 []]) (ft W) f3 (fun r=>oH (KW r)) (fun r hr=>by simp only[ft,Z3]at hr;obtain⟨p,_,rfl⟩:=hr;rfl) (by simpa[ft]using hW) (fun r hr=>by
  simp only[ft,Z3]at hr;obtain⟨w,_,rfl⟩:=hr;exact Ur n X0 w)
 have a38:(dK N).any Vo=N.any (fun p=>!cB p.1 p.2):=any_map' _ _ _ (fun _=>rfl) N
 have a48:(dC P).any VV=P.any (fun p=>!dT p):=any_map' _ _ _ (fun _=>rfl) P
 have a50:(ft W).any (fun r=>oH (KW r))=W.any oH:=any_map' _ _ _ (fun _=>rfl) W
 rw[a38]at h38
 rw[a48]at h48
 simp only[a50]at h50
 simp only[VM,ah,go_sem,simprocAttr,h38]
 repeat' (with_reducible refine aM (fun _=>?_) (fun _=>?_)<;>simp only[*,go_sem,simprocAttr,h38,h48,h50])
 all_goals
  clear h38 h48 h50 a38 a48 a50
  refine congrArg some (congrArg (SV.int .i64) ?_)
  simp only[At,jg]
  generalize (N.any fun p=>!cB p.fst p.snd)=A at *
  generalize (P.any fun p=>!dT p)=B at *
  generalize W.any oH=C at *
  generalize N.length=ln at *
  generalize P.length=lp at *
  generalize W.length=lw at *
  generalize hq:okB ln lp lw A B C ex no th=q
  simp only[okB,Bz]at hq
  cases q<;>simp only[Zr,Zu]<;>grind
theorem AS{A:Type}{q:A→Bool}{l:List A}{i:Nat}{a:A}(h:l[i]?=some a)(hp:q a=true):l.any q=true:=aav.2 ⟨a,Zj h,hp⟩
theorem get_some{A:Type}{l:List A}{i:Nat}(h:i<l.length):∃a,l[i]?=some a:=⟨l[i],Zq h⟩
@[go_sem] theorem W0 (N P W ex no th):decide (At N P W ex no th=0)=jg N P W ex no th:=by
  unfold At;cases jg N P W ex no th<;>rfl
def nN(a b p c d:Int):Bool:=cB a b&&cB c d&&dT p
def qB(v:Int)(ok arg:Bool):Int:=bif ok&&arg then v else 0
def zH(ok arg:Bool)(e:Int):Int:=bif ok then(bif arg then 0 else e)else 1
def uN(N:List (Int×Int))(x y:Int):Bool:=decide (0≤x)&&decide (x<N.length)&&decide (0≤y)&&decide (y<N.length)
def nd(N:List (Int×Int))(i:Nat):Int×Int:=N.getD i (0,0)
def tG(at1:Int→Int→Int→Int→Int→Int)(N:List (Int×Int))(P:List Int)(x y:Int):Int:=
 bif decide (x=y)then 0 else at1 (nd N x.toNat).1 (nd N x.toNat).2 (P.getD x.toNat 0) (nd N y.toNat).1 (nd N y.toNat).2
theorem CC{N:List (Int×Int)}{P:List Int}{W:List Wl}{ex no th:Int}(h:jg N P W ex no th=true):P.length=N.length∧N.length≤32∧W.length≤32∧2≤N.length:=by
 simp only[jg,okB,Zh,Ze]at h
 omega
theorem oZ{N:List (Int×Int)}{x y:Int}:uN N x y=true↔(0≤x∧x<N.length)∧0≤y∧y<N.length:=by
 simp only[uN,Zh,Ze,and_assoc]
theorem js{p:Int}:dT p=true↔0≤p∧p≤68719476736:=by simp only[dT,Zh,Ze]
theorem Cf{p m:Int}(hp:dT p=true)(hm:100≤m):dT (bb ((bb (p*100)).tdiv m))=true∧bb ((bb (p*100)).tdiv m)=p*100/m:=by
 rw[js]at hp
 have e1:bb (p*100)=p*100:=ao (by omega) (by omega)
 have e2:(p*100).tdiv m=p*100/m:=aaI (by omega)
 have h0:0≤p*100/m:=Int.ediv_nonneg (by omega) (by omega)
 have h1:p*100/m≤p:=Int.ediv_le_of_le_mul (by omega) (aaD hm hp.1)
 have e3:bb (p*100/m)=p*100/m:=ao (by omega) (by omega)
 rw[e1,e2,e3]
 exact⟨js.2 (by omega),rfl⟩
theorem Fl(a b c d:Int):100≤mI a b c d:=Int.le_max_right _ _
theorem yu{ex a b p c d:Int}(hp:dT p=true):dT (qy ex a b p c d)=true:=by
 have h1:=(Cf hp (Fl a b c d)).1
 have h2:=(Cf h1 (Fl a b c d)).1
 simp only[qy]
 split
 ·exact h2
 ·exact h1
theorem Af{p f:Int}(hp:dT p=true)(h0:0≤f)(h1:f≤1000):bb ((bb (p*f)).tdiv 1000)=p*f/1000∧0≤p*f/1000∧p*f/1000≤p:=by
 rw[js]at hp
 have k0:0≤p*f:=acG hp.1 h0
 have k1:p*f≤p*1000:=aaD h1 hp.1
 have e1:bb (p*f)=p*f:=ao (by omega) (by omega)
 rw[e1,aaI k0]
 have e3:bb (p*f/1000)=p*f/1000:=ao (by omega) (by omega)
 rw[e3]
 omega
theorem BW{w:Wl}:oH w=false↔cB w.a w.b=true∧cB w.c w.d=true∧0≤w.f∧w.f≤1000:=by
 simp only[oH,aaw,abv,Zi,and_assoc,Int.not_lt]
theorem eh{a b:Int}(h:cB a b=true):jN a∧jN b:=by
 simp only[cB,Zh,Ze]at h
 unfold jN
 omega
theorem step_eq{a b c d p:Int}{w:Wl}(h1:cB a b=true)(h2:cB c d=true)(hp:dT p=true)(hw:oH w=false):kY a b c d p w=ou a b c d p w∧dT (ou a b c d p w)=true∧ou a b c d p w≤p:=by
 obtain⟨k1,k2,k3,k4⟩:=BW.1 hw
 have hc:=zS (eh h1).1 (eh h1).2 (eh h2).1 (eh h2).2 (eh k1).1 (eh k1).2 (eh k2).1 (eh k2).2
 have hs:=Af hp k3 k4
 have hok:wU p w.f=true:=by simp only[wU,hp,ZP,Zh,Ze];exact⟨k3,k4⟩
 unfold kY ou
 rw[hc]
 split
 ·simp only[Ir,hok,if_true]
  rw[hs.1]
  rw[js]at hp⊢
  exact⟨trivial,by omega,by omega⟩
 ·exact⟨rfl,hp,abk _⟩
theorem fold_eq{a b c d:Int}(h1:cB a b=true)(h2:cB c d=true):∀(W:List Wl) (p:Int),dT p=true→W.any oH=false→W.foldl (kY a b c d) p=W.foldl (ou a b c d) p∧dT (W.foldl (ou a b c d) p)=true∧W.foldl (ou a b c d) p≤p
 |[],p,hp,_=>⟨rfl,hp,abk _⟩
 |w::W,p,hp,hW=>by
  simp only[acp,aaw]at hW
  obtain⟨e1,e2,e3⟩:=step_eq h1 h2 hp hW.1
  obtain⟨f1,f2,f3⟩:=fold_eq h1 h2 W _ e2 hW.2
  simp only[aad,e1]
  exact⟨f1,f2,by omega⟩
theorem vA{N:List (Int×Int)}{P:List Int}{W:List Wl}{ex no th:Int}(h:jg N P W ex no th=true):W.any oH=false∧(∀p∈N,cB p.1 p.2=true)∧(∀p∈P,dT p=true):=by
 simp only[jg,okB,Zh,ZK]at h
 obtain⟨⟨⟨⟨⟨⟨⟨⟨_,_⟩,h1⟩,_⟩,h2⟩,_⟩,h3⟩,_⟩,_⟩:=h
 refine⟨h3,fun p hp=>?_,fun p hp=>?_⟩
 ·have:=aau.1 h1 p hp;simpa using this
 ·have:=aau.1 h2 p hp;simpa using this
theorem Bp{N:List (Int×Int)}{P:List Int}{W:List Wl}{ex no th a b p c d:Int}(h:jg N P W ex no th=true)(ha:nN a b p c d=true):Al W ex a b p c d=atR W ex a b p c d∧dT (atR W ex a b p c d)=true:=by
 simp only[nN,Zh]at ha
 obtain⟨⟨h1,h2⟩,h3⟩:=ha
 have:=fold_eq h1 h2 W _ (yu (ex:=ex) (a:=a) (b:=b) (c:=c) (d:=d) h3) (vA h).1
 exact⟨this.1,this.2.1⟩
theorem GG(N:List (Int×Int))(P:List Int)(W:List Wl)(ex no th a b p c d:Int):qB (Al W ex a b p c d) (jg N P W ex no th) (nN a b p c d)=qB (atR W ex a b p c d) (jg N P W ex no th) (nN a b p c d):=by
 cases h:jg N P W ex no th with
 |false=>rfl
 |true=>
  cases h':nN a b p c d with
  |false=>rfl
  |true=>simp only[qB,ZP,Zr,(Bp h h').1]
theorem wq{N:List (Int×Int)}{P:List Int}{W:List Wl}{ex no th x y:Int}(h:jg N P W ex no th=true)(hin:uN N x y=true):tG (Al W ex) N P x y=tG (atR W ex) N P x y∧dT (tG (atR W ex) N P x y)=true:=by
 have hl:=(CC h).1
 have hw:=vA h
 rw[oZ]at hin
 obtain⟨p,hp⟩:=get_some (l:=N) (i:=x.toNat) (by omega)
 obtain⟨q,hq⟩:=get_some (l:=N) (i:=y.toNat) (by omega)
 obtain⟨r,hr⟩:=get_some (l:=P) (i:=x.toNat) (by omega)
 have harg:nN p.1 p.2 r q.1 q.2=true:=by
  simp only[nN,Zh]
  exact⟨⟨hw.2.1 _ (Zj hp),hw.2.1 _ (Zj hq)⟩,hw.2.2 _ (Zj hr)⟩
 have he:=Bp h harg
 simp only[tG,nd,Z7,hp,hq,hr,aaC]
 cases decide (x=y)with
 |true=>exact⟨rfl,rfl⟩
 |false=>exact he
theorem Hy(N:List (Int×Int))(P:List Int)(W:List Wl)(ex no th x y:Int):qB (tG (Al W ex) N P x y) (jg N P W ex no th) (uN N x y)=qB (tG (atR W ex) N P x y) (jg N P W ex no th) (uN N x y):=by
 cases h:jg N P W ex no th with
 |false=>rfl
 |true=>
  cases h':uN N x y with
  |false=>rfl
  |true=>simp only[qB,ZP,Zr,(wq h h').1]
end G
namespace U
theorem Ou:T 158=some (jc true 7):=QS
theorem Wt:T 160=some (jc true 6):=Uj
theorem VY:T 114=some (rS 158):=RE
theorem NS:T 117=some (rS 160):=Us
def di(c:Int):Bool:=decide (0≤c)&&decide (c<16)
theorem uM(n:Nat)(H:ab)(c:Int):aa T (n+1) (.fn 159) [acH c] H=some (.bool (di c),H):=by
 refine ae R5 (by rfl) ?_
 simp only[Jq,ah,go_sem,simprocAttr]
 repeat' (with_reducible refine aM (fun _=>?_) (fun _=>?_)<;>simp only[*,go_sem,simprocAttr])
 all_goals (simp only[di];refine congrArg some (congrArg SV.bool ?_);rw[aam];grind)
def Hb(c:Int):Bool:=decide (0≤c)&&decide (c<32)
theorem Kb(n:Nat)(H:ab)(c:Int):aa T (n+1) (.fn 162) [acH c] H=some (.bool (Hb c),H):=by
 refine ae Vd (by rfl) ?_
 simp only[JH,ah,go_sem,simprocAttr]
 repeat' (with_reducible refine aM (fun _=>?_) (fun _=>?_)<;>simp only[*,go_sem,simprocAttr])
 all_goals (simp only[Hb];refine congrArg some (congrArg SV.bool ?_);rw[aam];grind)
def xD(c:Int):Bool:=decide (-1≤c)&&decide (c<32)
theorem MW(n:Nat)(H:ab)(c:Int):aa T (n+2) (.fn 161) [acH c] H=some (.bool (xD c),H):=by
 refine ae SD (by rfl) ?_
 simp only[Li,ah,go_sem,simprocAttr,Kb]
 repeat' (with_reducible refine aM (fun _=>?_) (fun _=>?_)<;>simp only[*,go_sem,simprocAttr,Kb])
 all_goals (simp only[xD,Hb];refine congrArg some (congrArg SV.bool ?_);rw[aam];grind)
def Bh(a b:Int):Bool:=decide (0≤a)&&decide (a≤b)&&decide (b≤1099511627776)
theorem Dz(n:Nat)(H:ab)(a b:Int):aa T (n+1) (.fn 163) [acH a,acH b] H=some (.bool (Bh a b),H):=by
 refine ae Tv (by rfl) ?_
 simp only[Nx,ah,go_sem,simprocAttr]
 repeat' (with_reducible refine aM (fun _=>?_) (fun _=>?_)<;>simp only[*,go_sem,simprocAttr])
 all_goals (simp only[Bh];grind)
abbrev pt(a b:Int):SV:=.agg [acH a,acH b]
def cB(a b:Int):Bool:=decide (0≤a)&&decide (a≤10000)&&decide (0≤b)&&decide (b≤10000)
def dT(n:Int):Bool:=decide (0≤n)&&decide (n≤68719476736)
structure Fd where
 a:Int
 b:Int
 c:Int
 x:Int
 y:Int
 f:Int
abbrev FX(w:Fd):List SV:=[acH w.a,acH w.b,acH w.c,acH w.x,acH w.y,acH w.f]
def zK(w:Fd):Bool:=xD w.a&&xD w.b&&(decide (w.c= -1)||di w.c)&&Bh w.x w.y&&decide (0≤w.f)&&decide (w.f≤1000)
theorem U4(n:Nat)(H:ab)(w:Fd):aa T (n+3) (.fn 119) [.agg (FX w)] H=some (.bool (zK w),H):=by
 refine ae SA (by rfl) ?_
 simp only[Jr,ah,go_sem,simprocAttr,MW,uM,Dz]
 repeat' (with_reducible refine aM (fun _=>?_) (fun _=>?_)<;>simp only[*,go_sem,simprocAttr,MW,uM,Dz])
 all_goals (simp only[zK];grind)
theorem K0(n:Nat)(H:ab)(w:Fd):aa T (n+4) (.fn 118) [.agg (FX w)] H=some (.bool (!zK w),H):=by
 refine ae Q8 (by rfl) ?_
 simp only[JY,ah,go_sem,simprocAttr,U4]
structure Src where
 a:Int
 b:Int
 p:Int
 C:List Int
 f:Bool
 j5:Int
 fr:Int
 to:Int
abbrev Fo(s:Src):List SV:=[acH s.a,acH s.b,acH s.p,.aA 1 (iS s.C) s.f,acH s.j5,acH s.fr,acH s.to]
def eC(C:List Int)(i:Nat):Bool:=match C[i]? with
 |some c=>!di c||(decide (0<(i:Int))&&match C[i-1]? with|some d=>decide (c≤d)|none=>false)
 |none=>false
theorem vT{C:List Int}{i:Nat}{c:Int}(h:C[i]?=some c)(hz:decide (0<(i:Int))=false):eC C i=!di c:=by simp only[eC,h,hz,ZJ,aa3]
theorem zD{C:List Int}{i k:Nat}{c d:Int}(h:C[i]?=some c)(hi:i=k+1)(hd:C[k]?=some d):eC C i=(!di c||decide (c≤d)):=by
 have h1:decide (0<(i:Int))=true:=Zc (by omega)
 have h2:i-1=k:=by omega
 simp only[eC,h,h1,h2,hd,ZP]
def w9(C:List Int):Bool:=!((List.range C.length).any (eC C))
theorem sM{C:List Int}{i:Nat}{c:Int}(h:C[i]?=some c)(hb:eC C i=true):w9 C=false:=by
 have:(List.range C.length).any (eC C)=true:=aav.2 ⟨i,ZF.2 (Y8.1 h).1,hb⟩
 simp[w9,this]
theorem AL{C:List Int}(h:∀j,j<C.length→eC C j=false):w9 C=true:=by
 have:(List.range C.length).any (eC C)=false:=by
  rw[aau]
  intro j hj
  rw[h j (ZF.1 hj)];simp
 simp[w9,this]
def uO(j5 fr to:Int):Bool:=decide (0≤fr)&&decide (fr≤to)&&decide (to≤j5)&&decide (1≤j5)&&decide (j5≤1000000000)
def tH(s:Src):Bool:=cB s.a s.b&&dT s.p&&w9 s.C&&uO s.j5 s.fr s.to
theorem sk{s:Src}(h:w9 s.C=false):tH s=false:=by simp[tH,h]
theorem GU{s:Src}(h:(cB s.a s.b&&dT s.p)=false):tH s=false:=by simp[tH,h]
theorem Ef{s:Src}(h:(cB s.a s.b&&dT s.p)=true)(hc:w9 s.C=true):tH s=uO s.j5 s.fr s.to:=by simp[tH,h,hc]
theorem UM(n:Nat)(H:ab)(s:Src)(hC:s.C.length≤maxLen):aa T (n+2) (.fn 116) [.agg (Fo s)] H=some (.bool (tH s),H):=by
 refine ae TV (by rfl) ?_
 simp only[Nz,ah,go_sem,simprocAttr]
 repeat' (with_reducible refine aM (fun _=>?_) (fun _=>?_)<;>simp only[*,go_sem,simprocAttr])
 all_goals try (
  with_reducible refine congrArg some (congrArg SV.bool ?_)
  rw[GU (by rw[aco];simp only[cB,dT,ne_eq,Zh,Ze];grind)]
  done)
 have hpp:(cB s.a s.b&&dT s.p)=true:=by
  simp only[cB,dT,Zh,Ze];grind
 refine bn (fun i=>([(1,.ptr 0 0 0 0),(34,.aA 1 (iS s.C) s.f),(35,acH s.C.length),(36,acH i)],⟨[.box (Fo s)],[],0⟩)) (fun i=>∀(j:Nat),j<i→eC s.C j=false) s.C.length ?_ (fun j h=>by omega) ?_
 ·simp only[go_sem,simprocAttr]<;>rfl
 ·intro i hi hP
  rcases Zl i s.C.length with hlt|hge
  ·obtain⟨c,hc⟩:=bV hlt
   have hw:=bR hlt hC
   have hgo:eC s.C i=false→∀j,j<i+1→eC s.C j=false:=fun hb j hj=>by
    rcases Zl j i with h3|h3
    ·exact hP j h3
    ·have:j=i:=by omega
     subst this
     exact hb
   cases hz:decide (0<(i:Int))with
   |false=>
    have hb:=vT hc hz
    cases hx:di c with
    |false=>
     simp only[go_sem,simprocAttr,hlt,hc,uM,hx]
     rw[sk (sM hc (by rw[hb,hx];rfl))]
    |true=>
     simp only[go_sem,simprocAttr,hlt,hc,uM,hx,hw,hz]
     refine⟨by first|trivial|omega,by first|trivial|rfl,?_⟩
     exact hgo (by rw[hb,hx];rfl)
   |true=>
    obtain⟨k,hk⟩:∃k,i=k+1:=⟨i-1,by have:=ZE hz;omega⟩
    have hkl:k<s.C.length:=by omega
    obtain⟨d,hd⟩:=bV hkl
    have hb:=zD hc hk hd
    have hsub:bb ((i:Int)-1)=(k:Int):=by
     have:((i:Int)-1)=((k:Nat):Int):=by omega
     rw[this];exact ao (by omega) (by simp only[maxLen]at hC;omega)
    cases hx:di c with
    |false=>
     simp only[go_sem,simprocAttr,hlt,hc,uM,hx]
     rw[sk (sM hc (by rw[hb,hx];rfl))]
    |true=>
     simp only[go_sem,simprocAttr,hlt,hc,uM,hx,hw,hsub,hz,hd,hkl]
     cases hm:decide (c≤d)with
     |true=>
      simp only[go_sem,simprocAttr]
      rw[sk (sM hc (by rw[hb,hm];simp))]
     |false=>
      simp only[go_sem,simprocAttr,hw]
      refine⟨by first|trivial|omega,by first|trivial|rfl,?_⟩
      exact hgo (by rw[hb,hx,hm];rfl)
  ·have hlt:¬i<s.C.length:=by omega
   have hd:=AL (C:=s.C) (fun j hj=>hP j (by omega))
   rw[Ef hpp hd]
   simp only[go_sem,simprocAttr,hlt]
   repeat' (with_reducible refine aM (fun _=>?_) (fun _=>?_)<;>simp only[*,go_sem,simprocAttr])
   all_goals (simp only[uO];refine congrArg some (congrArg SV.bool ?_);rw[aam];grind)
theorem MX(n:Nat)(H:ab)(s:Src)(hC:s.C.length≤maxLen):aa T (n+3) (.fn 115) [.agg (Fo s)] H=some (.bool (!tH s),H):=by
 have h:=fun H=>UM n H s hC
 refine ae R8 (by rfl) ?_
 simp only[LU,ah,go_sem,simprocAttr,h]
def O9(s:Src)(x y:Int):Bool:=
 if x=y∨s.fr=s.to then false else
 (decide (x%s.j5<s.to)&&decide (s.fr<x%s.j5+y-x))||decide (s.fr+s.j5<x%s.j5+y-x)
theorem Dw{s:Src}(h:tH s=true):uO s.j5 s.fr s.to=true:=by
 simp only[tH,Zh]at h;exact h.2
def dM(L:List Src):List (List SV):=L.map Fo
def dG(L:List Fd):List (List SV):=L.map FX
@[go_sem] theorem Ny {L:List Src}:(dM L).length=L.length:=by simp[dM]
@[go_sem] theorem Kt {L:List Fd}:(dG L).length=L.length:=by simp[dG]
@[go_sem] theorem Jx {L:List Src}{i:Nat}:(dM L)[i]?=(L[i]?).map Fo:=by simp[dM]
@[go_sem] theorem MH {L:List Fd}{i:Nat}:(dG L)[i]?=(L[i]?).map FX:=by simp[dG]
theorem yk{L:List Src}:∀r∈dM L,r.length=7:=by
 intro r hr
 simp only[dM,Z3]at hr
 obtain⟨h,_,rfl⟩:=hr
 rfl
theorem xi{L:List Fd}:∀r∈dG L,r.length=6:=by
 intro r hr
 simp only[dG,Z3]at hr
 obtain⟨h,_,rfl⟩:=hr
 rfl
def toSr(r:List SV):Src:=match r with
 |[.int _ a,.int _ b,.int _ p,.aA _ L f,.int _ j5,.int _ fr,.int _ to]=>⟨a,b,p,L.map (fun c=>match c with|[.int _ x]=>x|_=>0),f,j5,fr,to⟩
 |_=>⟨0,0,0,[],true,0,0,0⟩
theorem toSr_of(s:Src):toSr (Fo s)=s:=by
 obtain⟨a,b,p,C,f,j5,fr,to⟩:=s
 simp[toSr,iS,Function.comp_def]
def toFd(r:List SV):Fd:=match r with
 |[.int _ a,.int _ b,.int _ c,.int _ x,.int _ y,.int _ f]=>⟨a,b,c,x,y,f⟩
 |_=>⟨0,0,0,0,0,0⟩
theorem toFd_of(w:Fd):toFd (FX w)=w:=rfl
theorem AW(p:Src→Bool)(L:List Src):(dM L).any (fun r=>p (toSr r))=L.any p:=by
 simp only[dM,acy]
 congr 1
 funext h
 exact congrArg p (toSr_of h)
theorem Bo(p:Fd→Bool)(L:List Fd):(dG L).any (fun r=>p (toFd r))=L.any p:=by
 simp only[dG,acy]
 rfl
abbrev sp(S:List Src)(f1:Bool)(F:List Fd)(f2:Bool):SV:=.agg [.aA 7 (dM S) f1,.aA 6 (dG F) f2]
def yr(S:List Src):Prop:=S.length≤maxLen∧∀s∈S,s.C.length≤maxLen
def oF(S:List Src)(F:List Fd):Bool:=decide (S.length≤16)&&decide (F.length≤64)&&!S.any (fun s=>!tH s)&&!F.any (fun w=>!zK w)
def ck(S:List Src)(F:List Fd):Int:=bif oF S F then 0 else 1
theorem RK(n:Nat)(H:ab)(S F f1 f2)(z2:Nat)(hz:z2=6∨F=[])(hS:yr S)(hF:F.length≤maxLen):aa T (n+7) (.fn 62) [.agg [.aA 7 (dM S) f1,.aA z2 (dG F) f2]] H=some (acH (ck S F),H):=by
 refine ae Vu (by rfl) ?_
 have h33:=fun H=>gK (T:=T) (f:=114) (n:=n+4) (H:=H) (ag:=true) (z:=7) (id:=115) (caps:=[]) (v:=.aA 7 (dM S) f1) (L:=dM S) (p:=fun r=>!tH (toSr r)) VY Ou (.aA 7 f1 (.inl rfl)) yk (fun h=>by cases h) (by simpa[dM]using hS.1)
  (fun r hr bl ro _=>by
   simp only[dM,Z3]at hr
   obtain⟨h,hh,rfl⟩:=hr
   simp only[toSr_of]
   exact MX (n+1) ⟨bl,[],ro⟩ h (hS.2 h hh)) (by simp[SV.refs.au])
 rw[AW (fun s=>!tH s)]at h33
 have h36:=fun H=>gK (T:=T) (f:=117) (n:=n+4) (H:=H) (ag:=true) (z:=6) (id:=118) (caps:=[]) (v:=.aA z2 (dG F) f2) (L:=dG F) (p:=fun r=>!zK (toFd r)) NS Wt (.aA z2 f2 (hz.imp id (by rintro rfl;rfl))) xi (fun h=>by cases h) (by simpa[dG]using hF)
  (fun r hr bl ro _=>by
   simp only[dG,Z3]at hr
   obtain⟨h,hh,rfl⟩:=hr
   simp only[toFd_of]
   exact K0 n ⟨bl,[],ro⟩ h) (by simp[SV.refs.au])
 rw[Bo (fun s=>!zK s)]at h36
 simp only[QU,ah,go_sem,simprocAttr]
 repeat' (with_reducible refine aM (fun _=>?_) (fun _=>?_)<;>simp only[*,go_sem,simprocAttr,h33,h36])
 all_goals
  clear h33 h36
  refine congrArg some (congrArg (SV.int .i64) ?_)
  simp only[ck,oF]
  generalize (S.any fun s=>!tH s)=A at *
  generalize (F.any fun s=>!zK s)=B at *
  generalize S.length=ls at *
  generalize F.length=lf at *
  cases A<;>cases B<;>simp only[aai,aaF,aa9,Z2,Zu,Bool.cond_eq_ite,Zh,Ze]<;>grind
theorem Wb(n:Nat)(H:ab)(S F f1 f2)(hS:yr S)(hF:F.length≤maxLen):aa T (n+7) (.fn 62) [sp S f1 F f2] H=some (acH (ck S F),H):=RK n H S F f1 f2 6 (.inl rfl) hS hF
def tj(S:List Src)(F:List Fd):Bool:=decide (S.length≤20)&&decide (F.length≤70)&&!S.any (fun s=>decide (20<s.C.length))
theorem HF{S:List Src}{F:List Fd}{i:Nat}{s:Src}(h:S[i]?=some s)(hb:20<s.C.length):tj S F=false:=by
 have:S.any (fun s=>decide (20<s.C.length))=true:=aav.2 ⟨s,Zj h,by simp[hb]⟩
 simp only[tj,this,aai,Z2]
theorem Gj{S:List Src}{F:List Fd}(h1:S.length≤20)(h2:F.length≤70)(hS:∀(j:Nat) s,S[j]?=some s→s.C.length≤20):tj S F=true:=by
 have a:S.any (fun s=>decide (20<s.C.length))=false:=by
  rw[aau];intro s hs
  obtain⟨j,hj⟩:=ab1.1 hs
  have:=hS j s hj
  simp;omega
 simp only[tj,a,h1,h2,aaq,aaF,aa9]
theorem s8{S:List Src}{F:List Fd}(h:tj S F=true):S.length≤20∧F.length≤70∧∀s∈S,s.C.length≤20:=by
 simp only[tj,Zh,Ze,ZK,aau,Nat.not_lt]at h
 exact⟨h.1.1,h.1.2,h.2⟩
theorem Xn(n:Nat)(H:ab)(S F f1 f2)(hS:S.length≤maxLen):aa T (n+2) (.fn 87) [sp S f1 F f2] H=some (.bool (tj S F),H):=by
 refine ae Yv (by rfl) ?_
 simp only[VG,ah,go_sem,simprocAttr]
 repeat' (with_reducible refine aM (fun _=>?_) (fun _=>?_)<;>simp only[*,go_sem,simprocAttr])
 all_goals try (
  with_reducible refine congrArg some (congrArg SV.bool ?_)
  simp only[Ze]at *
  rw[eq_comm,aco]
  intro hq
  have:=s8 hq
  omega)
 have hl1:S.length≤20:=by simp only[Zi]at *;omega
 have hl2:F.length≤70:=by simp only[Zi]at *;omega
 refine bn (fun i=>([(1,.ptr 0 0 0 0),(3,acH i)],⟨[.box [.aA 7 (dM S) f1,.aA 6 (dG F) f2]],[],0⟩)) (fun i=>∀(j:Nat) s,j<i→S[j]?=some s→s.C.length≤20) S.length ?_ (fun j s h=>by omega) ?_
 ·simp only[go_sem,simprocAttr]<;>rfl
 ·intro i hi hP
  rcases Zl i S.length with hlt|hge
  ·obtain⟨s,hs⟩:=bV hlt
   have hw:=bR hlt hS
   rcases Zl 20 s.C.length with hb|hb
   ·have hb':decide (20<(s.C.length:Int))=true:=Zc (by omega)
    simp only[go_sem,simprocAttr,hlt,hs,hb',HF hs hb]
   ·have hb':decide (20<(s.C.length:Int))=false:=Zf (by omega)
    simp only[go_sem,simprocAttr,hlt,hs,hb',hw]
    refine⟨by first|trivial|omega,by first|trivial|rfl,?_⟩
    intro j s' hj hs'
    rcases Zl j i with h3|h3
    ·exact hP j s' h3 hs'
    ·have:j=i:=by omega
     subst this
     rw[hs]at hs';cases hs'
     exact hb
  ·have hlt:¬i<S.length:=by omega
   have hfo:=Gj hl1 hl2 (fun j s hj=>hP j s (by have:=(Y8.1 hj).1;omega) hj)
   simp only[go_sem,simprocAttr,hlt,hfo]
theorem XC:T 192=some pO:=Ko
theorem Xw:T 165=some (sP 192):=MO
theorem Rn(n:Nat)(H:ab)(C:List Int)(f:Bool)(c:Int)(hC:C.length≤maxLen):aa T (n+2) (.fn 165) [.aA 1 (iS C) f,acH c] H=some (.bool (decide (c∈C)),H):=
 qZ Xw XC (.aA 1 f (.inl rfl)) hC
def Ka(c x y:Int)(s:Src):Bool:=decide (c∈s.C)&&O9 s x y
def pz{A:Type}(u:A→Src→A)(c x y:Int)(v:A)(s:Src):A:=if Ka c x y s=true then u v s else v
theorem jh{A B:Type}(f:A→B→A)(z:A){l:List B}{i:Nat}{x:B}(h:l[i]?=some x):(l.take (i+1)).foldl f z=f ((l.take i).foldl f z) x:=by
 rw[aaE,h];simp
@[go_sem] theorem Y0 (S F):decide (ck S F=0)=oF S F:=by unfold ck;cases oF S F<;>rfl
def V3(a b c:Bool)(v:Int):Int:=bif a&&b&&c then v else 0
def E3(a b c:Bool):Int:=bif a then(bif b then(bif c then 0 else 2)else 7)else 1
def eB(n:Nat)(a:Int):Bool:=decide (0≤a)&&decide (a<n)
theorem GL{n:Nat}{a:Int}:eB n a=true↔∃k:Nat,a=k∧k<n:=by
 unfold eB
 rw[Zh,Ze,Ze]
 constructor
 ·rintro⟨h1,h2⟩;exact⟨a.toNat,by omega,by omega⟩
 ·rintro⟨k,rfl,h⟩;omega
theorem F9{n:Nat}{a:Int}(h:eB n a=false):decide (a<0)=true∨(decide (a<0)=false∧decide ((n:Int)≤a)=true):=by
 unfold eB at h
 simp only[aaU,Zi,Ze]at *
 omega
theorem HP{n k:Nat}(h:k<n):decide ((k:Int)<0)=false∧decide ((n:Int)≤(k:Int))=false:=by
 simp only[Zi];omega
theorem DU{S F}(h:oF S F=true):∀s∈S,tH s=true:=by
 intro s hs
 simp only[oF,Zh,ZK]at h
 have:=aau.1 h.1.2 s hs
 simpa using this
def C0(N:List (Int×Int))(P:List Int)(W:List G.Wl)(ex no th:Int)(k:Nat)(s:Src):Int:=
 G.qB (G.Al W ex s.a s.b s.p (G.nd N k).1 (G.nd N k).2) (G.jg N P W ex no th) (G.nN s.a s.b s.p (G.nd N k).1 (G.nd N k).2)
def FG(N:List (Int×Int))(P:List Int)(W:List G.Wl)(ex no th:Int)(k:Nat)(s:Src):Int:=
 G.qB (G.atR W ex s.a s.b s.p (G.nd N k).1 (G.nd N k).2) (G.jg N P W ex no th) (G.nN s.a s.b s.p (G.nd N k).1 (G.nd N k).2)
def Df(f:Src→Int)(S:List Src)(c x y:Int):Int:=S.foldl (pz (fun v s=>bb (v+f s)) c x y) 0
abbrev Jy(z1:Nat)(S:List Src)(f1:Bool)(z2:Nat)(F:List Fd)(f2:Bool):SV:=.agg [.aA z1 (dM S) f1,.aA z2 (dG F) f2]
theorem Fz(n:Nat)(H:ab)(S F f1 f2)(z1 z2:Nat)(hz1:z1=7∨S=[])(hz:z2=6∨F=[])(hS:yr S)(hF:F.length≤maxLen):aa T (n+7) (.fn 62) [Jy z1 S f1 z2 F f2] H=some (acH (ck S F),H):=by
 refine ae Vu (by rfl) ?_
 have h33:=fun H=>gK (T:=T) (f:=114) (n:=n+4) (H:=H) (ag:=true) (z:=7) (id:=115) (caps:=[]) (v:=.aA z1 (dM S) f1) (L:=dM S) (p:=fun r=>!tH (toSr r)) VY Ou (.aA z1 f1 (hz1.imp id (by rintro rfl;rfl))) yk (fun h=>by cases h) (by simpa[dM]using hS.1)
  (fun r hr bl ro _=>by
   simp only[dM,Z3]at hr
   obtain⟨h,hh,rfl⟩:=hr
   simp only[toSr_of]
   exact MX (n+1) ⟨bl,[],ro⟩ h (hS.2 h hh)) (by simp[SV.refs.au])
 rw[AW (fun s=>!tH s)]at h33
 have h36:=fun H=>gK (T:=T) (f:=117) (n:=n+4) (H:=H) (ag:=true) (z:=6) (id:=118) (caps:=[]) (v:=.aA z2 (dG F) f2) (L:=dG F) (p:=fun r=>!zK (toFd r)) NS Wt (.aA z2 f2 (hz.imp id (by rintro rfl;rfl))) xi (fun h=>by cases h) (by simpa[dG]using hF)
  (fun r hr bl ro _=>by
   simp only[dG,Z3]at hr
   obtain⟨h,hh,rfl⟩:=hr
   simp only[toFd_of]
   exact K0 n ⟨bl,[],ro⟩ h) (by simp[SV.refs.au])
 rw[Bo (fun s=>!zK s)]at h36
 simp only[QU,ah,go_sem,simprocAttr]
 repeat' (with_reducible refine aM (fun _=>?_) (fun _=>?_)<;>simp only[*,go_sem,simprocAttr,h33,h36])
 all_goals
  clear h33 h36
  refine congrArg some (congrArg (SV.int .i64) ?_)
  simp only[ck,oF]
  generalize (S.any fun s=>!tH s)=A at *
  generalize (F.any fun s=>!zK s)=B at *
  generalize S.length=ls at *
  generalize F.length=lf at *
  cases A<;>cases B<;>simp only[aai,aaF,aa9,Z2,Zu,Bool.cond_eq_ite,Zh,Ze]<;>grind
def Qu(a b:Int)(w:Fd):Bool:=(decide (w.a= -1)||decide (w.a=a))&&(decide (w.b= -1)||decide (w.b=b))
def zB(a b c t:Int)(w:Fd):Bool:=Qu a b w&&(decide (w.c= -1)||decide (w.c=c))&&decide (w.x≤t)&&decide (t<w.y)
def Ev(p:Fd→Bool)(v:Int)(w:Fd):Int:=if p w=true then min v w.f else v
def zJ(p:Fd→Bool)(F:List Fd):Int:=F.foldl (Ev p) 1000
def EM(t:Int):Bool:=decide (0≤t)&&decide (t≤1099511627776)
def FF(p f:Int):Int:=bb ((bb (p*f)).tdiv 1000)
theorem Bf{F:List Fd}(p:Fd→Bool)(h:∀w∈F,0≤w.f):0≤zJ p F∧zJ p F≤1000:=by
 have key:∀(F:List Fd) (v:Int),(∀w∈F,0≤w.f)→0≤v→v≤1000→0≤F.foldl (Ev p) v∧F.foldl (Ev p) v≤1000:=by
  intro F
  induction F with
  |nil=>intro v _ h1 h2;exact⟨h1,h2⟩
  |cons w F ih=>
   intro v hw h1 h2
   have hf:=hw w (by simp)
   refine ih _ (fun w' hw'=>hw w' (by simp[hw'])) ?_ ?_
   ·unfold Ev;split<;>omega
   ·unfold Ev;split<;>omega
 exact key F 1000 h (by omega) (by omega)
theorem Gu{S F}(h:oF S F=true):∀w∈F,zK w=true:=by
 intro w hw
 simp only[oF,Zh,ZK]at h
 have:=aau.1 h.2 w hw
 simpa using this
theorem Cd{S F}(h:oF S F=true):∀w∈F,0≤w.f:=fun w hw=>by
 have:=Gu h w hw
 simp only[zK,Zh,Ze]at this
 exact this.1.2
theorem rQ(a b c:Bool)(v:Int):V3 a b c v=bif a then(bif b then(bif c then v else 0)else 0)else 0:=by cases a<;>cases b<;>cases c<;>rfl
theorem JO{t:Int}(h:EM t=false):decide (t<0)=true∨(decide (t<0)=false∧decide (1099511627776<t)=true):=by
 simp only[EM,aaU,Zi,Ze]at *;omega
theorem Hh{t:Int}(h:EM t=true):decide (t<0)=false∧decide (1099511627776<t)=false:=by
 simp only[EM,Zh,Ze,Zi]at *;omega
end U
namespace kR
theorem NS:T 192=some pO:=Ko
theorem XM:T 165=some (sP 192):=MO
theorem WZ{bl:List aD}{C:List Int}{f:Bool}:LV bl 1 (iS C) (.aA 1 (iS C) f):=.aA 1 f (.inl rfl)
def di(c:Int):Bool:=decide (0≤c)&&decide (c<16)
theorem Lq(n:Nat)(H:ab)(c:Int):aa T (n+1) (.fn 164) [acH c] H=some (.bool (di c),H):=by
 refine ae Qk (by rfl) ?_
 simp only[MF,ah,go_sem,simprocAttr]
 repeat' (with_reducible refine aM (fun _=>?_) (fun _=>?_)<;>simp only[*,go_sem,simprocAttr])
 all_goals (simp only[di];refine congrArg some (congrArg SV.bool ?_);rw[aam];grind)
def eC(C:List Int)(i:Nat):Bool:=match C[i]? with
 |some c=>!di c||decide (c∈C.take i)
 |none=>false
theorem pk{C:List Int}{i:Nat}{c:Int}(h:C[i]?=some c):eC C i=(!di c||decide (c∈C.take i)):=by simp[eC,h]
def oG(C:List Int):Bool:=!((List.range C.length).any (eC C))&&decide (0<C.length)
theorem uU{C:List Int}{i:Nat}{c:Int}(h:C[i]?=some c)(hb:eC C i=true):oG C=false:=by
 have:(List.range C.length).any (eC C)=true:=aav.2 ⟨i,ZF.2 (Y8.1 h).1,hb⟩
 simp[oG,this]
theorem y7{C:List Int}(h:∀j,j<C.length→eC C j=false):oG C=decide (0<C.length):=by
 have:(List.range C.length).any (eC C)=false:=by
  rw[aau]
  intro j hj
  rw[h j (ZF.1 hj)];simp
 simp[oG,this]
theorem Tq(n:Nat)(H:ab)(C:List Int)(f:Bool)(hC:C.length≤maxLen):aa T (n+3) (.fn 121) [.aA 1 (iS C) f] H=some (.bool (oG C),H):=by
 refine ae R9 (by rfl) ?_
 simp only[Mk,ah,go_sem,simprocAttr]
 refine bn (fun i=>([(0,.aA 1 (iS C) f),(5,.aA 1 (iS C) f),(6,acH C.length),(7,acH i)],⟨[],[],0⟩)) (fun i=>∀(j:Nat),j<i→eC C j=false) C.length ?_ (fun j h=>by omega) ?_
 ·simp only[go_sem,simprocAttr]<;>rfl
 ·intro i hi hP
  rcases Zl i C.length with hlt|hge
  ·obtain⟨c,hc⟩:=bV hlt
   have hw:=bR hlt hC
   have hb:=pk hc
   have hle:decide ((i:Int)≤(C.length:Int))=true:=Zc (by omega)
   have h13:=fun H=>qZ (n:=n) (H:=H) (v:=.aA 1 (iS (C.take i)) (f&&i==C.length)) (M:=C.take i) (x:=c) XM NS (WZ) (by simp;omega)
   cases hx:di c with
   |false=>
    simp only[go_sem,simprocAttr,hlt,hc,Lq,hx]
    rw[uU hc (by rw[hb,hx];rfl)]
   |true=>
    simp only[go_sem,simprocAttr,hlt,hc,Lq,hx,hle,EK,h13]
    cases hm:decide (c∈C.take i)with
    |true=>
     simp only[go_sem,simprocAttr]
     rw[uU hc (by rw[hb,hm];simp)]
    |false=>
     simp only[go_sem,simprocAttr,hw]
     refine⟨by first|trivial|omega,by first|trivial|rfl,?_⟩
     intro j hj
     rcases Zl j i with h3|h3
     ·exact hP j h3
     ·have:j=i:=by omega
      subst this
      rw[hb,hx,hm];rfl
  ·have hlt:¬i<C.length:=by omega
   have hd:=y7 (C:=C) (fun j hj=>hP j (by omega))
   simp only[go_sem,simprocAttr,hlt,hd]
   refine congrArg some (congrArg SV.bool ?_)
   rw[aam,Ze,Ze];omega
abbrev hl(v a b:Int)(z:Nat)(C:List Int)(f:Bool):SV:=.agg [acH v,acH a,acH b,.aA z (iS C) f]
def CF(v a b:Int)(C:List Int):Bool:=decide (0≤v)&&decide (v≤255)&&decide (0≤a)&&decide (a<b)&&decide (b≤109951163)&&oG C
def HM(v a b:Int)(C:List Int):Int:=bif CF v a b C then 0 else 1
theorem Eh{v a b:Int}{C:List Int}(h:CF v a b C=true):HM v a b C=0:=by simp[HM,h]
theorem Gm{v a b:Int}{C:List Int}(h:CF v a b C=false):HM v a b C=1:=by simp[HM,h]
theorem V6(n:Nat)(H:ab)(v a b:Int)(C:List Int)(f:Bool)(hC:C.length≤maxLen):aa T (n+4) (.fn 64) [hl v a b 1 C f] H=some (acH (HM v a b C),H):=by
 refine ae XF (by rfl) ?_
 have h37:=fun H=>Tq n H C f hC
 simp only[We,ah,go_sem,simprocAttr,h37]
 repeat' (with_reducible refine aM (fun _=>?_) (fun _=>?_)<;>simp only[*,go_sem,simprocAttr,h37])
 all_goals
  clear h37
  refine congrArg some (congrArg (SV.int .i64) ?_)
  simp only[HM]
  generalize hq:CF v a b C=q
  simp only[CF]at hq
  generalize oG C=D at *
  cases q<;>simp only[Zr,Zu]<;>grind
def GI(C:List Int)(s o:Int):Int:=C.getD ((s+o)%(C.length:Int)).toNat 0
def Fs(v a b:Int)(C:List Int)(s o:Int):Int:=bif CF v a b C then(bif decide (a≤s)&&decide (s<b)then(bif decide (0≤o)&&decide (o<(C.length:Int))then 0 else 2)else 12)else 1
def oX(v a b:Int)(C:List Int)(s o:Int):Int:=bif decide (Fs v a b C s o=0)then GI C s o else 0
theorem uf{v a b:Int}{C:List Int}(h:CF v a b C=true):(0≤v∧v≤255)∧0≤a∧a<b∧b≤109951163∧oG C=true:=by
 simp only[CF,Zh,Ze]at h
 exact⟨⟨h.1.1.1.1.1,h.1.1.1.1.2⟩,h.1.1.1.2,h.1.1.2,h.1.2,h.2⟩
theorem CN{C:List Int}(h:oG C=true):0<C.length:=by
 simp only[oG,Zh,Ze]at h
 exact h.2
theorem Tm(n:Nat)(bl es ro)(C:List Int)(f:Bool)(x:Int):aa T (n+1) (.rW 154) [.aA 1 (iS C) f,acH x] ⟨bl,es,ro⟩=
 some (.fn 191 [.ptr bl.length 0 0 0,.ptr (bl.length+1) 0 0 0],⟨bl++[.box [.aA 1 (iS C) f],.box [acH x]],es,ro⟩):=by
 refine fg R3 ?_
 simp only[Mi,go_sem,simprocAttr,Za,Y9]
def Fg(C:List Int)(s:Int)(i:Nat):Int:=C.getD ((s+i)%(C.length:Int)).toNat 0
theorem Q5(n o:Nat)(q:eN)(X0:aD)(X1 X2:Nat→aD)(C:List Int)(f:Bool)(s:Int)(hs:0≤s)(hs1:s<C.length)(ho:o<C.length)(hC:C.length≤1000)
 (hy:∀i,i<o→aa T n (.fp 5) [acH (Fg C s i)] ⟨[X0,X1 i,X2 i,.box [.aA 1 (iS C) f],.box [acH s],.loop q .ready .normal],[],0⟩=
  some (.bool true,⟨[X0,X1 (i+1),X2 (i+1),.box [.aA 1 (iS C) f],.box [acH s],.loop q .ready .normal],[],0⟩))
 (Y1 Y2:aD) (st:LoopState) (pe:kT)
 (hyE:aa T n (.fp 5) [acH (Fg C s o)] ⟨[X0,X1 o,X2 o,.box [.aA 1 (iS C) f],.box [acH s],.loop q .ready .normal],[],0⟩=
  some (.bool false,⟨[X0,Y1,Y2,.box [.aA 1 (iS C) f],.box [acH s],.loop q st pe],[],0⟩)) :
 aa T (n+1) (.fn 191) [.fp 5,.ptr 3 0 0 0,.ptr 4 0 0 0] ⟨[X0,X1 0,X2 0,.box [.aA 1 (iS C) f],.box [acH s],.loop q .ready .normal],[],0⟩=
  some (.ba [],⟨[X0,Y1,Y2,.box [.aA 1 (iS C) f],.box [acH s],.loop q st pe],[],0⟩):=by
 refine bj Rc (by rfl) ?_
 simp only[Mh,go_sem,simprocAttr]
 refine bn (fun i=>([(0,.fp 5),(1,.ptr 3 0 0 0),(2,.ptr 4 0 0 0),(6,acH C.length),(7,acH i)],⟨[X0,X1 i,X2 i,.box [.aA 1 (iS C) f],.box [acH s],.loop q .ready .normal],[],0⟩)) (fun _=>True) o ?_ trivial ?_
 ·simp only[go_sem,simprocAttr]<;>rfl
 ·intro i hi _
  have hlt:i<C.length:=by omega
  have hw:bb (s+i)=s+i:=ao (by omega) (by omega)
  have hw1:=bR hlt (ZN hC (by decide))
  have hn0:decide ((C.length:Int)=0)=false:=Zf (by omega)
  have htm:(s+i).tmod (C.length:Int)=(s+i)%(C.length:Int):=aaM (by omega)
  have hm0:0≤(s+i)%(C.length:Int):=acz _ (by omega)
  have hm1:(s+i)%(C.length:Int)<C.length:=acf _ (by omega)
  have e9:decide (0≤(s+i)%(C.length:Int))=true:=Zc hm0
  have eZq:decide ((s+i)%(C.length:Int)<C.length)=true:=Zc hm1
  have hc:C[((s+i)%(C.length:Int)).toNat]?=some (Fg C s i):=by
   rw[Fg,Z7,Zq (by omega)];rfl
  rcases Zl i o with hio|hio
  ·simp only[go_sem,simprocAttr,hlt,hw,hn0,htm,e9,eZq,hc,hy i hio,hw1]
   refine⟨by first|trivial|omega,by first|trivial|rfl,?_⟩
   trivial
  ·obtain rfl:i=o:=by omega
   simp only[go_sem,simprocAttr,hlt,hw,hn0,htm,e9,eZq,hc,hyE]
def My(C:List Int)(s:Int):Nat→Int
 |0=>0
 |i+1=>Fg C s i
def vm(o:Nat):Nat→Int
 |0=>(o:Int)
 |i+1=>(o:Int)-((i+1:Nat):Int)
theorem mz(o i:Nat):vm o i=(o:Int)-i:=by
 cases i with
 |zero=>simp[vm]
 |succ i=>rfl
theorem iP{A R:Type}{v:Option A}{f:A→Option R}{t:oR f}{r:Option R}(o:A)(h:v=some o)(k:f o=r):aN v f t=r:=by rw[h];exact k
theorem U2(n:Nat)(H:ab)(v a b:Int)(C:List Int)(f:Bool)(s o:Int)(hC:C.length≤1000):aa T (n+5) (.fn 105) [hl v a b 1 C f,acH s,acH o] H=some (.ba [acH (oX v a b C s o),acH (Fs v a b C s o)],H):=by
 refine ae U6 (by rfl) ?_
 have h24:=fun H=>V6 n H v a b C f (ZN hC (by decide))
 cases hok:CF v a b C with
 |false=>
  rw[Gm hok]at h24
  simp only[HL,ah,go_sem,simprocAttr,h24,oX,Fs,hok]
 |true=>
  rw[Eh hok]at h24
  obtain⟨hv,ha,hab,hb,hd⟩:=uf hok
  have hpos:=CN hd
  simp only[HL,ah,go_sem,simprocAttr,h24,oX,Fs,hok]
  by_cases h1:s<a
  ·have e1:decide (s<a)=true:=Zc h1
   have e2:decide (a≤s)=false:=Zf (by omega)
   simp only[e1,e2,go_sem,simprocAttr]
  ·have e1:decide (s<a)=false:=Zf h1
   have e2:decide (a≤s)=true:=Zc (by omega)
   by_cases h2:b≤s
   ·have e3:decide (b≤s)=true:=Zc h2
    have e4:decide (s<b)=false:=Zf (by omega)
    simp only[e1,e2,e3,e4,go_sem,simprocAttr]
   ·have e3:decide (b≤s)=false:=Zf h2
    have e4:decide (s<b)=true:=Zc (by omega)
    by_cases h3:o<0
    ·have e5:decide (o<0)=true:=Zc h3
     have e6:decide (0≤o)=false:=Zf (by omega)
     simp only[e1,e2,e3,e4,e5,e6,go_sem,simprocAttr]
    ·have e5:decide (o<0)=false:=Zf h3
     have e6:decide (0≤o)=true:=Zc (by omega)
     by_cases h4:(C.length:Int)≤o
     ·have e7:decide ((C.length:Int)≤o)=true:=Zc h4
      have e8:decide (o<(C.length:Int))=false:=Zf (by omega)
      simp only[e1,e2,e3,e4,e5,e6,e7,e8,go_sem,simprocAttr]
     ·have e7:decide ((C.length:Int)≤o)=false:=Zf h4
      have e8:decide (o<(C.length:Int))=true:=Zc (by omega)
      have hn0:decide ((C.length:Int)=0)=false:=Zf (by omega)
      have htm:s.tmod (C.length:Int)=s%(C.length:Int):=aaM (by omega)
      obtain⟨o',rfl⟩:=abq (show 0≤o by omega)
      have hm0:0≤s%(C.length:Int):=acz _ (by omega)
      have hm1:s%(C.length:Int)<C.length:=acf _ (by omega)
      simp only[e1,e2,e3,e4,e5,e6,e7,e8,hn0,htm,go_sem,simprocAttr,Tm]
      refine iP _ (Q5 (n+3) o' _ _ (fun i=>.box [acH (vm o' i)]) (fun i=>.box [acH (My C (s%(C.length:Int)) i)]) C f (s%(C.length:Int)) hm0 hm1 (by omega) hC ?_
       (.box [acI]) (.box [acH (Fg C (s%(C.length:Int)) o')]) .done (.exit 1) ?_) ?_
      ·intro i hi
       refine nK rfl rfl ?_
       have g1:decide (vm o' i=0)=false:=Zf (by rw[mz];omega)
       have g2:bb (vm o' i-1)=vm o' (i+1):=by rw[mz,mz,ao (by omega) (by omega)];omega
       simp only[go_sem,simprocAttr,fc,g1,g2,My]
      ·refine nK rfl rfl ?_
       have g1:decide (vm o' o'=0)=true:=Zc (by rw[mz];omega)
       have g0:vm o' o'=0:=by rw[mz];omega
       simp only[go_sem,simprocAttr,fc,g1,g0]
      ·have hfin:GI C s o'=Fg C (s%(C.length:Int)) o':=by
        unfold GI Fg
        rw[Int.emod_add_emod]
       simp only[go_sem,simprocAttr,hfin]
end kR
namespace fm
abbrev fr(k s d q o c m e t u v:Int)(x:ByteArray):List SV:=[acH k,acH s,acH d,acH q,acH o,acH c,acH m,acH e,acH t,acH u,acH v,.str x]
def eB(x h:Int):Bool:=decide (0≤x)&&decide (x≤h)
def Ai(x:Int):Bool:=decide (-32768≤x)&&decide (x≤32767)
theorem gg(n:Nat)(H:ab)(x h:Int):aa T (n+1) (.fn 196) [acH x,acH h] H=some (.bool (eB x h),H):=by
 refine ae UI (by rfl) ?_
 simp only[JC,ah,go_sem,simprocAttr,eB]
 repeat' (with_reducible refine aM (fun _=>?_) (fun _=>?_)<;>simp only[*,go_sem,simprocAttr,eB])
theorem sg(n:Nat)(H:ab)(x h:Int):aa T (n+1) (.fn 142) [acH x,acH h] H=some (.bool (eB x h),H):=by
 refine ae Sm (by rfl) ?_
 simp only[Jw,ah,go_sem,simprocAttr,eB]
 repeat' (with_reducible refine aM (fun _=>?_) (fun _=>?_)<;>simp only[*,go_sem,simprocAttr,eB])
theorem sE(n:Nat)(H:ab)(x:Int):aa T (n+1) (.fn 214) [acH x] H=some (.bool (Ai x),H):=by
 refine ae RF (by rfl) ?_
 simp only[LJ,ah,go_sem,simprocAttr,Ai]
 repeat' (with_reducible refine aM (fun _=>?_) (fun _=>?_)<;>simp only[*,go_sem,simprocAttr,Ai])
def tF(s d:Int):Bool:=eB d 31&&!decide (d=s)
theorem tg(n:Nat)(H:ab)(k s d q o c m e t u v:Int)(x:ByteArray):aa T (n+2) (.fn 213) [.agg (fr k s d q o c m e t u v x)] H=some (.bool (tF s d),H):=by
 refine ae Vb (by rfl) ?_
 simp only[Ky,ah,go_sem,simprocAttr,tF,gg]
 cases eB d 31<;>simp only[go_sem,simprocAttr,gg]
def Hg(k s d q o c m e t u v:Int)(x:ByteArray):SV:=
 bif decide (k=1)then .ba [.agg (fr k s d q o 0 0 e t u v ⟨#[]⟩),.bool (tF s d&&eB c 255&&eB m 65535)]
 else bif decide (k=2)then .ba [.agg (fr k s d q o c m 0 t u v x),.bool (tF s d&&Ai e)]
 else bif decide (k=3)then .ba [.agg (fr k s d q o c m e 0 0 0 ⟨#[]⟩),.bool (decide (d= -1)&&eB t 109951162&&eB u 65535&&eB v 65535)]
 else bif decide (k=4)then .ba [.agg (fr k s d q o c m e t u v ⟨#[]⟩),.bool (decide (d= -1)||tF s d)]
 else .ba [.agg (fr k s d q o c m e t u v x),.bool false]
theorem TZ(n:Nat)(H:ab)(k s d q o c m e t u v:Int)(x:ByteArray):aa T (n+3) (.fn 195) [.agg (fr k s d q o c m e t u v x)] H=some (Hg k s d q o c m e t u v x,H):=by
 refine ae RT (by rfl) ?_
 simp only[LL,ah,go_sem,simprocAttr,gg,sE,tg]
 cases h1:decide (k=1)with
 |true=>
  simp only[go_sem,simprocAttr,gg,sE,tg,Hg,h1]
  cases h5:tF s d<;>cases h6:eB c 255<;>simp only[go_sem,simprocAttr,gg,sE,tg,h5,h6]
 |false=>
  cases h2:decide (k=2)with
  |true=>
   simp only[go_sem,simprocAttr,gg,sE,tg,Hg,h1,h2]
   cases h5:tF s d<;>simp only[go_sem,simprocAttr,gg,sE,tg,h5]
  |false=>
   cases h3:decide (k=3)with
   |true=>
    simp only[go_sem,simprocAttr,gg,sE,tg,Hg,h1,h2,h3]
    cases h5:decide (d= -1)<;>cases h6:eB t 109951162<;>cases h7:eB u 65535<;>simp only[go_sem,simprocAttr,gg,sE,tg,h5,h6,h7]
   |false=>
    cases h4:decide (k=4)with
    |true=>
     simp only[go_sem,simprocAttr,gg,sE,tg,Hg,h1,h2,h3,h4]
     cases h5:decide (d= -1)<;>simp only[go_sem,simprocAttr,gg,sE,tg,h5]
    |false=>simp only[go_sem,simprocAttr,Hg,h1,h2,h3,h4]
def z0(c:Int):Bool:=decide (c=0)
def lg(k s d q o c m e t u v:Int)(x:ByteArray):Bool:=
 (bif decide (k=1)then(tF s d&&eB c 255&&eB m 65535)&&(decide (e=0)&&(decide (t=0)&&(decide (u=0)&&decide (v=0))))
 else bif decide (k=2)then(tF s d&&Ai e)&&(decide (c=0)&&(decide (m=0)&&(decide (t=0)&&(decide (u=0)&&(decide (v=0)&&decide (x=⟨#[]⟩))))))
 else bif decide (k=3)then(decide (d= -1)&&eB t 109951162&&eB u 65535&&eB v 65535)&&(decide (c=0)&&(decide (m=0)&&decide (e=0)))
 else bif decide (k=4)then(decide (d= -1)||tF s d)&&(decide (c=0)&&(decide (m=0)&&(decide (e=0)&&(decide (t=0)&&(decide (u=0)&&decide (v=0))))))
 else false)&&(eB s 31&&(eB q 255&&eB o 255))
theorem U0(n:Nat)(H:ab)(k s d q o c m e t u v:Int)(x:ByteArray):aa T (n+4) (.fn 174) [.agg (fr k s d q o c m e t u v x)] H=some (acH (bif lg k s d q o c m e t u v x then 0 else 1),H):=by
 refine ae Qt (by rfl) ?_
 simp only[JW,ah,go_sem,simprocAttr,TZ,gg]
 unfold Hg lg
 cases h1:decide (k=1)with
 |true=>
  cases h5:(tF s d&&eB c 255&&eB m 65535)with
  |false=>simp only[go_sem,simprocAttr,gg,h1,h5]
  |true=>
   cases h6:(decide (e=0)&&(decide (t=0)&&(decide (u=0)&&decide (v=0))))<;>simp only[go_sem,simprocAttr,gg,h1,h5,h6]
   cases h7:eB s 31<;>cases h8:eB q 255<;>cases h9:eB o 255<;>simp only[go_sem,simprocAttr,gg,h7,h8,h9]
 |false=>
  cases h2:decide (k=2)with
  |true=>
   cases h5:(tF s d&&Ai e)with
   |false=>simp only[go_sem,simprocAttr,gg,h1,h2,h5]
   |true=>
    cases h6:(decide (c=0)&&(decide (m=0)&&(decide (t=0)&&(decide (u=0)&&(decide (v=0)&&decide (x=⟨#[]⟩))))))<;>simp only[go_sem,simprocAttr,gg,h1,h2,h5,h6]
    cases h7:eB s 31<;>cases h8:eB q 255<;>cases h9:eB o 255<;>simp only[go_sem,simprocAttr,gg,h7,h8,h9]
  |false=>
   cases h3:decide (k=3)with
   |true=>
    cases h5:(decide (d= -1)&&eB t 109951162&&eB u 65535&&eB v 65535)with
    |false=>simp only[go_sem,simprocAttr,gg,h1,h2,h3,h5]
    |true=>
     cases h6:(decide (c=0)&&(decide (m=0)&&decide (e=0)))<;>simp only[go_sem,simprocAttr,gg,h1,h2,h3,h5,h6]
     cases h7:eB s 31<;>cases h8:eB q 255<;>cases h9:eB o 255<;>simp only[go_sem,simprocAttr,gg,h7,h8,h9]
   |false=>
    cases h4:decide (k=4)with
    |true=>
     cases h5:(decide (d= -1)||tF s d)with
     |false=>simp only[go_sem,simprocAttr,gg,h1,h2,h3,h4,h5]
     |true=>
      cases h6:(decide (c=0)&&(decide (m=0)&&(decide (e=0)&&(decide (t=0)&&(decide (u=0)&&decide (v=0))))))<;>simp only[go_sem,simprocAttr,gg,h1,h2,h3,h4,h5,h6]
      cases h7:eB s 31<;>cases h8:eB q 255<;>cases h9:eB o 255<;>simp only[go_sem,simprocAttr,gg,h7,h8,h9]
    |false=>simp only[go_sem,simprocAttr,gg,h1,h2,h3,h4]
end fm
namespace fm
def bt(b:Bool):Nat:=bif b then 1 else 0
theorem ue(b:Bool):bt b≤1:=by cases b<;>decide
def cT(bs:List Bool)(i:Nat):Nat:=bt ((bs[i]?).getD false)
theorem ie(bs:List Bool)(i:Nat):cT bs i≤1:=ue _
theorem mC{bs:List Bool}{i:Nat}(h:bs.length≤i):cT bs i=0:=by
 unfold cT;rw[aao h];rfl
theorem tP(bs:List Bool)(b:Bool)(i:Nat):cT (bs++[b]) i=cT bs i+(if i=bs.length then bt b else 0):=by
 by_cases h:i=bs.length
 ·subst h
  rw[if_pos rfl,mC (Zp _)]
  simp[cT]
 ·rw[if_neg h]
  by_cases h2:i<bs.length
  ·simp[cT,Zm h2]
  ·rw[mC (bs:=bs) (by omega),mC (by simp;omega)]
def da(bs:List Bool)(j:Nat):Nat:=
 cT bs (8*j)*128+cT bs (8*j+1)*64+cT bs (8*j+2)*32+cT bs (8*j+3)*16+cT bs (8*j+4)*8+cT bs (8*j+5)*4+cT bs (8*j+6)*2+cT bs (8*j+7)
theorem mG(bs:List Bool)(j:Nat):da bs j<256:=by
 have:=ie bs (8*j);have:=ie bs (8*j+1);have:=ie bs (8*j+2);have:=ie bs (8*j+3)
 have:=ie bs (8*j+4);have:=ie bs (8*j+5);have:=ie bs (8*j+6);have:=ie bs (8*j+7)
 unfold da;omega
theorem m8(n:Nat):n%8=0∨n%8=1∨n%8=2∨n%8=3∨n%8=4∨n%8=5∨n%8=6∨n%8=7:=by omega
theorem qd{bs:List Bool}{b:Bool}{j:Nat}(h:j≠bs.length/8):da (bs++[b]) j=da bs j:=by
 unfold da
 simp only[tP]
 rw[if_neg (by omega),if_neg (by omega),if_neg (by omega),if_neg (by omega),if_neg (by omega),if_neg (by omega),if_neg (by omega),if_neg (by omega)]
 simp only[aaN]
theorem Ab(bs:List Bool)(b:Bool):da (bs++[b]) (bs.length/8)=da bs (bs.length/8)+bt b*2 ^ (7-bs.length%8):=by
 unfold da
 simp only[tP]
 rcases m8 bs.length with h|h|h|h|h|h|h|h<;>rw[h]
 ·rw[if_pos (by omega),if_neg (by omega),if_neg (by omega),if_neg (by omega),if_neg (by omega),if_neg (by omega),if_neg (by omega),if_neg (by omega)];omega
 ·rw[if_neg (by omega),if_pos (by omega),if_neg (by omega),if_neg (by omega),if_neg (by omega),if_neg (by omega),if_neg (by omega),if_neg (by omega)];omega
 ·rw[if_neg (by omega),if_neg (by omega),if_pos (by omega),if_neg (by omega),if_neg (by omega),if_neg (by omega),if_neg (by omega),if_neg (by omega)];omega
 ·rw[if_neg (by omega),if_neg (by omega),if_neg (by omega),if_pos (by omega),if_neg (by omega),if_neg (by omega),if_neg (by omega),if_neg (by omega)];omega
 ·rw[if_neg (by omega),if_neg (by omega),if_neg (by omega),if_neg (by omega),if_pos (by omega),if_neg (by omega),if_neg (by omega),if_neg (by omega)];omega
 ·rw[if_neg (by omega),if_neg (by omega),if_neg (by omega),if_neg (by omega),if_neg (by omega),if_pos (by omega),if_neg (by omega),if_neg (by omega)];omega
 ·rw[if_neg (by omega),if_neg (by omega),if_neg (by omega),if_neg (by omega),if_neg (by omega),if_neg (by omega),if_pos (by omega),if_neg (by omega)];omega
 ·rw[if_neg (by omega),if_neg (by omega),if_neg (by omega),if_neg (by omega),if_neg (by omega),if_neg (by omega),if_neg (by omega),if_pos (by omega)];omega
theorem zk(bs:List Bool):∃a,da bs (bs.length/8)=2 ^ (8-bs.length%8)*a:=by
 have z:∀k,bs.length%8≤k→cT bs (8*(bs.length/8)+k)=0:=fun k hk=>mC (by omega)
 unfold da
 rcases m8 bs.length with h|h|h|h|h|h|h|h<;>rw[h]at z⊢
 ·rw[z 1 (by omega),z 2 (by omega),z 3 (by omega),z 4 (by omega),z 5 (by omega),z 6 (by omega),z 7 (by omega),show cT bs (8*(bs.length/8))=0 from z 0 (by omega)];exact⟨0,by omega⟩
 ·rw[z 1 (by omega),z 2 (by omega),z 3 (by omega),z 4 (by omega),z 5 (by omega),z 6 (by omega),z 7 (by omega)];exact⟨cT bs (8*(bs.length/8)),by omega⟩
 ·rw[z 2 (by omega),z 3 (by omega),z 4 (by omega),z 5 (by omega),z 6 (by omega),z 7 (by omega)];exact⟨cT bs (8*(bs.length/8))*2+cT bs (8*(bs.length/8)+1),by omega⟩
 ·rw[z 3 (by omega),z 4 (by omega),z 5 (by omega),z 6 (by omega),z 7 (by omega)];exact⟨cT bs (8*(bs.length/8))*4+cT bs (8*(bs.length/8)+1)*2+cT bs (8*(bs.length/8)+2),by omega⟩
 ·rw[z 4 (by omega),z 5 (by omega),z 6 (by omega),z 7 (by omega)];exact⟨cT bs (8*(bs.length/8))*8+cT bs (8*(bs.length/8)+1)*4+cT bs (8*(bs.length/8)+2)*2+cT bs (8*(bs.length/8)+3),by omega⟩
 ·rw[z 5 (by omega),z 6 (by omega),z 7 (by omega)];exact⟨cT bs (8*(bs.length/8))*16+cT bs (8*(bs.length/8)+1)*8+cT bs (8*(bs.length/8)+2)*4+cT bs (8*(bs.length/8)+3)*2+cT bs (8*(bs.length/8)+4),by omega⟩
 ·rw[z 6 (by omega),z 7 (by omega)];exact⟨cT bs (8*(bs.length/8))*32+cT bs (8*(bs.length/8)+1)*16+cT bs (8*(bs.length/8)+2)*8+cT bs (8*(bs.length/8)+3)*4+cT bs (8*(bs.length/8)+4)*2+cT bs (8*(bs.length/8)+5),by omega⟩
 ·rw[z 7 (by omega)];exact⟨cT bs (8*(bs.length/8))*64+cT bs (8*(bs.length/8)+1)*32+cT bs (8*(bs.length/8)+2)*16+cT bs (8*(bs.length/8)+3)*8+cT bs (8*(bs.length/8)+4)*4+cT bs (8*(bs.length/8)+5)*2+cT bs (8*(bs.length/8)+6),by omega⟩
theorem vQ(b:Bool)(r:Nat)(h:r<8):bt b*2 ^ (7-r)<2 ^ (8-r):=by
 have:2 ^ (8-r)=2*2 ^ (7-r):=by rw[show 8-r=(7-r)+1 by omega,Nat.pow_succ,ab0]
 have hp:0<2 ^ (7-r):=Nat.pow_pos (by decide)
 cases b<;>simp[bt]<;>omega
theorem uj(bs:List Bool)(b:Bool):(da bs (bs.length/8)|||bt b*2 ^ (7-bs.length%8))=da (bs++[b]) (bs.length/8):=by
 rw[Ab]
 obtain⟨a,ha⟩:=zk bs
 rw[ha]
 exact(Nat.two_pow_add_eq_or_of_lt (vQ b _ (acB _ (by decide))) a).symm
def nb(n:Nat):Nat:=(n+7)/8
def qH(bs:List Bool):List (List SV):=(List.range (nb bs.length)).map fun j=>[.int .u8 (da bs j:Nat)]
@[go_sem] theorem et {bs:List Bool}:(qH bs).length=nb bs.length:=by simp[qH]
theorem na{bs:List Bool}{j:Nat}(h:j<nb bs.length):(qH bs)[j]?=some [.int .u8 (da bs j:Nat)]:=by simp[qH,h]
theorem E8{bs:List Bool}{b:Bool}(h:bs.length%8≠0):(qH bs).set (bs.length/8) [.int .u8 (da (bs++[b]) (bs.length/8):Nat)]=qH (bs++[b]):=by
 have e:nb (bs.length+1)=nb bs.length:=by unfold nb;omega
 apply aa2
 intro j
 rw[abA]
 by_cases hj:j<nb bs.length
 ·rw[na (bs:=bs++[b]) (by simp[e,hj])]
  by_cases h2:bs.length/8=j
  ·subst h2
   rw[if_pos rfl,if_pos (by rw[et];exact hj)]
  ·rw[if_neg h2,na hj,qd (fun h=>h2 h.symm)]
 ·rw[if_neg (show ¬bs.length/8=j by unfold nb at hj;omega),aao (by rw[et];omega),aao (by rw[et,Y9];simp[e];omega)]
theorem El{bs:List Bool}{b:Bool}(h:bs.length%8=0):(qH bs++[[SV.int .u8 0]]).set (bs.length/8) [.int .u8 (da (bs++[b]) (bs.length/8):Nat)]=qH (bs++[b]):=by
 have e:nb (bs.length+1)=nb bs.length+1:=by unfold nb;omega
 have e2:nb bs.length=bs.length/8:=by unfold nb;omega
 apply aa2
 intro j
 rw[abA]
 by_cases hj:j<nb bs.length+1
 ·rw[na (bs:=bs++[b]) (by simp[e,hj])]
  by_cases h2:bs.length/8=j
  ·subst h2
   rw[if_pos rfl,if_pos (by rw[Y9,et];simp;omega)]
  ·rw[if_neg h2,Zm (by rw[et];omega),na (by omega),qd (fun h=>h2 h.symm)]
 ·rw[if_neg (show ¬bs.length/8=j by omega),aao (by rw[Y9,et];simp;omega),aao (by rw[et,Y9];simp[e];omega)]
theorem A8{bs:List Bool}(h:bs.length%8=0):(qH bs++[[SV.int .u8 0]])[bs.length/8]?=some [.int .u8 (da bs (bs.length/8):Nat)]:=by
 have e2:nb bs.length=bs.length/8:=by unfold nb;omega
 have z:∀k,cT bs (8*(bs.length/8)+k)=0:=fun k=>mC (by omega)
 have hb:da bs (bs.length/8)=0:=by
  unfold da
  rw[z 1,z 2,z 3,z 4,z 5,z 6,z 7,show cT bs (8*(bs.length/8))=0 from z 0]
 rw[hb,←e2,←et (bs:=bs),ZR (Zp _)]
 simp
theorem B9{bs:List Bool}(h:bs.length%8≠0):(qH bs)[bs.length/8]?=some [.int .u8 (da bs (bs.length/8):Nat)]:=na (by unfold nb;omega)
def bits(w v:Nat):List Bool:=(List.range w).map fun i=>v.testBit (w-1-i)
theorem an(w v:Nat):(bits w v).length=w:=by simp[bits]
theorem rD{w v j:Nat}(h:j<w):(bits w v).take (j+1)=(bits w v).take j++[v.testBit (w-1-j)]:=by
 rw[aaE]
 simp[bits,h]
end fm
namespace fm
abbrev wB(bs:List Bool):aD:=.box [.bp 2 (nb bs.length) 0 (nb bs.length),acH bs.length,acI]
abbrev wA(bs:List Bool):aD:=.arr (nb bs.length) 1 (qH bs) false
@[go_sem] theorem YP (n:Nat):(n:Int).tmod 8=((n%8:Nat):Int):=by rw[aaM (by omega)];rfl
@[go_sem] theorem YH (n:Nat):(n:Int).tdiv 8=((n/8:Nat):Int):=by rw[aaI (by omega)];rfl
theorem ld{n:Int}(h0:0≤n)(h1:n≤255):IntKind.u8.wrap n=n:=by
 have e:IntKind.u8.wrap n=n%256:=by simp[IntKind.wrap,IntKind.bits,IntKind.signed]
 rw[e];omega
theorem mD{n:Int}(h0:0≤n)(h1:n<2 ^ 64):IntKind.u64.wrap n=n:=by
 have e:IntKind.u64.wrap n=n%18446744073709551616:=by simp[IntKind.wrap,IntKind.bits,IntKind.signed]
 rw[e];omega
theorem fZ(B j:Nat):((B:Int).fdiv (2 ^ j))=((B/2 ^ j:Nat):Int):=by
 have h:((2:Int) ^ j)=((2 ^ j:Nat):Int):=by rw[abQ];rfl
 rw[h,abd _ (Int.natCast_nonneg _),Int.natCast_ediv]
theorem yP(a:Nat)(h:a<2 ^ 64):(BitVec.ofInt 64 (a:Int)).toNat=a:=by
 rw[abR]
 omega
theorem gS(a:Nat)(h:a<256):(BitVec.ofInt 8 (a:Int)).toNat=a:=by
 rw[abR]
 omega
theorem vJ(v i:Nat):bt (v.testBit i)=v/2 ^ i%2:=by
 rw[Nat.testBit_eq_decide_div_mod_eq]
 unfold bt
 rcases Nat.mod_two_eq_zero_or_one (v/2 ^ i)with h|h<;>rw[h]<;>rfl
theorem Gg{v i:Nat}(hv:v<2 ^ 64)(hi:i<64):IntKind.u64.wrap ((BitVec.ofInt 64 ((v:Int).fdiv (2 ^ min i 64))&&&BitVec.ofInt 64 1).toNat:Nat)=(bt (v.testBit i):Nat):=by
 have h2:v/2 ^ i≤v:=Nat.div_le_self _ _
 have h3:(BitVec.ofInt 64 1).toNat=1:=by decide
 rw[aap (by omega),fZ,acs,yP _ (by omega),h3,Nat.and_one_is_mod,vJ]
 exact mD (by omega) (by omega)
theorem En{v i:Nat}(B:List Bool)(hv:v<2 ^ 64)(hi:i<64):IntKind.u8.wrap ((BitVec.ofInt 8 (da B (B.length/8):Nat)|||BitVec.ofInt 8 (IntKind.u8.wrap (IntKind.u8.wrap (IntKind.u64.wrap ((BitVec.ofInt 64 ((v:Int).fdiv (2 ^ min i 64))&&&BitVec.ofInt 64 1).toNat:Nat))*2 ^ min (7-B.length%8) 8))).toNat:Nat)=(da (B++[v.testBit i]) (B.length/8):Nat):=by
 have hb:=ue (v.testBit i)
 have h1:=vQ (v.testBit i) (B.length%8) (acB _ (by decide))
 have h2:2 ^ (8-B.length%8)≤2 ^ 8:=abl (by decide) (by omega)
 have h3:bt (v.testBit i)*2 ^ (7-B.length%8)<256:=by omega
 have h4:=mG B (B.length/8)
 have h5:=mG (B++[v.testBit i]) (B.length/8)
 have h6:((bt (v.testBit i):Nat):Int)*2 ^ (7-B.length%8)=((bt (v.testBit i)*2 ^ (7-B.length%8):Nat):Int):=by rw[acA,abQ];rfl
 rw[Gg hv hi,ld (n:=((bt (v.testBit i):Nat):Int)) (by omega) (by omega),aap (by omega),h6,ld (n:=((bt (v.testBit i)*2 ^ (7-B.length%8):Nat):Int)) (by omega) (by omega),BitVec.toNat_or,gS _ h4,gS _ h3,uj]
 exact ld (by omega) (by omega)
theorem HG(n:Nat)(b0:aD)(tl:List aD)(es:List (Nat×Nat))(bs:List Bool)(w v:Nat)(hw:w≤63)(hv:v<2 ^ 64)(hb:bs.length+w≤600000) :
 aa T (n+1) (.fn 241) [.ptr 1 0 0 0,acH w,.int .u64 v] ⟨b0::wB bs::wA bs::tl,es,0⟩=
  some (.ba [],⟨b0::wB (bs++bits w v)::wA (bs++bits w v)::tl,es++List.replicate (nb (bs.length+w)-nb bs.length) (1,3),0⟩):=by
 refine bj Ra (by rfl) ?_
 simp only[JS,go_sem,simprocAttr]
 have hw1:bb ((w:Int)-1)=(w:Int)-1:=ao (by omega) (by omega)
 have hN:decide (max 2 0≤tl.length+1+1+1)=true:=Zc (by omega)
 have l0:decide (0<tl.length+1+1+1)=true:=Zc (by omega)
 have l1:decide (1<tl.length+1+1+1)=true:=Zc (by omega)
 have l2:decide (2<tl.length+1+1+1)=true:=Zc (by omega)
 have l3':decide (tl.length+1+1+1<3)=false:=Zf (by omega)
 have l3:decide (3≤tl.length+1+1+1)=true:=Zc (by omega)
 refine bn (fun j=>([(0,.ptr 1 0 0 0),(2,.int .u64 v),(6,acH ((w:Int)-1-(j:Int)))],⟨b0::wB (bs++(bits w v).take j)::wA (bs++(bits w v).take j)::tl,List.replicate (nb (bs.length+j)-nb bs.length) (1,3),0⟩)) (fun _=>True) w ?_ trivial ?_
 ·simp only[go_sem,simprocAttr,hw1,abr,ZW,acw,aa1,aaN,Int.sub_zero,hN,Int.natCast_zero,Int.ofNat_zero]
  try rfl
 ·intro j hj _
  rcases Zl j w with hlt|hge
  ·have hx:decide ((0:Int)≤(w:Int)-1-j)=true:=Zc (by omega)
   have hs:bb ((w:Int)-1-j-1)=(w:Int)-1-(j+1:Nat):=by rw[ao (by omega) (by omega)];omega
   have hB:(bs++(bits w v).take j).length=bs.length+j:=by rw[Y9,Z8,an];omega
   have hB':bs++(bits w v).take (j+1)=(bs++(bits w v).take j)++[v.testBit (w-1-j)]:=by rw[rD hlt,Za]
   obtain⟨b,hb'⟩:∃b,v.testBit (w-1-j)=b:=⟨_,rfl⟩
   obtain⟨B,hBd⟩:∃B,bs++(bits w v).take j=B:=⟨_,rfl⟩
   rw[hb',hBd]at hB'
   rw[hBd]at hB
   have gb:=fun H=>fQ 1 H 2 (nb B.length) (nb B.length) [[.int .u8 0]] (qH B) et
   have hw8:bb ((B.length/8:Nat):Int)=((B.length/8:Nat):Int):=ao (by omega) (by omega)
   have hw7:bb (7-((B.length%8:Nat):Int))=((7-B.length%8:Nat):Int):=by rw[ao (by omega) (by omega)];omega
   have hnn:∀n:Nat,decide ((n:Int)<0)=false:=fun n=>Zf (by omega)
   have hi:((w:Int)-1-j).toNat=w-1-j:=by omega
   have hE:=En (v:=v) (i:=w-1-j) B hv (by omega)
   rw[hb']at hE
   have hw1':bb ((B.length:Int)+1)=((B.length+1:Nat):Int):=by rw[ao (by omega) (by omega)];omega
   have hl1:(B++[b]).length=B.length+1:=by simp
   by_cases h8:B.length%8=0
   ·have hq:decide (((B.length%8:Nat):Int)=0)=true:=Zc (by omega)
    have hr:decide ((nb B.length+1)*1≤ch)=true:=Zc (ZN (show(nb B.length+1)*1≤1000000 by unfold nb;omega) (by decide))
    have e1:nb (B.length+1)=nb B.length+1:=by unfold nb;omega
    have e2:nb (bs.length+(j+1))-nb bs.length=nb (bs.length+j)-nb bs.length+1:=by unfold nb;omega
    have g0:=A8 h8
    have hlt1:decide (B.length/8<nb B.length+1)=true:=Zc (by unfold nb;omega)
    simp only[go_sem,simprocAttr,hw8,hw7,g0,hlt1,ZX,hx,hq,hBd,gb,hr,l0,l1,l2,l3,l3',hN,hi,hE,hw1',hs,hB',hl1,e1,e2,aaR,Zn,Zt,ite_self,if_true]
    refine⟨hlt,?_,trivial⟩
    erw [hE,El h8]
    simp only[wB,wA,hl1,e1]
   ·have hq:decide (((B.length%8:Nat):Int)=0)=false:=Zf (by omega)
    have e1:nb (B.length+1)=nb B.length:=by unfold nb;omega
    have e2:nb (bs.length+(j+1))-nb bs.length=nb (bs.length+j)-nb bs.length:=by unfold nb;omega
    have g0:=B9 h8
    have hlt1:decide (B.length/8<nb B.length)=true:=Zc (by unfold nb;omega)
    simp only[go_sem,simprocAttr,hw8,hw7,g0,hlt1,ZX,hx,hq,hBd,l0,l1,l2,l3,l3',hN,hi,hE,hw1',hs,hB',hl1,e1,e2,Zn,Zt,ite_self,if_true]
    refine⟨hlt,?_,trivial⟩
    erw [hE,E8 h8]
    simp only[wB,wA,hl1,e1]
  ·obtain rfl:j=w:=by omega
   have hx:decide ((0:Int)≤(j:Int)-1-j)=false:=Zf (by omega)
   have ht:(bits j v).take j=bits j v:=ZM (by rw[an];exact Zp _)
   simp only[go_sem,simprocAttr,hx,ht,hN,l0,l1,l2,l3,l3',Zn,Zt,ite_self,if_true]
end fm
namespace fm
def bZ(x:Nat):Nat:=if x=0 then 0 else x.log2+1
theorem cJ{x w:Nat}:bZ x≤w↔x<2 ^ w:=by
 unfold bZ
 by_cases h:x=0
 ·subst h;simp;exact Nat.pow_pos (by decide)
 ·rw[if_neg h,Nat.succ_le_iff,Nat.log2_lt h]
theorem gL{x k:Nat}(h:2 ^ k≤x):bZ (x/2 ^ k)+k=bZ x:=by
 have key:∀w,bZ (x/2 ^ k)+k≤w↔bZ x≤w:=fun w=>by
  by_cases hw:k≤w
  ·obtain⟨d,rfl⟩:=Nat.exists_eq_add_of_le hw
   rw[show(bZ (x/2 ^ k)+k≤k+d)↔bZ (x/2 ^ k)≤d by omega,cJ,cJ,Nat.pow_add,Nat.div_lt_iff_lt_mul (Nat.pow_pos (by decide)),ab0]
  ·rw[cJ]
   have h2:2 ^ w≤2 ^ k:=abl (by decide) (by omega)
   omega
 exact Nat.le_antisymm ((key _).2 (Zp _)) ((key _).1 (Zp _))
def fw:ByteArray:=⟨⟨[0,1,2,2,3,3,3,3,4,4,4,4,4,4,4,4,5,5,5,5,5,5,5,5,5,5,5,5,5,5,5,5,6,6,6,6,6,6,6,6,6,6,6,6,6,6,6,6,6,6,6,6,6,6,6,6,6,6,6,6,6,6,6,6,7,7,7,7,7,7,7,7,7,7,7,7,7,7,7,7,7,7,7,7,7,7,7,7,7,7,7,7,7,7,7,7,7,7,7,7,7,7,7,7,7,7,7,7,7,7,7,7,7,7,7,7,7,7,7,7,7,7,7,7,7,7,7,7,8,8,8,8,8,8,8,8,8,8,8,8,8,8,8,8,8,8,8,8,8,8,8,8,8,8,8,8,8,8,8,8,8,8,8,8,8,8,8,8,8,8,8,8,8,8,8,8,8,8,8,8,8,8,8,8,8,8,8,8,8,8,8,8,8,8,8,8,8,8,8,8,8,8,8,8,8,8,8,8,8,8,8,8,8,8,8,8,8,8,8,8,8,8,8,8,8,8,8,8,8,8,8,8,8,8,8,8,8,8,8,8,8,8,8,8,8,8,8,8,8,8,8,8,8,8,8,8]⟩⟩
theorem BQ:∀i:Fin 256,fw.data[(i:Nat)]?=some (UInt8.ofNat (bZ i)):=by decide
theorem DY(x:Nat):(x:Int).fdiv (2 ^ min 32 64)=((x/2 ^ 32:Nat):Int):=by rw[show min 32 64=32 from rfl,fZ]
theorem Fa(x:Nat):(x:Int).fdiv (2 ^ min 16 64)=((x/2 ^ 16:Nat):Int):=by rw[show min 16 64=16 from rfl,fZ]
theorem O2(x:Nat):(x:Int).fdiv (2 ^ min 8 64)=((x/2 ^ 8:Nat):Int):=by rw[show min 8 64=8 from rfl,fZ]
theorem FJ{x:Nat}(h:x<256):IntKind.u8.wrap (x:Int)=x:=ld (by omega) (by omega)
theorem ij{x:Nat}(h:x<256):fw.data[x]?=some (UInt8.ofNat (bZ x)):=BQ ⟨x,h⟩
theorem ofNat_toNat{a:Nat}(h:a<256):(UInt8.ofNat a).toNat=a:=by
 simp[UInt8.toNat_ofNat,acr h]
theorem FN:bb (32+16)=48:=by decide
theorem F7:bb (48+8)=56:=by decide
theorem F6:bb (0+16)=16:=by decide
theorem Gd:bb (16+8)=24:=by decide
theorem Fm:bb (32+8)=40:=by decide
theorem Gc:bb (0+8)=8:=by decide
theorem eT:fw.size=256:=by rfl
theorem Uz(n:Nat)(H:ab)(x:Nat)(h:x<2 ^ 64):aa T (n+1) (.fn 246) [.int .u64 x] H=some (acH (bZ x),H):=by
 refine ae Ui (by rfl) ?_
 simp only[Nm,ah,go_sem,Int.reduceToNat,Nat.reduceAdd,Nat.reduceBEq,Nat.reduceLeDiff,Nat.reduceLT,Nat.reduceMul,Nat.reduceSub,Int.reduceEq,Int.reduceLT,Int.reduceLE,Int.reduceNeg]
 rw[←fw]
 by_cases h32:4294967296≤x
 ·have hd32:decide ((4294967296:Int)≤(x:Int))=true:=Zc (by omega)
  have hl32:=gL (x:=x) (k:=32) (by omega)
  obtain⟨y32,hy32⟩:∃z,x/2 ^ 32=z:=⟨_,rfl⟩
  rw[hy32]at hl32
  have hb32:y32<4294967296:=by omega
  by_cases h16:65536≤y32
  ·have hd16:decide ((65536:Int)≤(y32:Int))=true:=Zc (by omega)
   have hl16:=gL (x:=y32) (k:=16) (by omega)
   obtain⟨y16,hy16⟩:∃z,y32/2 ^ 16=z:=⟨_,rfl⟩
   rw[hy16]at hl16
   have hb16:y16<65536:=by omega
   by_cases h8:256≤y16
   ·have hd8:decide ((256:Int)≤(y16:Int))=true:=Zc (by omega)
    have hl8:=gL (x:=y16) (k:=8) (by omega)
    obtain⟨y8,hy8⟩:∃z,y16/2 ^ 8=z:=⟨_,rfl⟩
    rw[hy8]at hl8
    have hb8:y8<256:=by omega
    have hu:=FJ (x:=y8) (by omega)
    have hg:=ij (x:=y8) (by omega)
    have hn:(UInt8.ofNat (bZ y8)).toNat=bZ y8:=by have:=(cJ (x:=y8) (w:=8)).2 (by omega);exact ofNat_toNat (by omega)
    have hn2:bZ y8≤8:=(cJ (x:=y8) (w:=8)).2 (by omega)
    have hz:decide ((y8:Int)<256)=true:=Zc (by omega)
    have hz0:decide ((0:Int)≤(y8:Int))=true:=Zc (by omega)
    have hw1:bb ((bZ y8:Nat):Int)=(bZ y8:Nat):=ao (by omega) (by omega)
    have hw2:bb (56+((bZ y8:Nat):Int))=(bZ x:Nat):=by rw[ao (by omega) (by omega)];omega
    simp only[go_sem,Int.reduceToNat,Nat.reduceAdd,Nat.reduceBEq,Nat.reduceLeDiff,Nat.reduceLT,Nat.reduceMul,Nat.reduceSub,Int.reduceEq,Int.reduceLT,Int.reduceLE,Int.reduceNeg,hd32,DY,hy32,hd16,Fa,hy16,hd8,O2,hy8,hu,hg,hn,hz,hz0,hw1,hw2,eT,ZX,FN,F7,F6,Gd,Fm,Gc]
    try rfl
   ·have hd8:decide ((256:Int)≤(y16:Int))=false:=Zf (by omega)
    have hu:=FJ (x:=y16) (by omega)
    have hg:=ij (x:=y16) (by omega)
    have hn:(UInt8.ofNat (bZ y16)).toNat=bZ y16:=by have:=(cJ (x:=y16) (w:=8)).2 (by omega);exact ofNat_toNat (by omega)
    have hn2:bZ y16≤8:=(cJ (x:=y16) (w:=8)).2 (by omega)
    have hz:decide ((y16:Int)<256)=true:=Zc (by omega)
    have hz0:decide ((0:Int)≤(y16:Int))=true:=Zc (by omega)
    have hw1:bb ((bZ y16:Nat):Int)=(bZ y16:Nat):=ao (by omega) (by omega)
    have hw2:bb (48+((bZ y16:Nat):Int))=(bZ x:Nat):=by rw[ao (by omega) (by omega)];omega
    simp only[go_sem,Int.reduceToNat,Nat.reduceAdd,Nat.reduceBEq,Nat.reduceLeDiff,Nat.reduceLT,Nat.reduceMul,Nat.reduceSub,Int.reduceEq,Int.reduceLT,Int.reduceLE,Int.reduceNeg,hd32,DY,hy32,hd16,Fa,hy16,hd8,hu,hg,hn,hz,hz0,hw1,hw2,eT,ZX,FN,F7,F6,Gd,Fm,Gc]
    try rfl
  ·have hd16:decide ((65536:Int)≤(y32:Int))=false:=Zf (by omega)
   by_cases h8:256≤y32
   ·have hd8:decide ((256:Int)≤(y32:Int))=true:=Zc (by omega)
    have hl8:=gL (x:=y32) (k:=8) (by omega)
    obtain⟨y8,hy8⟩:∃z,y32/2 ^ 8=z:=⟨_,rfl⟩
    rw[hy8]at hl8
    have hb8:y8<256:=by omega
    have hu:=FJ (x:=y8) (by omega)
    have hg:=ij (x:=y8) (by omega)
    have hn:(UInt8.ofNat (bZ y8)).toNat=bZ y8:=by have:=(cJ (x:=y8) (w:=8)).2 (by omega);exact ofNat_toNat (by omega)
    have hn2:bZ y8≤8:=(cJ (x:=y8) (w:=8)).2 (by omega)
    have hz:decide ((y8:Int)<256)=true:=Zc (by omega)
    have hz0:decide ((0:Int)≤(y8:Int))=true:=Zc (by omega)
    have hw1:bb ((bZ y8:Nat):Int)=(bZ y8:Nat):=ao (by omega) (by omega)
    have hw2:bb (40+((bZ y8:Nat):Int))=(bZ x:Nat):=by rw[ao (by omega) (by omega)];omega
    simp only[go_sem,Int.reduceToNat,Nat.reduceAdd,Nat.reduceBEq,Nat.reduceLeDiff,Nat.reduceLT,Nat.reduceMul,Nat.reduceSub,Int.reduceEq,Int.reduceLT,Int.reduceLE,Int.reduceNeg,hd32,DY,hy32,hd16,hd8,O2,hy8,hu,hg,hn,hz,hz0,hw1,hw2,eT,ZX,FN,F7,F6,Gd,Fm,Gc]
    try rfl
   ·have hd8:decide ((256:Int)≤(y32:Int))=false:=Zf (by omega)
    have hu:=FJ (x:=y32) (by omega)
    have hg:=ij (x:=y32) (by omega)
    have hn:(UInt8.ofNat (bZ y32)).toNat=bZ y32:=by have:=(cJ (x:=y32) (w:=8)).2 (by omega);exact ofNat_toNat (by omega)
    have hn2:bZ y32≤8:=(cJ (x:=y32) (w:=8)).2 (by omega)
    have hz:decide ((y32:Int)<256)=true:=Zc (by omega)
    have hz0:decide ((0:Int)≤(y32:Int))=true:=Zc (by omega)
    have hw1:bb ((bZ y32:Nat):Int)=(bZ y32:Nat):=ao (by omega) (by omega)
    have hw2:bb (32+((bZ y32:Nat):Int))=(bZ x:Nat):=by rw[ao (by omega) (by omega)];omega
    simp only[go_sem,Int.reduceToNat,Nat.reduceAdd,Nat.reduceBEq,Nat.reduceLeDiff,Nat.reduceLT,Nat.reduceMul,Nat.reduceSub,Int.reduceEq,Int.reduceLT,Int.reduceLE,Int.reduceNeg,hd32,DY,hy32,hd16,hd8,hu,hg,hn,hz,hz0,hw1,hw2,eT,ZX,FN,F7,F6,Gd,Fm,Gc]
    try rfl
 ·have hd32:decide ((4294967296:Int)≤(x:Int))=false:=Zf (by omega)
  by_cases h16:65536≤x
  ·have hd16:decide ((65536:Int)≤(x:Int))=true:=Zc (by omega)
   have hl16:=gL (x:=x) (k:=16) (by omega)
   obtain⟨y16,hy16⟩:∃z,x/2 ^ 16=z:=⟨_,rfl⟩
   rw[hy16]at hl16
   have hb16:y16<65536:=by omega
   by_cases h8:256≤y16
   ·have hd8:decide ((256:Int)≤(y16:Int))=true:=Zc (by omega)
    have hl8:=gL (x:=y16) (k:=8) (by omega)
    obtain⟨y8,hy8⟩:∃z,y16/2 ^ 8=z:=⟨_,rfl⟩
    rw[hy8]at hl8
    have hb8:y8<256:=by omega
    have hu:=FJ (x:=y8) (by omega)
    have hg:=ij (x:=y8) (by omega)
    have hn:(UInt8.ofNat (bZ y8)).toNat=bZ y8:=by have:=(cJ (x:=y8) (w:=8)).2 (by omega);exact ofNat_toNat (by omega)
    have hn2:bZ y8≤8:=(cJ (x:=y8) (w:=8)).2 (by omega)
    have hz:decide ((y8:Int)<256)=true:=Zc (by omega)
    have hz0:decide ((0:Int)≤(y8:Int))=true:=Zc (by omega)
    have hw1:bb ((bZ y8:Nat):Int)=(bZ y8:Nat):=ao (by omega) (by omega)
    have hw2:bb (24+((bZ y8:Nat):Int))=(bZ x:Nat):=by rw[ao (by omega) (by omega)];omega
    simp only[go_sem,Int.reduceToNat,Nat.reduceAdd,Nat.reduceBEq,Nat.reduceLeDiff,Nat.reduceLT,Nat.reduceMul,Nat.reduceSub,Int.reduceEq,Int.reduceLT,Int.reduceLE,Int.reduceNeg,hd32,hd16,Fa,hy16,hd8,O2,hy8,hu,hg,hn,hz,hz0,hw1,hw2,eT,ZX,FN,F7,F6,Gd,Fm,Gc]
    try rfl
   ·have hd8:decide ((256:Int)≤(y16:Int))=false:=Zf (by omega)
    have hu:=FJ (x:=y16) (by omega)
    have hg:=ij (x:=y16) (by omega)
    have hn:(UInt8.ofNat (bZ y16)).toNat=bZ y16:=by have:=(cJ (x:=y16) (w:=8)).2 (by omega);exact ofNat_toNat (by omega)
    have hn2:bZ y16≤8:=(cJ (x:=y16) (w:=8)).2 (by omega)
    have hz:decide ((y16:Int)<256)=true:=Zc (by omega)
    have hz0:decide ((0:Int)≤(y16:Int))=true:=Zc (by omega)
    have hw1:bb ((bZ y16:Nat):Int)=(bZ y16:Nat):=ao (by omega) (by omega)
    have hw2:bb (16+((bZ y16:Nat):Int))=(bZ x:Nat):=by rw[ao (by omega) (by omega)];omega
    simp only[go_sem,Int.reduceToNat,Nat.reduceAdd,Nat.reduceBEq,Nat.reduceLeDiff,Nat.reduceLT,Nat.reduceMul,Nat.reduceSub,Int.reduceEq,Int.reduceLT,Int.reduceLE,Int.reduceNeg,hd32,hd16,Fa,hy16,hd8,hu,hg,hn,hz,hz0,hw1,hw2,eT,ZX,FN,F7,F6,Gd,Fm,Gc]
    try rfl
  ·have hd16:decide ((65536:Int)≤(x:Int))=false:=Zf (by omega)
   by_cases h8:256≤x
   ·have hd8:decide ((256:Int)≤(x:Int))=true:=Zc (by omega)
    have hl8:=gL (x:=x) (k:=8) (by omega)
    obtain⟨y8,hy8⟩:∃z,x/2 ^ 8=z:=⟨_,rfl⟩
    rw[hy8]at hl8
    have hb8:y8<256:=by omega
    have hu:=FJ (x:=y8) (by omega)
    have hg:=ij (x:=y8) (by omega)
    have hn:(UInt8.ofNat (bZ y8)).toNat=bZ y8:=by have:=(cJ (x:=y8) (w:=8)).2 (by omega);exact ofNat_toNat (by omega)
    have hn2:bZ y8≤8:=(cJ (x:=y8) (w:=8)).2 (by omega)
    have hz:decide ((y8:Int)<256)=true:=Zc (by omega)
    have hz0:decide ((0:Int)≤(y8:Int))=true:=Zc (by omega)
    have hw1:bb ((bZ y8:Nat):Int)=(bZ y8:Nat):=ao (by omega) (by omega)
    have hw2:bb (8+((bZ y8:Nat):Int))=(bZ x:Nat):=by rw[ao (by omega) (by omega)];omega
    simp only[go_sem,Int.reduceToNat,Nat.reduceAdd,Nat.reduceBEq,Nat.reduceLeDiff,Nat.reduceLT,Nat.reduceMul,Nat.reduceSub,Int.reduceEq,Int.reduceLT,Int.reduceLE,Int.reduceNeg,hd32,hd16,hd8,O2,hy8,hu,hg,hn,hz,hz0,hw1,hw2,eT,ZX,FN,F7,F6,Gd,Fm,Gc]
    try rfl
   ·have hd8:decide ((256:Int)≤(x:Int))=false:=Zf (by omega)
    have hu:=FJ (x:=x) (by omega)
    have hg:=ij (x:=x) (by omega)
    have hn:(UInt8.ofNat (bZ x)).toNat=bZ x:=by have:=(cJ (x:=x) (w:=8)).2 (by omega);exact ofNat_toNat (by omega)
    have hn2:bZ x≤8:=(cJ (x:=x) (w:=8)).2 (by omega)
    have hz:decide ((x:Int)<256)=true:=Zc (by omega)
    have hz0:decide ((0:Int)≤(x:Int))=true:=Zc (by omega)
    have hw1:bb ((bZ x:Nat):Int)=(bZ x:Nat):=ao (by omega) (by omega)
    have hw2:bb (0+((bZ x:Nat):Int))=(bZ x:Nat):=by rw[ao (by omega) (by omega)];omega
    simp only[go_sem,Int.reduceToNat,Nat.reduceAdd,Nat.reduceBEq,Nat.reduceLeDiff,Nat.reduceLT,Nat.reduceMul,Nat.reduceSub,Int.reduceEq,Int.reduceLT,Int.reduceLE,Int.reduceNeg,hd32,hd16,hd8,hu,hg,hn,hz,hz0,hw1,hw2,eT,ZX,FN,F7,F6,Gd,Fm,Gc]
    try rfl
end fm
section
namespace fm
abbrev wH(b0:aD)(bs:List Bool)(tl:List aD)(es:List (Nat×Nat)):ab:=⟨b0::wB bs::wA bs::tl,es,0⟩
abbrev ek(bs:List Bool)(w:Nat):List (Nat×Nat):=List.replicate (nb (bs.length+w)-nb bs.length) (1,3)
theorem Nt(n:Nat)(H:ab)(x:Nat)(h:x<2 ^ 64):aa T (n+2) (.fn 233) [.int .u64 x] H=some (acH (bZ x),H):=by
 refine ae Ub (by rfl) ?_
 simp only[Na,ah,go_sem,simprocAttr,Uz _ _ _ h]
theorem Ks(n:Nat)(H:ab)(x:Int):aa T (n+1) (.fn 239) [acH x] H=some (.bool (decide (1≤x)&&decide (x≤4095)),H):=by
 refine ae TG (by rfl) ?_
 simp only[Kr,ah,go_sem,simprocAttr]
 repeat' (with_reducible refine aM (fun _=>?_) (fun _=>?_)<;>simp only[*,go_sem,simprocAttr])
theorem TN(n:Nat)(H:ab):aa T (n+3) (.fn 240) [acH 127] H=some (acH 7,H):=by
 refine ae Rb (by rfl) ?_
 have h:∀H,aa T (n+2) (.fn 233) [.int .u64 127] H=some (acH 7,H):=fun H=>Nt n H 127 (by decide)
 have e:IntKind.u64.wrap 127=127:=by decide
 have e3:max (1:Int) 7=7:=by decide
 simp only[NH,ah,go_sem,simprocAttr,e,h,e3]
section
variable(b0:aD)(tl:List aD)(es:List (Nat×Nat))(bs:List Bool)
theorem Gi(n:Nat)(w v:Nat)(v':Int)(hw:w≤63)(hv:v<2 ^ 64)(hv':IntKind.u64.wrap v'=v)(hb:bs.length+w≤524288) :
 aa T (n+2) (.fn 231) [.ptr 1 0 0 0,.bool true,.bool true,acH w,acH v'] (wH b0 bs tl es)=some (.ba [],wH b0 (bs++bits w v) tl (es++ek bs w)):=by
 refine bj Tt (by rfl) ?_
 have h:=fun es=>HG n b0 tl es bs w v hw hv (by omega)
 have hx:decide (((bs.length:Int))+w>524288)=false:=Zf (by omega)
 have hx2:decide ((524288:Int)<(bs.length:Int)+w)=false:=Zf (by omega)
 have hs:bb ((bs.length:Int)+w)=bs.length+w:=ao (by omega) (by omega)
 have l0:decide (0<tl.length+1+1+1)=true:=Zc (by omega)
 have l1:decide (1<tl.length+1+1+1)=true:=Zc (by omega)
 have l2:decide (2<tl.length+1+1+1)=true:=Zc (by omega)
 have l3':decide (tl.length+1+1+1<3)=false:=Zf (by omega)
 have l3:decide (3≤tl.length+1+1+1)=true:=Zc (by omega)
 simp only[Ly,go_sem,simprocAttr,hs,hx,hx2,hv',h,l0,l1,l2,l3,l3',Zn,Zt,ite_self,if_true]
theorem RR(n:Nat)(f:Bool)(hb:bs.length+1≤524288) :
 aa T (n+3) (.fn 220) [.ptr 1 0 0 0,.bool f] (wH b0 bs tl es)=some (.ba [],wH b0 (bs++bits 1 (bt f)) tl (es++ek bs 1)):=by
 refine bj QH (by rfl) ?_
 have h:=fun es=>Gi b0 tl es bs n 1 (bt f) (bt f) (by omega) (by have:=ue f;omega) (by have:=ue f;exact mD (by omega) (by omega)) hb
 have l1:decide (1<tl.length+1+1+1)=true:=Zc (by omega)
 have l3':decide (tl.length+1+1+1<3)=false:=Zf (by omega)
 have l3:decide (3≤tl.length+1+1+1)=true:=Zc (by omega)
 cases f with
 |false=>
  have h:∀es,aa T (n+2) (.fn 231) [.ptr 1 0 0 0,.bool true,.bool true,acH 1,acI] (wH b0 bs tl es)=some (.ba [],wH b0 (bs++bits 1 0) tl (es++ek bs 1)):=h
  simp only[HT,bt,go_sem,simprocAttr,h,l1,l3,l3',Zn,Zt,ite_self,if_true]
 |true=>
  have h:∀es,aa T (n+2) (.fn 231) [.ptr 1 0 0 0,.bool true,.bool true,acH 1,acH 1] (wH b0 bs tl es)=some (.ba [],wH b0 (bs++bits 1 1) tl (es++ek bs 1)):=h
  simp only[HT,bt,go_sem,simprocAttr,h,l1,l3,l3',Zn,Zt,ite_self,if_true]
theorem KH(n:Nat)(w v:Nat)(h1:1≤w)(hw:w≤62)(hv:v<2 ^ w)(hb:bs.length+w≤524288) :
 aa T (n+3) (.fn 218) [.ptr 1 0 0 0,acH w,acH v] (wH b0 bs tl es)=some (.ba [],wH b0 (bs++bits w v) tl (es++ek bs w)):=by
 refine bj Qi (by rfl) ?_
 have h63:2 ^ w≤2 ^ 62:=abl (by decide) hw
 have hv':IntKind.u64.wrap (v:Int)=v:=mD (by omega) (by omega)
 have h:=fun es=>Gi b0 tl es bs n w v v (by omega) (by omega) hv' hb
 have h97:=fun H=>Nt n H v (by omega)
 have hl:=(cJ (x:=v) (w:=w)).2 hv
 have x1:decide ((1:Int)≤w)=true:=Zc (by omega)
 have x2:decide ((w:Int)≤63)=true:=Zc (by omega)
 have x3:decide (((bZ v:Nat):Int)≤w)=true:=Zc (by omega)
 have l1:decide (1<tl.length+1+1+1)=true:=Zc (by omega)
 have l3':decide (tl.length+1+1+1<3)=false:=Zf (by omega)
 have l3:decide (3≤tl.length+1+1+1)=true:=Zc (by omega)
 simp only[No,go_sem,simprocAttr,h,h97,hv',x1,x2,x3,l1,l3,l3',Zn,Zt,ite_self,if_true]
end
end fm
end
section
namespace fm
def tU(x:Int):Nat:=(x%18446744073709551616).toNat
theorem Hp(x:Int):tU x<2 ^ 64:=by unfold tU;omega
theorem Cy(x:Int):IntKind.u64.wrap x=(tU x:Nat):=by
 have e:IntKind.u64.wrap x=x%18446744073709551616:=by simp[IntKind.wrap,IntKind.bits,IntKind.signed]
 unfold tU;rw[e];omega
theorem cf{bs bs':List Bool}{a b:Nat}(h:bs'.length=bs.length+a):ek bs a++ek bs' b=ek bs (a+b):=by
 unfold ek
 rw[List.replicate_append_replicate,h]
 congr 1
 unfold nb;omega
section
variable(b0:aD)(tl:List aD)(es:List (Nat×Nat))(bs:List Bool)
theorem S9(n:Nat)(x:Int)(h0: -32768≤x)(h1:x≤32767)(hb:bs.length+16≤524288) :
 aa T (n+3) (.fn 216) [.ptr 1 0 0 0,acH 16,acH x] (wH b0 bs tl es)=some (.ba [],wH b0 (bs++bits 16 (tU x)) tl (es++ek bs 16)):=by
 refine bj SM (by rfl) ?_
 have h:∀es,aa T (n+2) (.fn 231) [.ptr 1 0 0 0,.bool true,.bool true,acH 16,acH x] (wH b0 bs tl es)=some (.ba [],wH b0 (bs++bits 16 (tU x)) tl (es++ek bs 16)):=fun es=>Gi b0 tl es bs n 16 (tU x) x (by omega) (Hp x) (Cy x) hb
 have x1:decide (-32768≤x)=true:=Zc h0
 have x2:decide (x≤32767)=true:=Zc h1
 have m1:max (16:Int) 1=16:=by decide
 have m2:bb (16-1)=15:=by decide
 have m3:bb (-1*2 ^ min 15 64)= -32768:=by decide
 have m4:bb (1*2 ^ min 15 64)=32768:=by decide
 have m5:bb (32768-1)=32767:=by decide
 have l1:decide (1<tl.length+1+1+1)=true:=Zc (by omega)
 have l3':decide (tl.length+1+1+1<3)=false:=Zf (by omega)
 have l3:decide (3≤tl.length+1+1+1)=true:=Zc (by omega)
 simp only[LB,go_sem,Int.reduceToNat,Nat.reduceAdd,Nat.reduceBEq,Nat.reduceLeDiff,Nat.reduceLT,Nat.reduceMul,Nat.reduceSub,Int.reduceEq,Int.reduceLT,Int.reduceLE,Int.reduceNeg,h,x1,x2,m1,m2,m3,m4,m5,l1,l3,l3',Zn,Zt,ite_self,if_true]
def gX(x:ByteArray):Nat→List Bool
 |0=>[]
 |i+1=>gX x i++bits 8 ((x.data[i]?).getD 0).toNat
theorem gz(x:ByteArray):∀i,(gX x i).length=8*i
 |0=>rfl
 |i+1=>by simp only[gX,Y9,gz x i,an];omega
theorem R6(n:Nat)(x:ByteArray)(hx:x.size≤127)(hb:bs.length≤1000) :
 aa T (n+4) (.fn 229) [.ptr 1 0 0 0,acH 127,.str x] (wH b0 bs tl es)=some (.ba [],wH b0 (bs++bits 7 x.size++gX x x.size) tl (es++ek bs (7+8*x.size))):=by
 refine bj Jv (by rfl) ?_
 have h101:=fun H=>Ks (n+2) H 127
 have h102:=fun H=>TN n H
 have x1:decide ((127:Int)<(x.size:Int))=false:=Zf (by omega)
 have w1:bb ((bs.length:Int)+7)=(bs.length:Int)+7:=ao (by omega) (by omega)
 have w2:bb (8*(x.size:Int))=8*(x.size:Int):=ao (by omega) (by omega)
 have w3:bb ((bs.length:Int)+7+8*(x.size:Int))=(bs.length:Int)+7+8*(x.size:Int):=ao (by omega) (by omega)
 have x2:decide ((524288:Int)<(bs.length:Int)+7+8*(x.size:Int))=false:=Zf (by omega)
 have hu:IntKind.u64.wrap (x.size:Int)=(x.size:Nat):=mD (by omega) (by omega)
 have h103:∀es,aa T (n+3) (.fn 241) [.ptr 1 0 0 0,acH 7,.int .u64 x.size] (wH b0 bs tl es)=some (.ba [],wH b0 (bs++bits 7 x.size) tl (es++ek bs 7)):=fun es=>HG (n+2) b0 tl es bs 7 x.size (by omega) (by omega) (by omega)
 have l0:decide (0<tl.length+1+1+1)=true:=Zc (by omega)
 have l1:decide (1<tl.length+1+1+1)=true:=Zc (by omega)
 have l2:decide (2<tl.length+1+1+1)=true:=Zc (by omega)
 have l3':decide (tl.length+1+1+1<3)=false:=Zf (by omega)
 have l3:decide (3≤tl.length+1+1+1)=true:=Zc (by omega)
 have hN:decide (max 2 0≤tl.length+1+1+1)=true:=Zc (by omega)
 simp only[Ge,go_sem,Int.reduceToNat,Nat.reduceAdd,Nat.reduceBEq,Nat.reduceLeDiff,Nat.reduceLT,Nat.reduceMul,Nat.reduceSub,Int.reduceEq,Int.reduceLT,Int.reduceLE,Int.reduceNeg,h101,h102,x1,w1,w2,w3,x2,hu,h103,l0,l1,l2,l3,l3',Zn,Zt,ite_self,if_true]
 have hP:(bs++bits 7 x.size).length=bs.length+7:=by rw[Y9,an]
 obtain⟨P,hPd⟩:∃P,bs++bits 7 x.size=P:=⟨_,rfl⟩
 rw[hPd]at hP⊢
 rw[←cf (bs':=P) (by omega),←Za]
 have hx2:x.size≤maxLen:=ZN hx (by decide)
 refine bn (fun i=>([(0,.ptr 1 0 0 0),(2,.str x),(15,acH x.size),(16,acH i)],⟨b0::wB (P++gX x i)::wA (P++gX x i)::tl,ek P (8*i),0⟩)) (fun _=>True) x.size ?_ trivial ?_
 ·simp only[go_sem,Int.reduceToNat,Nat.reduceAdd,Nat.reduceBEq,Nat.reduceLeDiff,Nat.reduceLT,Nat.reduceMul,Nat.reduceSub,Int.reduceEq,Int.reduceLT,Int.reduceLE,Int.reduceNeg,hN,l0,l1,l2,l3,l3',gX,ZW,Nat.mul_zero,aaN,acw,aa1]
  rw[show ek P 0=[] by simp[ek]]
 ·intro i hi _
  rcases Zl i x.size with hlt|hge
  ·have hs:=bR hlt hx2
   have hd:x.data[i]?=some x.data[i]:=Z4 (by exact hlt)
   have hv:=aci x.data[i]
   have hu8:IntKind.u64.wrap ((x.data[i].toNat:Nat):Int)=(x.data[i].toNat:Nat):=mD (by omega) (by omega)
   have h1:∀es,aa T (n+3) (.fn 241) [.ptr 1 0 0 0,acH 8,.int .u64 (x.data[i].toNat:Nat)] (wH b0 (P++gX x i) tl es)=some (.ba [],wH b0 (P++gX x i++bits 8 x.data[i].toNat) tl (es++ek (P++gX x i) 8)):=
    fun es=>HG (n+2) b0 tl es (P++gX x i) 8 x.data[i].toNat (by omega) (by omega) (by rw[Y9,gz];omega)
   have hB:P++gX x i++bits 8 x.data[i].toNat=P++gX x (i+1):=by simp only[gX,hd,aaC,Za]
   have hE:ek P (8*i)++ek (P++gX x i) 8=ek P (8*(i+1)):=by rw[cf (by rw[Y9,gz])];rfl
   rw[hB]at h1
   simp only[go_sem,Int.reduceToNat,Nat.reduceAdd,Nat.reduceBEq,Nat.reduceLeDiff,Nat.reduceLT,Nat.reduceMul,Nat.reduceSub,Int.reduceEq,Int.reduceLT,Int.reduceLE,Int.reduceNeg,hlt,hd,hu8,h1,hE,hs,hN,l0,l1,l2,l3,l3',Zn,Zt,ite_self,if_true]
   refine⟨by first|trivial|omega,by first|trivial|rfl,trivial⟩
  ·obtain rfl:i=x.size:=by omega
   have hd:decide (x.size<x.size)=false:=Zf (by omega)
   simp only[go_sem,Int.reduceToNat,Nat.reduceAdd,Nat.reduceBEq,Nat.reduceLeDiff,Nat.reduceLT,Nat.reduceMul,Nat.reduceSub,Int.reduceEq,Int.reduceLT,Int.reduceLE,Int.reduceNeg,hd,hN,l0,l1,l2,l3,l3',Zn,Zt,ZB,ZL,ite_self,if_true,ZD,Za]
end
end fm
end
section
namespace fm
abbrev pW:SV:=.agg [.ptr 1 0 0 0,.cY]
section
variable(n:Nat)(cs:List SV)(t1 t2 t3:aD)(es:List (Nat×Nat))(bs:List Bool)
theorem fo(w v j:Nat)(hj:cs[j]?=some (acH v))(h1:1≤w)(hw:w≤62)(hv:v<2 ^ w)(hb:bs.length+w≤524288) :
 aa T (n+4) (.fn 201) [pW,acH w,.ptr 0 0 0 j] (wH (.box cs) bs [t1,t2] es)=some (.ba [],wH (.box cs) (bs++bits w v) [t1,t2] (es++ek bs w)):=by
 refine bj Nq (by rfl) ?_
 have h:=fun t es=>KH (.box cs) [t1,t2,t] es bs n w v h1 hw hv hb
 simp only[GS,go_sem,simprocAttr,h,hj,Zw,Zx,Zn,Zt,ite_self,if_true]
theorem qa(w v j:Nat)(hj:cs[j]?=some (acH v))(h1:1≤w)(hw:w≤62)(hv:v<2 ^ w)(hb:bs.length+w≤524288) :
 aa T (n+4) (.fn 201) [pW,acH w,.ptr 0 0 0 j] (wH (.box cs) bs [t1,t2,t3] es)=some (.ba [],wH (.box cs) (bs++bits w v) [t1,t2,t3] (es++ek bs w)):=by
 refine bj Nq (by rfl) ?_
 have h:=fun t es=>KH (.box cs) [t1,t2,t3,t] es bs n w v h1 hw hv hb
 simp only[GS,go_sem,simprocAttr,h,hj,Zw,Zx,Zn,Zt,ZB,ZL,ZD,Za,ite_self,if_true]
theorem G1(x:ByteArray)(j:Nat)(hj:cs[j]?=some (.str x))(hx:x.size≤127)(hb:bs.length≤1000) :
 aa T (n+5) (.fn 215) [pW,.ptr 0 0 0 j] (wH (.box cs) bs [t1,t2,t3] es)=some (.ba [],wH (.box cs) (bs++bits 7 x.size++gX x x.size) [t1,t2,t3] (es++ek bs (7+8*x.size))):=by
 refine bj JB (by rfl) ?_
 have h:=fun t es=>R6 (.box cs) [t1,t2,t3,t] es bs n x hx hb
 simp only[G4,go_sem,simprocAttr,h,hj,Zw,Zx,Zn,Zt,ZB,ZL,ZD,Za,ite_self,if_true]
def al(d:Int):List Bool:=bits 1 (bt (decide (0≤d)))++bif decide (0≤d)then bits 5 d.toNat else[]
def bD(d:Int):Nat:=1+bif decide (0≤d)then 5 else 0
theorem br(d:Int):(al d).length=bD d:=by
 unfold al bD;cases decide (0≤d)<;>simp[an]
section
variable(k s d q o c m e t u v:Int)(x:ByteArray)
theorem wM(hd:d<32)(hd0:d<0→d= -1)(hb:bs.length≤1000) :
 aa T (n+6) (.fn 202) [pW,.ptr 0 0 0 2] (wH (aD.box (fr k s d q o c m e t u v x)) bs [t1,t2] es)=some (.ba [],wH (aD.box (fr k s d q o c m e t u v x)) (bs++al d) [t1,t2] (es++ek bs (bD d))):=by
 refine bj Qo (by rfl) ?_
 have h87:=fun tt es f=>RR (aD.box (fr k s d q o c m e t u v x)) [t1,t2,tt] es bs (n+2) f (by omega)
 cases hf:decide (0≤d)with
 |false=>
  have h87:=fun tt es=>h87 tt es false
  have hd1:d= -1:=by simp only[Zi]at hf;omega
  subst hd1
  simp only[GR,go_sem,simprocAttr,h87,hf,al,bD,Zw,Zx,Zn,Zt,ZB,ZL,ZD,Za,ite_self,if_true]
 |true=>
  have h87:=fun tt es=>h87 tt es true
  simp only[Ze]at hf
  have h61:∀tt es,aa T (n+5) (.fn 201) [pW,acH 5,.ptr 0 0 0 2] (wH (aD.box (fr k s d q o c m e t u v x)) (bs++bits 1 (bt true)) [t1,t2,tt] es)=some (.ba [],wH (aD.box (fr k s d q o c m e t u v x)) (bs++bits 1 (bt true)++bits 5 d.toNat) [t1,t2,tt] (es++ek (bs++bits 1 (bt true)) 5)):=
   fun t' es=>qa (n+1) _ t1 t2 t' es (bs++bits 1 (bt true)) 5 d.toNat 2 (by rw[Zo hf];rfl) (by omega) (by omega) (by omega) (by rw[Y9,an];omega)
  have hf2:decide (0≤d)=true:=Zc hf
  have hk:ek bs 6=ek bs 1++ek (bs++bits 1 (bt true)) 5:=(cf (bs:=bs) (bs':=bs++bits 1 (bt true)) (a:=1) (b:=5) (by rw[Y9,an])).symm
  simp only[GR,go_sem,simprocAttr,h87,h61,hf2,al,bD,hk,Zw,Zx,Zn,Zt,ZB,ZL,ZD,Za,ite_self,if_true]
theorem Qg(hc:0≤c∧c≤255)(hm:0≤m∧m≤65535)(hx:x.size≤127)(hb:bs.length≤900) :
 aa T (n+6) (.fn 197) [pW,.ptr 0 0 0 0] (wH (aD.box (fr k s d q o c m e t u v x)) bs [t1,t2] es)=some (.ba [],wH (aD.box (fr k s d q o c m e t u v x)) (bs++(bits 8 c.toNat++(bits 16 m.toNat++(bits 7 x.size++(gX x x.size))))) [t1,t2] (es++ek bs (24+(7+8*x.size)))):=by
 refine bj Mx (by rfl) ?_
 have h0:∀t' es,aa T (n+5) (.fn 201) [pW,acH 8,.ptr 0 0 0 5] (wH (aD.box (fr k s d q o c m e t u v x)) bs [t1,t2,t'] es)=some (.ba [],wH (aD.box (fr k s d q o c m e t u v x)) (bs++(bits 8 c.toNat)) [t1,t2,t'] (es++ek bs 8)):=fun t' es=>by
  have:=qa (n+1) _ t1 t2 t' es bs 8 c.toNat 5 (show(fr k s d q o c m e t u v x)[5]?=_ by rw[Zo hc.1];rfl) (by omega) (by omega) (by omega) (by omega)
  try simp only[Za]at this
  exact this
 have l0:(bs++(bits 8 c.toNat)).length=bs.length+8:=by simp only[Y9,an]<;>omega
 have h1:∀t' es,aa T (n+5) (.fn 201) [pW,acH 16,.ptr 0 0 0 6] (wH (aD.box (fr k s d q o c m e t u v x)) (bs++(bits 8 c.toNat)) [t1,t2,t'] es)=some (.ba [],wH (aD.box (fr k s d q o c m e t u v x)) (bs++(bits 8 c.toNat++(bits 16 m.toNat))) [t1,t2,t'] (es++ek (bs++(bits 8 c.toNat)) 16)):=fun t' es=>by
  have:=qa (n+1) _ t1 t2 t' es (bs++(bits 8 c.toNat)) 16 m.toNat 6 (show(fr k s d q o c m e t u v x)[6]?=_ by rw[Zo hm.1];rfl) (by omega) (by omega) (by omega) (by rw[l0];omega)
  try simp only[Za]at this
  exact this
 have l1:(bs++(bits 8 c.toNat++(bits 16 m.toNat))).length=bs.length+24:=by simp only[Y9,an]<;>omega
 have ht:∀t' es,aa T (n+5) (.fn 215) [pW,.ptr 0 0 0 11] (wH (aD.box (fr k s d q o c m e t u v x)) (bs++(bits 8 c.toNat++(bits 16 m.toNat))) [t1,t2,t'] es)=some (.ba [],wH (aD.box (fr k s d q o c m e t u v x)) (bs++(bits 8 c.toNat++(bits 16 m.toNat++(bits 7 x.size++(gX x x.size))))) [t1,t2,t'] (es++ek (bs++(bits 8 c.toNat++(bits 16 m.toNat))) (7+8*x.size))):=fun t' es=>by
  have:=G1 n _ t1 t2 t' es (bs++(bits 8 c.toNat++(bits 16 m.toNat))) x 11 (show(fr k s d q o c m e t u v x)[11]?=some (.str x)from rfl) hx (by rw[l1];omega)
  try simp only[Za]at this
  exact this
 have hk:ek bs (24+(7+8*x.size))=ek bs 8++ek (bs++(bits 8 c.toNat)) 16++ek (bs++(bits 8 c.toNat++(bits 16 m.toNat))) (7+8*x.size):=by rw[cf l0,cf l1]
 simp only[Za]at hk
 rw[hk]
 simp only[Gw,go_sem,simprocAttr,h0,h1,ht,Zw,Zx,Zn,Zt,ZB,ZL,ZD,Za,ite_self,if_true]
theorem Rr(ht:0≤t∧t≤109951162)(hu:0≤u∧u≤65535)(hv:0≤v∧v≤65535)(hx:x.size≤127)(hb:bs.length≤900) :
 aa T (n+6) (.fn 199) [pW,.ptr 0 0 0 0] (wH (aD.box (fr k s d q o c m e t u v x)) bs [t1,t2] es)=some (.ba [],wH (aD.box (fr k s d q o c m e t u v x)) (bs++(bits 27 t.toNat++(bits 16 u.toNat++(bits 16 v.toNat++(bits 7 x.size++(gX x x.size)))))) [t1,t2] (es++ek bs (59+(7+8*x.size)))):=by
 refine bj LN (by rfl) ?_
 have h0:∀t' es,aa T (n+5) (.fn 201) [pW,acH 27,.ptr 0 0 0 8] (wH (aD.box (fr k s d q o c m e t u v x)) bs [t1,t2,t'] es)=some (.ba [],wH (aD.box (fr k s d q o c m e t u v x)) (bs++(bits 27 t.toNat)) [t1,t2,t'] (es++ek bs 27)):=fun t' es=>by
  have:=qa (n+1) _ t1 t2 t' es bs 27 t.toNat 8 (show(fr k s d q o c m e t u v x)[8]?=_ by rw[Zo ht.1];rfl) (by omega) (by omega) (by omega) (by omega)
  try simp only[Za]at this
  exact this
 have l0:(bs++(bits 27 t.toNat)).length=bs.length+27:=by simp only[Y9,an]<;>omega
 have h1:∀t' es,aa T (n+5) (.fn 201) [pW,acH 16,.ptr 0 0 0 9] (wH (aD.box (fr k s d q o c m e t u v x)) (bs++(bits 27 t.toNat)) [t1,t2,t'] es)=some (.ba [],wH (aD.box (fr k s d q o c m e t u v x)) (bs++(bits 27 t.toNat++(bits 16 u.toNat))) [t1,t2,t'] (es++ek (bs++(bits 27 t.toNat)) 16)):=fun t' es=>by
  have:=qa (n+1) _ t1 t2 t' es (bs++(bits 27 t.toNat)) 16 u.toNat 9 (show(fr k s d q o c m e t u v x)[9]?=_ by rw[Zo hu.1];rfl) (by omega) (by omega) (by omega) (by rw[l0];omega)
  try simp only[Za]at this
  exact this
 have l1:(bs++(bits 27 t.toNat++(bits 16 u.toNat))).length=bs.length+43:=by simp only[Y9,an]<;>omega
 have h2:∀t' es,aa T (n+5) (.fn 201) [pW,acH 16,.ptr 0 0 0 10] (wH (aD.box (fr k s d q o c m e t u v x)) (bs++(bits 27 t.toNat++(bits 16 u.toNat))) [t1,t2,t'] es)=some (.ba [],wH (aD.box (fr k s d q o c m e t u v x)) (bs++(bits 27 t.toNat++(bits 16 u.toNat++(bits 16 v.toNat)))) [t1,t2,t'] (es++ek (bs++(bits 27 t.toNat++(bits 16 u.toNat))) 16)):=fun t' es=>by
  have:=qa (n+1) _ t1 t2 t' es (bs++(bits 27 t.toNat++(bits 16 u.toNat))) 16 v.toNat 10 (show(fr k s d q o c m e t u v x)[10]?=_ by rw[Zo hv.1];rfl) (by omega) (by omega) (by omega) (by rw[l1];omega)
  try simp only[Za]at this
  exact this
 have l2:(bs++(bits 27 t.toNat++(bits 16 u.toNat++(bits 16 v.toNat)))).length=bs.length+59:=by simp only[Y9,an]<;>omega
 have hT:∀t' es,aa T (n+5) (.fn 215) [pW,.ptr 0 0 0 11] (wH (aD.box (fr k s d q o c m e t u v x)) (bs++(bits 27 t.toNat++(bits 16 u.toNat++(bits 16 v.toNat)))) [t1,t2,t'] es)=some (.ba [],wH (aD.box (fr k s d q o c m e t u v x)) (bs++(bits 27 t.toNat++(bits 16 u.toNat++(bits 16 v.toNat++(bits 7 x.size++(gX x x.size)))))) [t1,t2,t'] (es++ek (bs++(bits 27 t.toNat++(bits 16 u.toNat++(bits 16 v.toNat)))) (7+8*x.size))):=fun t' es=>by
  have:=G1 n _ t1 t2 t' es (bs++(bits 27 t.toNat++(bits 16 u.toNat++(bits 16 v.toNat)))) x 11 (show(fr k s d q o c m e t u v x)[11]?=some (.str x)from rfl) hx (by rw[l2];omega)
  try simp only[Za]at this
  exact this
 have hk:ek bs (59+(7+8*x.size))=ek bs 27++ek (bs++(bits 27 t.toNat)) 16++ek (bs++(bits 27 t.toNat++(bits 16 u.toNat))) 16++ek (bs++(bits 27 t.toNat++(bits 16 u.toNat++(bits 16 v.toNat)))) (7+8*x.size):=by rw[cf l0,cf l1,cf l2]
 simp only[Za]at hk
 rw[hk]
 simp only[Hl,go_sem,simprocAttr,h0,h1,h2,hT,Zw,Zx,Zn,Zt,ZB,ZL,ZD,Za,ite_self,if_true]
theorem RL(hx:x.size≤127)(hb:bs.length≤900) :
 aa T (n+6) (.fn 200) [pW,.ptr 0 0 0 0] (wH (aD.box (fr k s d q o c m e t u v x)) bs [t1,t2] es)=some (.ba [],wH (aD.box (fr k s d q o c m e t u v x)) (bs++(bits 7 x.size++(gX x x.size))) [t1,t2] (es++ek bs (7+8*x.size))):=by
 refine bj LQ (by rfl) ?_
 have ht:∀t' es,aa T (n+5) (.fn 215) [pW,.ptr 0 0 0 11] (wH (aD.box (fr k s d q o c m e t u v x)) bs [t1,t2,t'] es)=some (.ba [],wH (aD.box (fr k s d q o c m e t u v x)) (bs++(bits 7 x.size++(gX x x.size))) [t1,t2,t'] (es++ek bs (7+8*x.size))):=fun t' es=>by
  have:=G1 n _ t1 t2 t' es bs x 11 (show(fr k s d q o c m e t u v x)[11]?=some (.str x)from rfl) hx (by omega)
  try simp only[Za]at this
  exact this
 simp only[HC,go_sem,simprocAttr,ht,Zw,Zx,Zn,Zt,ZB,ZL,ZD,Za,ite_self,if_true]
theorem QC(h0: -32768≤e)(h1:e≤32767)(hb:bs.length≤900) :
 aa T (n+4) (.fn 198) [pW,.ptr 0 0 0 0] (wH (aD.box (fr k s d q o c m e t u v x)) bs [t1,t2] es)=some (.ba [],wH (aD.box (fr k s d q o c m e t u v x)) (bs++bits 16 (tU e)) [t1,t2] (es++ek bs 16)):=by
 refine bj Q7 (by rfl) ?_
 have h:=fun t' es=>S9 (aD.box (fr k s d q o c m e t u v x)) [t1,t2,t'] es bs n e h0 h1 (by omega)
 simp only[Mo,go_sem,simprocAttr,h,Zw,Zx,Zn,Zt,ZB,ZL,ZD,Za,ite_self,if_true]
end
end
end fm
end
section
namespace fm
theorem fi(d:Int):bD d≤6:=by unfold bD;cases decide (0≤d)<;>simp
section
variable(n:Nat)(es:List (Nat×Nat))(bs:List Bool)
theorem Kc(s d q o c m e t u v:Int)(x:ByteArray)(hs:0≤s∧s≤31)(hd:d<32)(hd0:d<0→d= -1)(hq:0≤q∧q≤255)(ho:0≤o∧o≤255)(hc:0≤c∧c≤255)(hm:0≤m∧m≤65535)(hx:x.size≤127)(hb:bs.length≤100) :
 aa T (n+7) (.fn 176) [pW,.ptr 0 0 0 0] (wH (.box (fr 1 s d q o c m e t u v x)) bs [] es)=some (.bool true,wH (.box (fr 1 s d q o c m e t u v x)) (bs++(bits 3 1++(bits 5 s.toNat++(al d++(bits 8 q.toNat++(bits 8 o.toNat++(bits 8 c.toNat++(bits 16 m.toNat++(bits 7 x.size++(gX x x.size)))))))))) [] (es++ek bs ((24+bD d)+(24+(7+8*x.size))))):=by
 refine bj wm (by rfl) ?_
 have h0:∀t1 t2 es,aa T (n+6) (.fn 201) [pW,acH 3,.ptr 0 0 0 0] (wH (.box (fr 1 s d q o c m e t u v x)) bs [t1,t2] es)=some (.ba [],wH (.box (fr 1 s d q o c m e t u v x)) (bs++(bits 3 1)) [t1,t2] (es++ek bs 3)):=fun t1 t2 es=>by
  have:=fo (n+2) (fr 1 s d q o c m e t u v x) t1 t2 es bs 3 1 0 rfl (by omega) (by omega) (by omega) (by omega)
  try simp only[Za]at this
  exact this
 have l0:(bs++(bits 3 1)).length=bs.length+(3):=by simp only[Y9,an,br]<;>omega
 have h1:∀t1 t2 es,aa T (n+6) (.fn 201) [pW,acH 5,.ptr 0 0 0 1] (wH (.box (fr 1 s d q o c m e t u v x)) (bs++(bits 3 1)) [t1,t2] es)=some (.ba [],wH (.box (fr 1 s d q o c m e t u v x)) (bs++(bits 3 1++(bits 5 s.toNat))) [t1,t2] (es++ek (bs++(bits 3 1)) 5)):=fun t1 t2 es=>by
  have:=fo (n+2) (fr 1 s d q o c m e t u v x) t1 t2 es (bs++(bits 3 1)) 5 s.toNat 1 (show(fr 1 s d q o c m e t u v x)[1]?=_ by rw[Zo hs.1];rfl) (by omega) (by omega) (by omega) (by have:=fi d;rw[l0];omega)
  try simp only[Za]at this
  exact this
 have l1:(bs++(bits 3 1++(bits 5 s.toNat))).length=bs.length+(8):=by simp only[Y9,an,br]<;>omega
 have h2:∀t1 t2 es,aa T (n+6) (.fn 202) [pW,.ptr 0 0 0 2] (wH (.box (fr 1 s d q o c m e t u v x)) (bs++(bits 3 1++(bits 5 s.toNat))) [t1,t2] es)=some (.ba [],wH (.box (fr 1 s d q o c m e t u v x)) (bs++(bits 3 1++(bits 5 s.toNat++(al d)))) [t1,t2] (es++ek (bs++(bits 3 1++(bits 5 s.toNat))) (bD d))):=fun t1 t2 es=>by
  have:=wM n t1 t2 es (bs++(bits 3 1++(bits 5 s.toNat))) 1 s d q o c m e t u v x hd hd0 (by rw[l1];omega)
  try simp only[Za]at this
  exact this
 have l2:(bs++(bits 3 1++(bits 5 s.toNat++(al d)))).length=bs.length+(8+bD d):=by simp only[Y9,an,br]<;>omega
 have h3:∀t1 t2 es,aa T (n+6) (.fn 201) [pW,acH 8,.ptr 0 0 0 3] (wH (.box (fr 1 s d q o c m e t u v x)) (bs++(bits 3 1++(bits 5 s.toNat++(al d)))) [t1,t2] es)=some (.ba [],wH (.box (fr 1 s d q o c m e t u v x)) (bs++(bits 3 1++(bits 5 s.toNat++(al d++(bits 8 q.toNat))))) [t1,t2] (es++ek (bs++(bits 3 1++(bits 5 s.toNat++(al d)))) 8)):=fun t1 t2 es=>by
  have:=fo (n+2) (fr 1 s d q o c m e t u v x) t1 t2 es (bs++(bits 3 1++(bits 5 s.toNat++(al d)))) 8 q.toNat 3 (show(fr 1 s d q o c m e t u v x)[3]?=_ by rw[Zo hq.1];rfl) (by omega) (by omega) (by omega) (by have:=fi d;rw[l2];omega)
  try simp only[Za]at this
  exact this
 have l3:(bs++(bits 3 1++(bits 5 s.toNat++(al d++(bits 8 q.toNat))))).length=bs.length+(16+bD d):=by simp only[Y9,an,br]<;>omega
 have h4:∀t1 t2 es,aa T (n+6) (.fn 201) [pW,acH 8,.ptr 0 0 0 4] (wH (.box (fr 1 s d q o c m e t u v x)) (bs++(bits 3 1++(bits 5 s.toNat++(al d++(bits 8 q.toNat))))) [t1,t2] es)=some (.ba [],wH (.box (fr 1 s d q o c m e t u v x)) (bs++(bits 3 1++(bits 5 s.toNat++(al d++(bits 8 q.toNat++(bits 8 o.toNat)))))) [t1,t2] (es++ek (bs++(bits 3 1++(bits 5 s.toNat++(al d++(bits 8 q.toNat))))) 8)):=fun t1 t2 es=>by
  have:=fo (n+2) (fr 1 s d q o c m e t u v x) t1 t2 es (bs++(bits 3 1++(bits 5 s.toNat++(al d++(bits 8 q.toNat))))) 8 o.toNat 4 (show(fr 1 s d q o c m e t u v x)[4]?=_ by rw[Zo ho.1];rfl) (by omega) (by omega) (by omega) (by have:=fi d;rw[l3];omega)
  try simp only[Za]at this
  exact this
 have l4:(bs++(bits 3 1++(bits 5 s.toNat++(al d++(bits 8 q.toNat++(bits 8 o.toNat)))))).length=bs.length+(24+bD d):=by simp only[Y9,an,br]<;>omega
 have hb1:∀t1 t2 es,aa T (n+6) (.fn 197) [pW,.ptr 0 0 0 0] (wH (.box (fr 1 s d q o c m e t u v x)) (bs++(bits 3 1++(bits 5 s.toNat++(al d++(bits 8 q.toNat++(bits 8 o.toNat)))))) [t1,t2] es)=some (.ba [],wH (.box (fr 1 s d q o c m e t u v x)) (bs++(bits 3 1++(bits 5 s.toNat++(al d++(bits 8 q.toNat++(bits 8 o.toNat++(bits 8 c.toNat++(bits 16 m.toNat++(bits 7 x.size++(gX x x.size)))))))))) [t1,t2] (es++ek (bs++(bits 3 1++(bits 5 s.toNat++(al d++(bits 8 q.toNat++(bits 8 o.toNat)))))) (24+(7+8*x.size)))):=fun t1 t2 es=>by
  have:=Qg n t1 t2 es (bs++(bits 3 1++(bits 5 s.toNat++(al d++(bits 8 q.toNat++(bits 8 o.toNat)))))) 1 s d q o c m e t u v x hc hm hx (by have:=fi d;rw[l4];omega)
  try simp only[Za]at this
  exact this
 have hk:ek bs ((24+bD d)+(24+(7+8*x.size)))=ek bs 3++ek (bs++(bits 3 1)) 5++ek (bs++(bits 3 1++(bits 5 s.toNat))) (bD d)++ek (bs++(bits 3 1++(bits 5 s.toNat++(al d)))) 8++ek (bs++(bits 3 1++(bits 5 s.toNat++(al d++(bits 8 q.toNat))))) 8++ek (bs++(bits 3 1++(bits 5 s.toNat++(al d++(bits 8 q.toNat++(bits 8 o.toNat)))))) (24+(7+8*x.size)):=by
  rw[cf (bs:=bs) (a:=3) l0,cf (a:=3+5) (by rw[l1]),cf (a:=3+5+bD d) (by rw[l2]),cf (a:=3+5+bD d+8) (by rw[l3];omega),cf (a:=3+5+bD d+8+8) (by rw[l4];omega)]
  congr 1;omega
 simp only[Za]at hk
 rw[hk]
 simp only[ur,go_sem,simprocAttr,h0,h1,h2,h3,h4,hb1,Zw,Zx,Zn,Zt,ZB,ZL,ZD,Za,ite_self,if_true]
theorem Lp(s d q o c m e t u v:Int)(x:ByteArray)(hs:0≤s∧s≤31)(hd:d<32)(hd0:d<0→d= -1)(hq:0≤q∧q≤255)(ho:0≤o∧o≤255)(he: -32768≤e∧e≤32767)(hb:bs.length≤100) :
 aa T (n+7) (.fn 176) [pW,.ptr 0 0 0 0] (wH (.box (fr 2 s d q o c m e t u v x)) bs [] es)=some (.bool true,wH (.box (fr 2 s d q o c m e t u v x)) (bs++(bits 3 2++(bits 5 s.toNat++(al d++(bits 8 q.toNat++(bits 8 o.toNat++(bits 16 (tU e)))))))) [] (es++ek bs ((24+bD d)+(16)))):=by
 refine bj wm (by rfl) ?_
 have h0:∀t1 t2 es,aa T (n+6) (.fn 201) [pW,acH 3,.ptr 0 0 0 0] (wH (.box (fr 2 s d q o c m e t u v x)) bs [t1,t2] es)=some (.ba [],wH (.box (fr 2 s d q o c m e t u v x)) (bs++(bits 3 2)) [t1,t2] (es++ek bs 3)):=fun t1 t2 es=>by
  have:=fo (n+2) (fr 2 s d q o c m e t u v x) t1 t2 es bs 3 2 0 rfl (by omega) (by omega) (by omega) (by omega)
  try simp only[Za]at this
  exact this
 have l0:(bs++(bits 3 2)).length=bs.length+(3):=by simp only[Y9,an,br]<;>omega
 have h1:∀t1 t2 es,aa T (n+6) (.fn 201) [pW,acH 5,.ptr 0 0 0 1] (wH (.box (fr 2 s d q o c m e t u v x)) (bs++(bits 3 2)) [t1,t2] es)=some (.ba [],wH (.box (fr 2 s d q o c m e t u v x)) (bs++(bits 3 2++(bits 5 s.toNat))) [t1,t2] (es++ek (bs++(bits 3 2)) 5)):=fun t1 t2 es=>by
  have:=fo (n+2) (fr 2 s d q o c m e t u v x) t1 t2 es (bs++(bits 3 2)) 5 s.toNat 1 (show(fr 2 s d q o c m e t u v x)[1]?=_ by rw[Zo hs.1];rfl) (by omega) (by omega) (by omega) (by have:=fi d;rw[l0];omega)
  try simp only[Za]at this
  exact this
 have l1:(bs++(bits 3 2++(bits 5 s.toNat))).length=bs.length+(8):=by simp only[Y9,an,br]<;>omega
 have h2:∀t1 t2 es,aa T (n+6) (.fn 202) [pW,.ptr 0 0 0 2] (wH (.box (fr 2 s d q o c m e t u v x)) (bs++(bits 3 2++(bits 5 s.toNat))) [t1,t2] es)=some (.ba [],wH (.box (fr 2 s d q o c m e t u v x)) (bs++(bits 3 2++(bits 5 s.toNat++(al d)))) [t1,t2] (es++ek (bs++(bits 3 2++(bits 5 s.toNat))) (bD d))):=fun t1 t2 es=>by
  have:=wM n t1 t2 es (bs++(bits 3 2++(bits 5 s.toNat))) 2 s d q o c m e t u v x hd hd0 (by rw[l1];omega)
  try simp only[Za]at this
  exact this
 have l2:(bs++(bits 3 2++(bits 5 s.toNat++(al d)))).length=bs.length+(8+bD d):=by simp only[Y9,an,br]<;>omega
 have h3:∀t1 t2 es,aa T (n+6) (.fn 201) [pW,acH 8,.ptr 0 0 0 3] (wH (.box (fr 2 s d q o c m e t u v x)) (bs++(bits 3 2++(bits 5 s.toNat++(al d)))) [t1,t2] es)=some (.ba [],wH (.box (fr 2 s d q o c m e t u v x)) (bs++(bits 3 2++(bits 5 s.toNat++(al d++(bits 8 q.toNat))))) [t1,t2] (es++ek (bs++(bits 3 2++(bits 5 s.toNat++(al d)))) 8)):=fun t1 t2 es=>by
  have:=fo (n+2) (fr 2 s d q o c m e t u v x) t1 t2 es (bs++(bits 3 2++(bits 5 s.toNat++(al d)))) 8 q.toNat 3 (show(fr 2 s d q o c m e t u v x)[3]?=_ by rw[Zo hq.1];rfl) (by omega) (by omega) (by omega) (by have:=fi d;rw[l2];omega)
  try simp only[Za]at this
  exact this
 have l3:(bs++(bits 3 2++(bits 5 s.toNat++(al d++(bits 8 q.toNat))))).length=bs.length+(16+bD d):=by simp only[Y9,an,br]<;>omega
 have h4:∀t1 t2 es,aa T (n+6) (.fn 201) [pW,acH 8,.ptr 0 0 0 4] (wH (.box (fr 2 s d q o c m e t u v x)) (bs++(bits 3 2++(bits 5 s.toNat++(al d++(bits 8 q.toNat))))) [t1,t2] es)=some (.ba [],wH (.box (fr 2 s d q o c m e t u v x)) (bs++(bits 3 2++(bits 5 s.toNat++(al d++(bits 8 q.toNat++(bits 8 o.toNat)))))) [t1,t2] (es++ek (bs++(bits 3 2++(bits 5 s.toNat++(al d++(bits 8 q.toNat))))) 8)):=fun t1 t2 es=>by
  have:=fo (n+2) (fr 2 s d q o c m e t u v x) t1 t2 es (bs++(bits 3 2++(bits 5 s.toNat++(al d++(bits 8 q.toNat))))) 8 o.toNat 4 (show(fr 2 s d q o c m e t u v x)[4]?=_ by rw[Zo ho.1];rfl) (by omega) (by omega) (by omega) (by have:=fi d;rw[l3];omega)
  try simp only[Za]at this
  exact this
 have l4:(bs++(bits 3 2++(bits 5 s.toNat++(al d++(bits 8 q.toNat++(bits 8 o.toNat)))))).length=bs.length+(24+bD d):=by simp only[Y9,an,br]<;>omega
 have hb1:∀t1 t2 es,aa T (n+6) (.fn 198) [pW,.ptr 0 0 0 0] (wH (.box (fr 2 s d q o c m e t u v x)) (bs++(bits 3 2++(bits 5 s.toNat++(al d++(bits 8 q.toNat++(bits 8 o.toNat)))))) [t1,t2] es)=some (.ba [],wH (.box (fr 2 s d q o c m e t u v x)) (bs++(bits 3 2++(bits 5 s.toNat++(al d++(bits 8 q.toNat++(bits 8 o.toNat++(bits 16 (tU e)))))))) [t1,t2] (es++ek (bs++(bits 3 2++(bits 5 s.toNat++(al d++(bits 8 q.toNat++(bits 8 o.toNat)))))) (16))):=fun t1 t2 es=>by
  have:=QC (n+2) t1 t2 es (bs++(bits 3 2++(bits 5 s.toNat++(al d++(bits 8 q.toNat++(bits 8 o.toNat)))))) 2 s d q o c m e t u v x he.1 he.2 (by have:=fi d;rw[l4];omega)
  try simp only[Za]at this
  exact this
 have hk:ek bs ((24+bD d)+(16))=ek bs 3++ek (bs++(bits 3 2)) 5++ek (bs++(bits 3 2++(bits 5 s.toNat))) (bD d)++ek (bs++(bits 3 2++(bits 5 s.toNat++(al d)))) 8++ek (bs++(bits 3 2++(bits 5 s.toNat++(al d++(bits 8 q.toNat))))) 8++ek (bs++(bits 3 2++(bits 5 s.toNat++(al d++(bits 8 q.toNat++(bits 8 o.toNat)))))) (16):=by
  rw[cf (bs:=bs) (a:=3) l0,cf (a:=3+5) (by rw[l1]),cf (a:=3+5+bD d) (by rw[l2]),cf (a:=3+5+bD d+8) (by rw[l3];omega),cf (a:=3+5+bD d+8+8) (by rw[l4];omega)]
  congr 1;omega
 simp only[Za]at hk
 rw[hk]
 simp only[ur,go_sem,simprocAttr,h0,h1,h2,h3,h4,hb1,Zw,Zx,Zn,Zt,ZB,ZL,ZD,Za,ite_self,if_true]
theorem Mn(s d q o c m e t u v:Int)(x:ByteArray)(hs:0≤s∧s≤31)(hd:d<32)(hd0:d<0→d= -1)(hq:0≤q∧q≤255)(ho:0≤o∧o≤255)(ht:0≤t∧t≤109951162)(hu:0≤u∧u≤65535)(hv:0≤v∧v≤65535)(hx:x.size≤127)(hb:bs.length≤100) :
 aa T (n+7) (.fn 176) [pW,.ptr 0 0 0 0] (wH (.box (fr 3 s d q o c m e t u v x)) bs [] es)=some (.bool true,wH (.box (fr 3 s d q o c m e t u v x)) (bs++(bits 3 3++(bits 5 s.toNat++(al d++(bits 8 q.toNat++(bits 8 o.toNat++(bits 27 t.toNat++(bits 16 u.toNat++(bits 16 v.toNat++(bits 7 x.size++(gX x x.size))))))))))) [] (es++ek bs ((24+bD d)+(59+(7+8*x.size))))):=by
 refine bj wm (by rfl) ?_
 have h0:∀t1 t2 es,aa T (n+6) (.fn 201) [pW,acH 3,.ptr 0 0 0 0] (wH (.box (fr 3 s d q o c m e t u v x)) bs [t1,t2] es)=some (.ba [],wH (.box (fr 3 s d q o c m e t u v x)) (bs++(bits 3 3)) [t1,t2] (es++ek bs 3)):=fun t1 t2 es=>by
  have:=fo (n+2) (fr 3 s d q o c m e t u v x) t1 t2 es bs 3 3 0 rfl (by omega) (by omega) (by omega) (by omega)
  try simp only[Za]at this
  exact this
 have l0:(bs++(bits 3 3)).length=bs.length+(3):=by simp only[Y9,an,br]<;>omega
 have h1:∀t1 t2 es,aa T (n+6) (.fn 201) [pW,acH 5,.ptr 0 0 0 1] (wH (.box (fr 3 s d q o c m e t u v x)) (bs++(bits 3 3)) [t1,t2] es)=some (.ba [],wH (.box (fr 3 s d q o c m e t u v x)) (bs++(bits 3 3++(bits 5 s.toNat))) [t1,t2] (es++ek (bs++(bits 3 3)) 5)):=fun t1 t2 es=>by
  have:=fo (n+2) (fr 3 s d q o c m e t u v x) t1 t2 es (bs++(bits 3 3)) 5 s.toNat 1 (show(fr 3 s d q o c m e t u v x)[1]?=_ by rw[Zo hs.1];rfl) (by omega) (by omega) (by omega) (by have:=fi d;rw[l0];omega)
  try simp only[Za]at this
  exact this
 have l1:(bs++(bits 3 3++(bits 5 s.toNat))).length=bs.length+(8):=by simp only[Y9,an,br]<;>omega
 have h2:∀t1 t2 es,aa T (n+6) (.fn 202) [pW,.ptr 0 0 0 2] (wH (.box (fr 3 s d q o c m e t u v x)) (bs++(bits 3 3++(bits 5 s.toNat))) [t1,t2] es)=some (.ba [],wH (.box (fr 3 s d q o c m e t u v x)) (bs++(bits 3 3++(bits 5 s.toNat++(al d)))) [t1,t2] (es++ek (bs++(bits 3 3++(bits 5 s.toNat))) (bD d))):=fun t1 t2 es=>by
  have:=wM n t1 t2 es (bs++(bits 3 3++(bits 5 s.toNat))) 3 s d q o c m e t u v x hd hd0 (by rw[l1];omega)
  try simp only[Za]at this
  exact this
 have l2:(bs++(bits 3 3++(bits 5 s.toNat++(al d)))).length=bs.length+(8+bD d):=by simp only[Y9,an,br]<;>omega
 have h3:∀t1 t2 es,aa T (n+6) (.fn 201) [pW,acH 8,.ptr 0 0 0 3] (wH (.box (fr 3 s d q o c m e t u v x)) (bs++(bits 3 3++(bits 5 s.toNat++(al d)))) [t1,t2] es)=some (.ba [],wH (.box (fr 3 s d q o c m e t u v x)) (bs++(bits 3 3++(bits 5 s.toNat++(al d++(bits 8 q.toNat))))) [t1,t2] (es++ek (bs++(bits 3 3++(bits 5 s.toNat++(al d)))) 8)):=fun t1 t2 es=>by
  have:=fo (n+2) (fr 3 s d q o c m e t u v x) t1 t2 es (bs++(bits 3 3++(bits 5 s.toNat++(al d)))) 8 q.toNat 3 (show(fr 3 s d q o c m e t u v x)[3]?=_ by rw[Zo hq.1];rfl) (by omega) (by omega) (by omega) (by have:=fi d;rw[l2];omega)
  try simp only[Za]at this
  exact this
 have l3:(bs++(bits 3 3++(bits 5 s.toNat++(al d++(bits 8 q.toNat))))).length=bs.length+(16+bD d):=by simp only[Y9,an,br]<;>omega
 have h4:∀t1 t2 es,aa T (n+6) (.fn 201) [pW,acH 8,.ptr 0 0 0 4] (wH (.box (fr 3 s d q o c m e t u v x)) (bs++(bits 3 3++(bits 5 s.toNat++(al d++(bits 8 q.toNat))))) [t1,t2] es)=some (.ba [],wH (.box (fr 3 s d q o c m e t u v x)) (bs++(bits 3 3++(bits 5 s.toNat++(al d++(bits 8 q.toNat++(bits 8 o.toNat)))))) [t1,t2] (es++ek (bs++(bits 3 3++(bits 5 s.toNat++(al d++(bits 8 q.toNat))))) 8)):=fun t1 t2 es=>by
  have:=fo (n+2) (fr 3 s d q o c m e t u v x) t1 t2 es (bs++(bits 3 3++(bits 5 s.toNat++(al d++(bits 8 q.toNat))))) 8 o.toNat 4 (show(fr 3 s d q o c m e t u v x)[4]?=_ by rw[Zo ho.1];rfl) (by omega) (by omega) (by omega) (by have:=fi d;rw[l3];omega)
  try simp only[Za]at this
  exact this
 have l4:(bs++(bits 3 3++(bits 5 s.toNat++(al d++(bits 8 q.toNat++(bits 8 o.toNat)))))).length=bs.length+(24+bD d):=by simp only[Y9,an,br]<;>omega
 have hb1:∀t1 t2 es,aa T (n+6) (.fn 199) [pW,.ptr 0 0 0 0] (wH (.box (fr 3 s d q o c m e t u v x)) (bs++(bits 3 3++(bits 5 s.toNat++(al d++(bits 8 q.toNat++(bits 8 o.toNat)))))) [t1,t2] es)=some (.ba [],wH (.box (fr 3 s d q o c m e t u v x)) (bs++(bits 3 3++(bits 5 s.toNat++(al d++(bits 8 q.toNat++(bits 8 o.toNat++(bits 27 t.toNat++(bits 16 u.toNat++(bits 16 v.toNat++(bits 7 x.size++(gX x x.size))))))))))) [t1,t2] (es++ek (bs++(bits 3 3++(bits 5 s.toNat++(al d++(bits 8 q.toNat++(bits 8 o.toNat)))))) (59+(7+8*x.size)))):=fun t1 t2 es=>by
  have:=Rr n t1 t2 es (bs++(bits 3 3++(bits 5 s.toNat++(al d++(bits 8 q.toNat++(bits 8 o.toNat)))))) 3 s d q o c m e t u v x ht hu hv hx (by have:=fi d;rw[l4];omega)
  try simp only[Za]at this
  exact this
 have hk:ek bs ((24+bD d)+(59+(7+8*x.size)))=ek bs 3++ek (bs++(bits 3 3)) 5++ek (bs++(bits 3 3++(bits 5 s.toNat))) (bD d)++ek (bs++(bits 3 3++(bits 5 s.toNat++(al d)))) 8++ek (bs++(bits 3 3++(bits 5 s.toNat++(al d++(bits 8 q.toNat))))) 8++ek (bs++(bits 3 3++(bits 5 s.toNat++(al d++(bits 8 q.toNat++(bits 8 o.toNat)))))) (59+(7+8*x.size)):=by
  rw[cf (bs:=bs) (a:=3) l0,cf (a:=3+5) (by rw[l1]),cf (a:=3+5+bD d) (by rw[l2]),cf (a:=3+5+bD d+8) (by rw[l3];omega),cf (a:=3+5+bD d+8+8) (by rw[l4];omega)]
  congr 1;omega
 simp only[Za]at hk
 rw[hk]
 simp only[ur,go_sem,simprocAttr,h0,h1,h2,h3,h4,hb1,Zw,Zx,Zn,Zt,ZB,ZL,ZD,Za,ite_self,if_true]
theorem JM(s d q o c m e t u v:Int)(x:ByteArray)(hs:0≤s∧s≤31)(hd:d<32)(hd0:d<0→d= -1)(hq:0≤q∧q≤255)(ho:0≤o∧o≤255)(hx:x.size≤127)(hb:bs.length≤100) :
 aa T (n+7) (.fn 176) [pW,.ptr 0 0 0 0] (wH (.box (fr 4 s d q o c m e t u v x)) bs [] es)=some (.bool true,wH (.box (fr 4 s d q o c m e t u v x)) (bs++(bits 3 4++(bits 5 s.toNat++(al d++(bits 8 q.toNat++(bits 8 o.toNat++(bits 7 x.size++(gX x x.size)))))))) [] (es++ek bs ((24+bD d)+(7+8*x.size)))):=by
 refine bj wm (by rfl) ?_
 have h0:∀t1 t2 es,aa T (n+6) (.fn 201) [pW,acH 3,.ptr 0 0 0 0] (wH (.box (fr 4 s d q o c m e t u v x)) bs [t1,t2] es)=some (.ba [],wH (.box (fr 4 s d q o c m e t u v x)) (bs++(bits 3 4)) [t1,t2] (es++ek bs 3)):=fun t1 t2 es=>by
  have:=fo (n+2) (fr 4 s d q o c m e t u v x) t1 t2 es bs 3 4 0 rfl (by omega) (by omega) (by omega) (by omega)
  try simp only[Za]at this
  exact this
 have l0:(bs++(bits 3 4)).length=bs.length+(3):=by simp only[Y9,an,br]<;>omega
 have h1:∀t1 t2 es,aa T (n+6) (.fn 201) [pW,acH 5,.ptr 0 0 0 1] (wH (.box (fr 4 s d q o c m e t u v x)) (bs++(bits 3 4)) [t1,t2] es)=some (.ba [],wH (.box (fr 4 s d q o c m e t u v x)) (bs++(bits 3 4++(bits 5 s.toNat))) [t1,t2] (es++ek (bs++(bits 3 4)) 5)):=fun t1 t2 es=>by
  have:=fo (n+2) (fr 4 s d q o c m e t u v x) t1 t2 es (bs++(bits 3 4)) 5 s.toNat 1 (show(fr 4 s d q o c m e t u v x)[1]?=_ by rw[Zo hs.1];rfl) (by omega) (by omega) (by omega) (by have:=fi d;rw[l0];omega)
  try simp only[Za]at this
  exact this
 have l1:(bs++(bits 3 4++(bits 5 s.toNat))).length=bs.length+(8):=by simp only[Y9,an,br]<;>omega
 have h2:∀t1 t2 es,aa T (n+6) (.fn 202) [pW,.ptr 0 0 0 2] (wH (.box (fr 4 s d q o c m e t u v x)) (bs++(bits 3 4++(bits 5 s.toNat))) [t1,t2] es)=some (.ba [],wH (.box (fr 4 s d q o c m e t u v x)) (bs++(bits 3 4++(bits 5 s.toNat++(al d)))) [t1,t2] (es++ek (bs++(bits 3 4++(bits 5 s.toNat))) (bD d))):=fun t1 t2 es=>by
  have:=wM n t1 t2 es (bs++(bits 3 4++(bits 5 s.toNat))) 4 s d q o c m e t u v x hd hd0 (by rw[l1];omega)
  try simp only[Za]at this
  exact this
 have l2:(bs++(bits 3 4++(bits 5 s.toNat++(al d)))).length=bs.length+(8+bD d):=by simp only[Y9,an,br]<;>omega
 have h3:∀t1 t2 es,aa T (n+6) (.fn 201) [pW,acH 8,.ptr 0 0 0 3] (wH (.box (fr 4 s d q o c m e t u v x)) (bs++(bits 3 4++(bits 5 s.toNat++(al d)))) [t1,t2] es)=some (.ba [],wH (.box (fr 4 s d q o c m e t u v x)) (bs++(bits 3 4++(bits 5 s.toNat++(al d++(bits 8 q.toNat))))) [t1,t2] (es++ek (bs++(bits 3 4++(bits 5 s.toNat++(al d)))) 8)):=fun t1 t2 es=>by
  have:=fo (n+2) (fr 4 s d q o c m e t u v x) t1 t2 es (bs++(bits 3 4++(bits 5 s.toNat++(al d)))) 8 q.toNat 3 (show(fr 4 s d q o c m e t u v x)[3]?=_ by rw[Zo hq.1];rfl) (by omega) (by omega) (by omega) (by have:=fi d;rw[l2];omega)
  try simp only[Za]at this
  exact this
 have l3:(bs++(bits 3 4++(bits 5 s.toNat++(al d++(bits 8 q.toNat))))).length=bs.length+(16+bD d):=by simp only[Y9,an,br]<;>omega
 have h4:∀t1 t2 es,aa T (n+6) (.fn 201) [pW,acH 8,.ptr 0 0 0 4] (wH (.box (fr 4 s d q o c m e t u v x)) (bs++(bits 3 4++(bits 5 s.toNat++(al d++(bits 8 q.toNat))))) [t1,t2] es)=some (.ba [],wH (.box (fr 4 s d q o c m e t u v x)) (bs++(bits 3 4++(bits 5 s.toNat++(al d++(bits 8 q.toNat++(bits 8 o.toNat)))))) [t1,t2] (es++ek (bs++(bits 3 4++(bits 5 s.toNat++(al d++(bits 8 q.toNat))))) 8)):=fun t1 t2 es=>by
  have:=fo (n+2) (fr 4 s d q o c m e t u v x) t1 t2 es (bs++(bits 3 4++(bits 5 s.toNat++(al d++(bits 8 q.toNat))))) 8 o.toNat 4 (show(fr 4 s d q o c m e t u v x)[4]?=_ by rw[Zo ho.1];rfl) (by omega) (by omega) (by omega) (by have:=fi d;rw[l3];omega)
  try simp only[Za]at this
  exact this
 have l4:(bs++(bits 3 4++(bits 5 s.toNat++(al d++(bits 8 q.toNat++(bits 8 o.toNat)))))).length=bs.length+(24+bD d):=by simp only[Y9,an,br]<;>omega
 have hb1:∀t1 t2 es,aa T (n+6) (.fn 200) [pW,.ptr 0 0 0 0] (wH (.box (fr 4 s d q o c m e t u v x)) (bs++(bits 3 4++(bits 5 s.toNat++(al d++(bits 8 q.toNat++(bits 8 o.toNat)))))) [t1,t2] es)=some (.ba [],wH (.box (fr 4 s d q o c m e t u v x)) (bs++(bits 3 4++(bits 5 s.toNat++(al d++(bits 8 q.toNat++(bits 8 o.toNat++(bits 7 x.size++(gX x x.size)))))))) [t1,t2] (es++ek (bs++(bits 3 4++(bits 5 s.toNat++(al d++(bits 8 q.toNat++(bits 8 o.toNat)))))) (7+8*x.size))):=fun t1 t2 es=>by
  have:=RL n t1 t2 es (bs++(bits 3 4++(bits 5 s.toNat++(al d++(bits 8 q.toNat++(bits 8 o.toNat)))))) 4 s d q o c m e t u v x hx (by have:=fi d;rw[l4];omega)
  try simp only[Za]at this
  exact this
 have hk:ek bs ((24+bD d)+(7+8*x.size))=ek bs 3++ek (bs++(bits 3 4)) 5++ek (bs++(bits 3 4++(bits 5 s.toNat))) (bD d)++ek (bs++(bits 3 4++(bits 5 s.toNat++(al d)))) 8++ek (bs++(bits 3 4++(bits 5 s.toNat++(al d++(bits 8 q.toNat))))) 8++ek (bs++(bits 3 4++(bits 5 s.toNat++(al d++(bits 8 q.toNat++(bits 8 o.toNat)))))) (7+8*x.size):=by
  rw[cf (bs:=bs) (a:=3) l0,cf (a:=3+5) (by rw[l1]),cf (a:=3+5+bD d) (by rw[l2]),cf (a:=3+5+bD d+8) (by rw[l3];omega),cf (a:=3+5+bD d+8+8) (by rw[l4];omega)]
  congr 1;omega
 simp only[Za]at hk
 rw[hk]
 simp only[ur,go_sem,simprocAttr,h0,h1,h2,h3,h4,hb1,Zw,Zx,Zn,Zt,ZB,ZL,ZD,Za,ite_self,if_true]
end
end fm
end
namespace fm
abbrev iw:=BitVec 16
def uV:iw:=0x1021#16
def tm(c:iw):iw:=(c <<< 1) ^^^ (bif c.msb then uV else 0#16)
theorem Hz(a b:iw):tm (a ^^^ b)=tm a ^^^ tm b:=by
 unfold tm
 rw[BitVec.shiftLeft_xor_distrib,BitVec.msb_xor]
 cases a.msb<;>cases b.msb<;>simp only[Bool.xor_false,Bool.xor_true,Bool.false_xor,Bool.true_xor,Zr,Zu,aai,aaF,abz]
 ·ac_rfl
 ·ac_rfl
 ·rw[show a <<< 1 ^^^ uV ^^^ (b <<< 1 ^^^ uV)=a <<< 1 ^^^ b <<< 1 ^^^ (uV ^^^ uV) by ac_rfl,acb,abz]
def t4(c:iw):iw:=tm (tm (tm (tm c)))
theorem CI(a b:iw):t4 (a ^^^ b)=t4 a ^^^ t4 b:=by simp only[t4,Hz]
theorem py{c:iw}(h:c.msb=false):tm c=c <<< 1:=by unfold tm;rw[h];simp
def IG:List iw:=[0x0000#16,0x1021#16,0x2042#16,0x3063#16,0x4084#16,0x50a5#16,0x60c6#16,0x70e7#16,0x8108#16,0x9129#16,0xa14a#16,0xb16b#16,0xc18c#16,0xd1ad#16,0xe1ce#16,0xf1ef#16]
theorem Dh:∀h:Fin 16,IG[(h:Nat)]?=some (t4 ((BitVec.ofNat 16 h) <<< 12)):=by decide
theorem Gq(c:iw):t4 ((c <<< 4) >>> 4)=c <<< 4:=by
 have m:∀(i:Nat),i<4→(((c <<< 4) >>> 4) <<< i).msb=false:=by
  intro i hi
  rw[BitVec.msb_eq_getLsbD_last]
  simp[abK,abC]
  omega
 have e:∀i:Nat,(((c <<< 4) >>> 4) <<< i) <<< 1=((c <<< 4) >>> 4) <<< (i+1):=fun i=>(BitVec.shiftLeft_add _ _ _).symm
 have h0:=m 0 (by omega)
 rw[BitVec.shiftLeft_zero]at h0
 unfold t4
 rw[py h0,py (m 1 (by omega)),e 1,py (m 2 (by omega)),e 2,py (m 3 (by omega)),e 3]
 apply BitVec.eq_of_getLsbD_eq
 intro i hi
 simp[abK,abC]
 by_cases h:i<4
 ·simp[h]
 ·simp[h,hi,show 4+(i-4)=i by omega]
theorem Es(c:iw):c=((c >>> 12) <<< 12) ^^^ ((c <<< 4) >>> 4):=by
 apply BitVec.eq_of_getLsbD_eq
 intro i hi
 simp[abK,abC]
 by_cases h:i<12
 ·simp[h,show 4+i-4=i by omega,show 4+i<16 by omega]
 ·simp[h,show ¬4+i<16 by omega,show 12+(i-12)=i by omega]
  exact fun _=>hi
theorem Gk(c:iw):IG[(c >>> 12).toNat]?=some (t4 c ^^^ (c <<< 4)):=by
 have hlt:(c >>> 12).toNat<16:=by
  rw[BitVec.toNat_ushiftRight,Nat.shiftRight_eq_div_pow]
  have:=c.isLt
  omega
 have h:=Dh ⟨(c >>> 12).toNat,hlt⟩
 rw[show IG[(c >>> 12).toNat]?=_ from h]
 congr 1
 have e:BitVec.ofNat 16 (c >>> 12).toNat=c >>> 12:=by rw[BitVec.ofNat_toNat];exact BitVec.setWidth_eq _
 show t4 (BitVec.ofNat 16 (c >>> 12).toNat <<< 12)=_
 rw[e]
 have h2:t4 c=t4 ((c >>> 12) <<< 12) ^^^ (c <<< 4):=by
  rw[←Gq c,←CI,←Es]
 rw[h2,BitVec.xor_assoc,acb,abz]
end fm
namespace fm
def yp:List SV:=IG.map fun w=>.int .u16 w.toNat
@[go_sem] theorem LD:yp.length=16:=by rfl
theorem Bj(i:Nat):yp[i]?=(IG[i]?).map fun w=>.int .u16 w.toNat:=by simp[yp]
theorem RN(n:Nat)(H:ab):aa T (n+3) (.fn 234) [] H=some (.agg yp,H):=fS US (by rfl) (iE (T:=T) 100 (n+3) (.fn 234) [] ah (.agg yp,ah) (by kernel_rfl))
def EU(c:iw)(b:Nat):iw:=t4 (t4 (c ^^^ (BitVec.ofNat 16 b <<< 8)))
def xT(c:iw)(s:ByteArray):Nat→iw
 |0=>c
 |i+1=>EU (xT c s i) ((s.data[i]?).getD 0).toNat
theorem Js:∀v:Fin 16,((BitVec.ofNat 16 v:iw) <<< 12) >>> 12=BitVec.ofNat 16 v:=by decide
theorem KQ:∀v:Fin 16,((BitVec.ofNat 16 v:iw) <<< 12) <<< 4=0#16:=by decide
theorem Jz:∀v:Fin 16,t4 ((BitVec.ofNat 16 v:iw) <<< 8)=BitVec.ofNat 16 v <<< 12:=by decide
theorem M8:∀b:Fin 256,((BitVec.ofNat 16 (b/16):iw) <<< 12) ^^^ (BitVec.ofNat 16 (b%16) <<< 8)=BitVec.ofNat 16 b <<< 8:=by decide +kernel
theorem V5(c:iw){v:Nat}(hv:v<16):IG[((c >>> 12) ^^^ BitVec.ofNat 16 v).toNat]?=some (t4 (c ^^^ (BitVec.ofNat 16 v <<< 12)) ^^^ (c <<< 4)):=by
 have h:=Gk (c ^^^ (BitVec.ofNat 16 v <<< 12))
 rw[BitVec.ushiftRight_xor_distrib,BitVec.shiftLeft_xor_distrib,Js ⟨v,hv⟩,KQ ⟨v,hv⟩,abz]at h
 exact h
theorem Hu(c:iw){b:Nat}(hb:b<256):EU c b=t4 (t4 (c ^^^ (BitVec.ofNat 16 (b/16) <<< 12)) ^^^ (BitVec.ofNat 16 (b%16) <<< 12)):=by
 unfold EU
 rw[←Jz ⟨b%16,by omega⟩,←CI,BitVec.xor_assoc,M8 ⟨b,hb⟩]
theorem uz{n:Int}:IntKind.u16.wrap n=n%65536:=by simp[IntKind.wrap,IntKind.bits,IntKind.signed]
theorem HD(C:iw)(k:Nat)(hk:k≤16):IntKind.u16.wrap ((C.toNat:Int)*2 ^ min k 16)=((C <<< k).toNat:Nat):=by
 have h:((C.toNat:Int)*2 ^ k)=((C.toNat*2 ^ k:Nat):Int):=by rw[acA,abQ];rfl
 rw[aap hk,uz,h,BitVec.toNat_shiftLeft,Nat.shiftLeft_eq]
 omega
theorem TB(C:iw)(k:Nat)(hk:k≤16):((C.toNat:Int)).fdiv (2 ^ min k 16)=((C >>> k).toNat:Nat):=by
 rw[aap hk,fZ,BitVec.toNat_ushiftRight,Nat.shiftRight_eq_div_pow]
theorem KW(C:iw):(BitVec.ofInt 16 (C.toNat:Int))=C:=by
 apply BitVec.eq_of_toNat_eq
 rw[abR]
 have:=C.isLt
 omega
def Er(a b:Int):Int:=IntKind.u16.wrap ((BitVec.ofInt 16 a ^^^ BitVec.ofInt 16 b).toNat)
@[go_sem high] theorem J6 (a b:Int):cL .xor (.int .u16 a) (.int .u16 b)=some (.int .u16 (Er a b)):=by
  simp only[cL,aaz,Zr];rfl
def An(a b:Int):Int:=IntKind.u8.wrap ((BitVec.ofInt 8 a&&&BitVec.ofInt 8 b).toNat)
@[go_sem high] theorem Oz (a b:Int):cL .and (.int .u8 a) (.int .u8 b)=some (.int .u8 (An a b)):=by
  simp only[cL,aaz,Zr];rfl
theorem GF(A B:iw):Er (A.toNat:Int) (B.toNat:Int)=((A ^^^ B).toNat:Nat):=by
 unfold Er
 rw[KW,KW,uz]
 have:=(A ^^^ B).isLt
 omega
theorem Nl{b:Nat}(hb:b<256):An b 15=((b%16:Nat):Int):=by
 unfold An
 have h3:(BitVec.ofInt 8 15).toNat=15:=by decide
 rw[acs,gS _ hb,h3,Nat.and_two_pow_sub_one_eq_mod b 4]
 exact ld (by omega) (by omega)
theorem toW{v:Nat}(h:v<65536):(v:Int)=((BitVec.ofNat 16 v:iw).toNat:Nat):=by
 rw[BitVec.toNat_ofNat];omega
theorem Ri(n:Nat)(H:ab)(s:ByteArray)(hs:s.size≤1000):aa T (n+4) (.fn 222) [.int .u16 0,.str s] H=some (.int .u16 ((xT 0#16 s s.size).toNat:Nat),H):=by
 refine ae TU (by rfl) ?_
 have h:=fun H=>RN n H
 simp only[Lf,ah,go_sem,simprocAttr,h]
 refine bn (fun i=>([(0,.int .u16 ((xT 0#16 s i).toNat:Nat)),(1,.str s),(5,.ptr 0 0 0 0),(9,acH s.size),(10,acH i)],⟨[.box yp],[],0⟩)) (fun _=>True) s.size ?_ trivial ?_
 ·simp only[go_sem,simprocAttr]<;>rfl
 ·intro i hi _
  rcases Zl i s.size with hlt|hge
  ·have hs2:=bR hlt (ZN hs (by decide))
   have hd:s.data[i]?=some s.data[i]:=Z4 (by exact hlt)
   have hu:xT 0#16 s (i+1)=EU (xT 0#16 s i) s.data[i].toNat:=by simp only[xT,hd,aaC]
   have hv:=aci s.data[i]
   obtain⟨C,hC⟩:∃C,xT 0#16 s i=C:=⟨_,rfl⟩
   obtain⟨b,hb⟩:∃b,s.data[i].toNat=b:=⟨_,rfl⟩
   rw[hC,hb]at hu
   rw[hb]at hv
   have e1:IntKind.u16.wrap (((b:Int)).fdiv (2 ^ min 4 8))=((BitVec.ofNat 16 (b/16):iw).toNat:Nat):=by
    rw[show min 4 8=4 from rfl,fZ,uz,←toW (by omega)];omega
   have e2:IntKind.u16.wrap ((b%16:Nat):Int)=((BitVec.ofNat 16 (b%16):iw).toNat:Nat):=by
    rw[uz,←toW (by omega)];omega
   have e3:=Nl hv
   have q1:=V5 C (v:=b/16) (by omega)
   have l1:((C >>> 12) ^^^ BitVec.ofNat 16 (b/16)).toNat<16:=by
    have:=Y8.1 q1
    exact this.1
   obtain⟨C1,hC1⟩:∃C1,t4 (C ^^^ (BitVec.ofNat 16 (b/16) <<< 12))=C1:=⟨_,rfl⟩
   have q2:=V5 C1 (v:=b%16) (by omega)
   have l2:((C1 >>> 12) ^^^ BitVec.ofNat 16 (b%16)).toNat<16:=by
    have:=Y8.1 q2
    exact this.1
   have hst:EU C b=t4 (C1 ^^^ (BitVec.ofNat 16 (b%16) <<< 12)):=by rw[Hu C hv,hC1]
   rw[hC1]at q1
   have x1:(C <<< 4) ^^^ (C1 ^^^ (C <<< 4))=C1:=by rw[show(C <<< 4) ^^^ (C1 ^^^ (C <<< 4))=C1 ^^^ ((C <<< 4) ^^^ (C <<< 4)) by ac_rfl,acb,abz]
   have x2:(C1 <<< 4) ^^^ (t4 (C1 ^^^ (BitVec.ofNat 16 (b%16) <<< 12)) ^^^ (C1 <<< 4))=EU C b:=by
    rw[hst,show ∀P Q:iw,P ^^^ (Q ^^^ P)=Q ^^^ (P ^^^ P)from fun P Q=>by ac_rfl,acb,abz]
   have d1:∀n:Nat,n<16→decide ((n:Int)<16)=true:=fun n h=>Zc (by omega)
   have d1:=d1 _ l1
   have d2:decide (((((C1 >>> 12) ^^^ BitVec.ofNat 16 (b%16)).toNat:Nat):Int)<16)=true:=Zc (by omega)
   have s1:=fun C=>HD C 4 (by omega)
   have s2:=fun C=>TB C 12 (by omega)
   have hm:decide (max 0 (max 0 (max 1 0))≤1)=true:=by decide
   simp only[go_sem,simprocAttr,hlt,hd,hs2,hC,hb,hu,e1,e2,e3,s1,s2,GF,d1,d2,ZX,Nat.mul_one,Bj,q1,q2,x1,x2,hm]
   exact⟨trivial,trivial,trivial⟩
  ·obtain rfl:i=s.size:=by omega
   have hd:decide (s.size<s.size)=false:=Zf (by omega)
   simp only[go_sem,simprocAttr,hd]
end fm
namespace fm
def wN(s:ByteArray):iw:=xT 0#16 s s.size
def OV(C:iw):ByteArray:=⟨#[UInt8.ofNat (C.toNat/256),UInt8.ofNat (C.toNat%256)]⟩
def nZ(s:ByteArray):ByteArray:=s++OV (wN s)
theorem A6(C:iw):(OV C).size=2:=by rfl
theorem iH(s:ByteArray):(nZ s).size=s.size+2:=by rw[nZ,ByteArray.size_append,A6]
theorem FI(C:iw):IntKind.u8.wrap ((C.toNat:Int).fdiv (2 ^ min 8 16))=((C.toNat/256:Nat):Int):=by
 have:=C.isLt
 rw[show min 8 16=8 from rfl,fZ]
 exact ld (by omega) (by omega)
theorem Fe(C:iw):IntKind.u8.wrap (C.toNat:Int)=((C.toNat%256:Nat):Int):=by
 have e:∀n:Int,IntKind.u8.wrap n=n%256:=fun n=>by simp[IntKind.wrap,IntKind.bits,IntKind.signed]
 rw[e];omega
theorem toB_cons{n:Nat}(L:List (List SV)):toBytes ([.int .u8 (n:Int)]::L)=(toBytes L).map (fun l=>UInt8.ofNat n::l):=by
 simp only[toBytes,ZX]
theorem toB_nil:toBytes []=some []:=rfl
theorem S4(n:Nat)(H:ab)(s:ByteArray)(hs:s.size≤1000):aa T (n+5) (.fn 203) [.str s] H=some (.int .u16 ((wN s).toNat:Nat),H):=by
 refine ae Sk (by rfl) ?_
 simp only[MP,ah,go_sem,simprocAttr,Ri _ _ _ hs,wN]
theorem SC(n:Nat)(H:ab)(s:ByteArray)(hs:s.size≤1000):aa T (n+6) (.fn 178) [.str s] H=some (.str (nZ s),H):=by
 refine ae QF (by rfl) ?_
 obtain⟨C,hC⟩:∃C,wN s=C:=⟨_,rfl⟩
 have h:∀H,aa T (n+5) (.fn 203) [.str s] H=some (.int .u16 (C.toNat:Nat),H):=fun H=>hC▸S4 n H s hs
 have hz:decide (s.size+ #[UInt8.ofNat (C.toNat/256),UInt8.ofNat (C.toNat%256)].size≤4611686018427387904)=true:=Zc (show s.size+2≤4611686018427387904 by omega)
 simp only[MS,ah,go_sem,simprocAttr,h,FI,Fe,nZ,hC,OV,toB_cons,toB_nil,ZQ,hz]
def nn(bs:List Bool):ByteArray:=⟨((List.range (nb bs.length)).map fun j=>UInt8.ofNat (da bs j)).toArray⟩
theorem iy(bs:List Bool):(nn bs).size=nb bs.length:=by simp[nn,ByteArray.size]
theorem toB_map(f:Nat→Nat):∀l:List Nat,toBytes (l.map fun j=>[.int .u8 (f j:Nat)])=some (l.map fun j=>UInt8.ofNat (f j))
 |[]=>rfl
 |a::l=>by rw[ZO,toB_cons,toB_map f l];rfl
theorem toB_pkS(bs:List Bool):toBytes (qH bs)=some ((List.range (nb bs.length)).map fun j=>UInt8.ofNat (da bs j)):=toB_map _ _
theorem Ta(n:Nat)(b0:aD)(tl:List aD)(es:List (Nat×Nat))(bs:List Bool):aa T (n+1) (.fn 177) [.ptr 1 0 0 0] (wH b0 bs tl es)=some (.ba [.str (nn bs),acI],wH b0 bs tl es):=by
 refine bj MC (by rfl) ?_
 have l0:decide (0<tl.length+1+1+1)=true:=Zc (by omega)
 have l3:decide (3≤tl.length+1+1+1)=true:=Zc (by omega)
 have ht:List.take (nb bs.length) (qH bs)=qH bs:=ZM (by rw[et];exact Zp _)
 have hl:decide (nb bs.length≤(qH bs).length)=true:=Zc (by rw[et];exact Zp _)
 have hl2:decide (nb bs.length≤nb bs.length)=true:=Zc (Zp _)
 simp only[HE,go_sem,simprocAttr,l0,l3,ht,hl,hl2,toB_pkS,nn]
 trace_state
end fm
section
namespace fm
abbrev wE(bs:List Bool):aD:=.box [.bp 2 (nb bs.length) 0 (nb bs.length),acH bs.length,acH 8]
abbrev wX(b0:aD)(bs:List Bool)(tl:List aD)(es:List (Nat×Nat)):ab:=⟨b0::wE bs::wA bs::tl,es,0⟩
section
variable(b0:aD)(tl:List aD)(es:List (Nat×Nat))(bs:List Bool)
theorem UK(n:Nat)(x:ByteArray)(hx:127<x.size) :
 aa T (n+4) (.fn 229) [.ptr 1 0 0 0,acH 127,.str x] (wH b0 bs tl es)=some (.ba [],wX b0 bs tl es):=by
 refine bj Jv (by rfl) ?_
 have h101:=fun H=>Ks (n+2) H 127
 have x1:decide ((127:Int)<(x.size:Int))=true:=Zc (by omega)
 have l0:decide (0<tl.length+1+1+1)=true:=Zc (by omega)
 have l1:decide (1<tl.length+1+1+1)=true:=Zc (by omega)
 have l2:decide (2<tl.length+1+1+1)=true:=Zc (by omega)
 have l3':decide (tl.length+1+1+1<3)=false:=Zf (by omega)
 have l3:decide (3≤tl.length+1+1+1)=true:=Zc (by omega)
 simp only[Ge,go_sem,simprocAttr,h101,x1,l0,l1,l2,l3,l3',Zn,Zt,ite_self,if_true]
theorem QN(n:Nat):aa T (n+1) (.fn 177) [.ptr 1 0 0 0] (wX b0 bs tl es)=some (.ba [.str ⟨#[]⟩,acH 8],wX b0 bs tl es):=by
 refine bj MC (by rfl) ?_
 have l3:decide (3≤tl.length+1+1+1)=true:=Zc (by omega)
 simp only[HE,go_sem,simprocAttr,l3]
end
section
variable(n:Nat)(cs:List SV)(t1 t2 t3:aD)(es:List (Nat×Nat))(bs:List Bool)
theorem Hr(x:ByteArray)(j:Nat)(hj:cs[j]?=some (.str x))(hx:127<x.size) :
 aa T (n+5) (.fn 215) [pW,.ptr 0 0 0 j] (wH (.box cs) bs [t1,t2,t3] es)=some (.ba [],wX (.box cs) bs [t1,t2,t3] es):=by
 refine bj JB (by rfl) ?_
 have h:=fun t es=>UK (.box cs) [t1,t2,t3,t] es bs n x hx
 simp only[G4,go_sem,simprocAttr,h,hj,Zw,Zx,Zn,Zt,ZB,ZL,ZD,Za,ite_self,if_true]
theorem Ty(k s d q o c m e t u v:Int)(x:ByteArray)(hc:0≤c∧c≤255)(hm:0≤m∧m≤65535)(hx:127<x.size)(hb:bs.length≤900) :
 aa T (n+6) (.fn 197) [pW,.ptr 0 0 0 0] (wH (.box (fr k s d q o c m e t u v x)) bs [t1,t2] es)=some (.ba [],wX (.box (fr k s d q o c m e t u v x)) (bs++(bits 8 c.toNat++(bits 16 m.toNat))) [t1,t2] (es++ek bs 24)):=by
 refine bj Mx (by rfl) ?_
 have h0:∀t' es,aa T (n+5) (.fn 201) [pW,acH 8,.ptr 0 0 0 5] (wH (.box (fr k s d q o c m e t u v x)) bs [t1,t2,t'] es)=some (.ba [],wH (.box (fr k s d q o c m e t u v x)) (bs++(bits 8 c.toNat)) [t1,t2,t'] (es++ek bs 8)):=fun t' es=>by
  have:=qa (n+1) _ t1 t2 t' es bs 8 c.toNat 5 (show(fr k s d q o c m e t u v x)[5]?=_ by rw[Zo hc.1];rfl) (by omega) (by omega) (by omega) (by omega)
  try simp only[Za]at this
  exact this
 have l0:(bs++(bits 8 c.toNat)).length=bs.length+8:=by simp only[Y9,an]<;>omega
 have h1:∀t' es,aa T (n+5) (.fn 201) [pW,acH 16,.ptr 0 0 0 6] (wH (.box (fr k s d q o c m e t u v x)) (bs++(bits 8 c.toNat)) [t1,t2,t'] es)=some (.ba [],wH (.box (fr k s d q o c m e t u v x)) (bs++(bits 8 c.toNat++(bits 16 m.toNat))) [t1,t2,t'] (es++ek (bs++(bits 8 c.toNat)) 16)):=fun t' es=>by
  have:=qa (n+1) _ t1 t2 t' es (bs++(bits 8 c.toNat)) 16 m.toNat 6 (show(fr k s d q o c m e t u v x)[6]?=_ by rw[Zo hm.1];rfl) (by omega) (by omega) (by omega) (by rw[l0];omega)
  try simp only[Za]at this
  exact this
 have l1:(bs++(bits 8 c.toNat++(bits 16 m.toNat))).length=bs.length+24:=by simp only[Y9,an]<;>omega
 have hT:∀t' es,aa T (n+5) (.fn 215) [pW,.ptr 0 0 0 11] (wH (.box (fr k s d q o c m e t u v x)) (bs++(bits 8 c.toNat++(bits 16 m.toNat))) [t1,t2,t'] es)=some (.ba [],wX (.box (fr k s d q o c m e t u v x)) (bs++(bits 8 c.toNat++(bits 16 m.toNat))) [t1,t2,t'] es):=fun t' es=>Hr n (fr k s d q o c m e t u v x) t1 t2 t' es (bs++(bits 8 c.toNat++(bits 16 m.toNat))) x 11 rfl hx
 have hk:ek bs 24=ek bs 8++ek (bs++(bits 8 c.toNat)) 16:=by rw[cf l0]
 try simp only[Za]at hk
 rw[hk]
 simp only[Gw,go_sem,simprocAttr,h0,h1,hT,Zw,Zx,Zn,Zt,ZB,ZL,ZD,Za,ite_self,if_true]
theorem RD(k s d q o c m e t u v:Int)(x:ByteArray)(ht:0≤t∧t≤109951162)(hu:0≤u∧u≤65535)(hv:0≤v∧v≤65535)(hx:127<x.size)(hb:bs.length≤900) :
 aa T (n+6) (.fn 199) [pW,.ptr 0 0 0 0] (wH (.box (fr k s d q o c m e t u v x)) bs [t1,t2] es)=some (.ba [],wX (.box (fr k s d q o c m e t u v x)) (bs++(bits 27 t.toNat++(bits 16 u.toNat++(bits 16 v.toNat)))) [t1,t2] (es++ek bs 59)):=by
 refine bj LN (by rfl) ?_
 have h0:∀t' es,aa T (n+5) (.fn 201) [pW,acH 27,.ptr 0 0 0 8] (wH (.box (fr k s d q o c m e t u v x)) bs [t1,t2,t'] es)=some (.ba [],wH (.box (fr k s d q o c m e t u v x)) (bs++(bits 27 t.toNat)) [t1,t2,t'] (es++ek bs 27)):=fun t' es=>by
  have:=qa (n+1) _ t1 t2 t' es bs 27 t.toNat 8 (show(fr k s d q o c m e t u v x)[8]?=_ by rw[Zo ht.1];rfl) (by omega) (by omega) (by omega) (by omega)
  try simp only[Za]at this
  exact this
 have l0:(bs++(bits 27 t.toNat)).length=bs.length+27:=by simp only[Y9,an]<;>omega
 have h1:∀t' es,aa T (n+5) (.fn 201) [pW,acH 16,.ptr 0 0 0 9] (wH (.box (fr k s d q o c m e t u v x)) (bs++(bits 27 t.toNat)) [t1,t2,t'] es)=some (.ba [],wH (.box (fr k s d q o c m e t u v x)) (bs++(bits 27 t.toNat++(bits 16 u.toNat))) [t1,t2,t'] (es++ek (bs++(bits 27 t.toNat)) 16)):=fun t' es=>by
  have:=qa (n+1) _ t1 t2 t' es (bs++(bits 27 t.toNat)) 16 u.toNat 9 (show(fr k s d q o c m e t u v x)[9]?=_ by rw[Zo hu.1];rfl) (by omega) (by omega) (by omega) (by rw[l0];omega)
  try simp only[Za]at this
  exact this
 have l1:(bs++(bits 27 t.toNat++(bits 16 u.toNat))).length=bs.length+43:=by simp only[Y9,an]<;>omega
 have h2:∀t' es,aa T (n+5) (.fn 201) [pW,acH 16,.ptr 0 0 0 10] (wH (.box (fr k s d q o c m e t u v x)) (bs++(bits 27 t.toNat++(bits 16 u.toNat))) [t1,t2,t'] es)=some (.ba [],wH (.box (fr k s d q o c m e t u v x)) (bs++(bits 27 t.toNat++(bits 16 u.toNat++(bits 16 v.toNat)))) [t1,t2,t'] (es++ek (bs++(bits 27 t.toNat++(bits 16 u.toNat))) 16)):=fun t' es=>by
  have:=qa (n+1) _ t1 t2 t' es (bs++(bits 27 t.toNat++(bits 16 u.toNat))) 16 v.toNat 10 (show(fr k s d q o c m e t u v x)[10]?=_ by rw[Zo hv.1];rfl) (by omega) (by omega) (by omega) (by rw[l1];omega)
  try simp only[Za]at this
  exact this
 have l2:(bs++(bits 27 t.toNat++(bits 16 u.toNat++(bits 16 v.toNat)))).length=bs.length+59:=by simp only[Y9,an]<;>omega
 have hT:∀t' es,aa T (n+5) (.fn 215) [pW,.ptr 0 0 0 11] (wH (.box (fr k s d q o c m e t u v x)) (bs++(bits 27 t.toNat++(bits 16 u.toNat++(bits 16 v.toNat)))) [t1,t2,t'] es)=some (.ba [],wX (.box (fr k s d q o c m e t u v x)) (bs++(bits 27 t.toNat++(bits 16 u.toNat++(bits 16 v.toNat)))) [t1,t2,t'] es):=fun t' es=>Hr n (fr k s d q o c m e t u v x) t1 t2 t' es (bs++(bits 27 t.toNat++(bits 16 u.toNat++(bits 16 v.toNat)))) x 11 rfl hx
 have hk:ek bs 59=ek bs 27++ek (bs++(bits 27 t.toNat)) 16++ek (bs++(bits 27 t.toNat++(bits 16 u.toNat))) 16:=by rw[cf l0,cf l1]
 try simp only[Za]at hk
 rw[hk]
 simp only[Hl,go_sem,simprocAttr,h0,h1,h2,hT,Zw,Zx,Zn,Zt,ZB,ZL,ZD,Za,ite_self,if_true]
theorem Tc(k s d q o c m e t u v:Int)(x:ByteArray)(hx:127<x.size)(hb:bs.length≤900) :
 aa T (n+6) (.fn 200) [pW,.ptr 0 0 0 0] (wH (.box (fr k s d q o c m e t u v x)) bs [t1,t2] es)=some (.ba [],wX (.box (fr k s d q o c m e t u v x)) bs [t1,t2] es):=by
 refine bj LQ (by rfl) ?_
 have hT:∀t' es,aa T (n+5) (.fn 215) [pW,.ptr 0 0 0 11] (wH (.box (fr k s d q o c m e t u v x)) bs [t1,t2,t'] es)=some (.ba [],wX (.box (fr k s d q o c m e t u v x)) bs [t1,t2,t'] es):=fun t' es=>Hr n (fr k s d q o c m e t u v x) t1 t2 t' es bs x 11 rfl hx
 simp only[HC,go_sem,simprocAttr,hT,Zw,Zx,Zn,Zt,ZB,ZL,ZD,Za,ite_self,if_true]
theorem HI(s d q o c m e t u v:Int)(x:ByteArray)(hs:0≤s∧s≤31)(hd:d<32)(hd0:d<0→d= -1)(hq:0≤q∧q≤255)(ho:0≤o∧o≤255)(hc:0≤c∧c≤255)(hm:0≤m∧m≤65535)(hx:127<x.size)(hb:bs.length≤100) :
 ∃bs' es',aa T (n+7) (.fn 176) [pW,.ptr 0 0 0 0] (wH (.box (fr 1 s d q o c m e t u v x)) bs [] es)=some (.bool true,wX (.box (fr 1 s d q o c m e t u v x)) bs' [] es'):=by
 refine⟨(bs++(bits 3 1++(bits 5 s.toNat++(al d++(bits 8 q.toNat++(bits 8 o.toNat++(bits 8 c.toNat++(bits 16 m.toNat)))))))),es++(ek bs 3++(ek (bs++(bits 3 1)) 5++(ek (bs++(bits 3 1++(bits 5 s.toNat))) (bD d)++(ek (bs++(bits 3 1++(bits 5 s.toNat++(al d)))) 8++(ek (bs++(bits 3 1++(bits 5 s.toNat++(al d++(bits 8 q.toNat))))) 8++(ek (bs++(bits 3 1++(bits 5 s.toNat++(al d++(bits 8 q.toNat++(bits 8 o.toNat)))))) 24)))))),?_⟩
 refine bj wm (by rfl) ?_
 have h0:∀t1 t2 es,aa T (n+6) (.fn 201) [pW,acH 3,.ptr 0 0 0 0] (wH (.box (fr 1 s d q o c m e t u v x)) bs [t1,t2] es)=some (.ba [],wH (.box (fr 1 s d q o c m e t u v x)) (bs++(bits 3 1)) [t1,t2] (es++ek bs 3)):=fun t1 t2 es=>by
  have:=fo (n+2) (fr 1 s d q o c m e t u v x) t1 t2 es bs 3 1 0 rfl (by omega) (by omega) (by omega) (by omega)
  try simp only[Za]at this
  exact this
 have l0:(bs++(bits 3 1)).length=bs.length+(3):=by simp only[Y9,an,br]<;>omega
 have h1:∀t1 t2 es,aa T (n+6) (.fn 201) [pW,acH 5,.ptr 0 0 0 1] (wH (.box (fr 1 s d q o c m e t u v x)) (bs++(bits 3 1)) [t1,t2] es)=some (.ba [],wH (.box (fr 1 s d q o c m e t u v x)) (bs++(bits 3 1++(bits 5 s.toNat))) [t1,t2] (es++ek (bs++(bits 3 1)) 5)):=fun t1 t2 es=>by
  have:=fo (n+2) (fr 1 s d q o c m e t u v x) t1 t2 es (bs++(bits 3 1)) 5 s.toNat 1 (show(fr 1 s d q o c m e t u v x)[1]?=_ by rw[Zo hs.1];rfl) (by omega) (by omega) (by omega) (by have:=fi d;rw[l0];omega)
  try simp only[Za]at this
  exact this
 have l1:(bs++(bits 3 1++(bits 5 s.toNat))).length=bs.length+(8):=by simp only[Y9,an,br]<;>omega
 have h2:∀t1 t2 es,aa T (n+6) (.fn 202) [pW,.ptr 0 0 0 2] (wH (.box (fr 1 s d q o c m e t u v x)) (bs++(bits 3 1++(bits 5 s.toNat))) [t1,t2] es)=some (.ba [],wH (.box (fr 1 s d q o c m e t u v x)) (bs++(bits 3 1++(bits 5 s.toNat++(al d)))) [t1,t2] (es++ek (bs++(bits 3 1++(bits 5 s.toNat))) (bD d))):=fun t1 t2 es=>by
  have:=wM n t1 t2 es (bs++(bits 3 1++(bits 5 s.toNat))) 1 s d q o c m e t u v x hd hd0 (by rw[l1];omega)
  try simp only[Za]at this
  exact this
 have l2:(bs++(bits 3 1++(bits 5 s.toNat++(al d)))).length=bs.length+(8+bD d):=by simp only[Y9,an,br]<;>omega
 have h3:∀t1 t2 es,aa T (n+6) (.fn 201) [pW,acH 8,.ptr 0 0 0 3] (wH (.box (fr 1 s d q o c m e t u v x)) (bs++(bits 3 1++(bits 5 s.toNat++(al d)))) [t1,t2] es)=some (.ba [],wH (.box (fr 1 s d q o c m e t u v x)) (bs++(bits 3 1++(bits 5 s.toNat++(al d++(bits 8 q.toNat))))) [t1,t2] (es++ek (bs++(bits 3 1++(bits 5 s.toNat++(al d)))) 8)):=fun t1 t2 es=>by
  have:=fo (n+2) (fr 1 s d q o c m e t u v x) t1 t2 es (bs++(bits 3 1++(bits 5 s.toNat++(al d)))) 8 q.toNat 3 (show(fr 1 s d q o c m e t u v x)[3]?=_ by rw[Zo hq.1];rfl) (by omega) (by omega) (by omega) (by have:=fi d;rw[l2];omega)
  try simp only[Za]at this
  exact this
 have l3:(bs++(bits 3 1++(bits 5 s.toNat++(al d++(bits 8 q.toNat))))).length=bs.length+(16+bD d):=by simp only[Y9,an,br]<;>omega
 have h4:∀t1 t2 es,aa T (n+6) (.fn 201) [pW,acH 8,.ptr 0 0 0 4] (wH (.box (fr 1 s d q o c m e t u v x)) (bs++(bits 3 1++(bits 5 s.toNat++(al d++(bits 8 q.toNat))))) [t1,t2] es)=some (.ba [],wH (.box (fr 1 s d q o c m e t u v x)) (bs++(bits 3 1++(bits 5 s.toNat++(al d++(bits 8 q.toNat++(bits 8 o.toNat)))))) [t1,t2] (es++ek (bs++(bits 3 1++(bits 5 s.toNat++(al d++(bits 8 q.toNat))))) 8)):=fun t1 t2 es=>by
  have:=fo (n+2) (fr 1 s d q o c m e t u v x) t1 t2 es (bs++(bits 3 1++(bits 5 s.toNat++(al d++(bits 8 q.toNat))))) 8 o.toNat 4 (show(fr 1 s d q o c m e t u v x)[4]?=_ by rw[Zo ho.1];rfl) (by omega) (by omega) (by omega) (by have:=fi d;rw[l3];omega)
  try simp only[Za]at this
  exact this
 have l4:(bs++(bits 3 1++(bits 5 s.toNat++(al d++(bits 8 q.toNat++(bits 8 o.toNat)))))).length=bs.length+(24+bD d):=by simp only[Y9,an,br]<;>omega
 have hb1:∀t1 t2 es,aa T (n+6) (.fn 197) [pW,.ptr 0 0 0 0] (wH (.box (fr 1 s d q o c m e t u v x)) (bs++(bits 3 1++(bits 5 s.toNat++(al d++(bits 8 q.toNat++(bits 8 o.toNat)))))) [t1,t2] es)=some (.ba [],wX (.box (fr 1 s d q o c m e t u v x)) (bs++(bits 3 1++(bits 5 s.toNat++(al d++(bits 8 q.toNat++(bits 8 o.toNat++(bits 8 c.toNat++(bits 16 m.toNat)))))))) [t1,t2] (es++ek (bs++(bits 3 1++(bits 5 s.toNat++(al d++(bits 8 q.toNat++(bits 8 o.toNat)))))) 24)):=fun t1 t2 es=>by
  have:=Ty n t1 t2 es (bs++(bits 3 1++(bits 5 s.toNat++(al d++(bits 8 q.toNat++(bits 8 o.toNat)))))) 1 s d q o c m e t u v x hc hm hx (by have:=fi d;rw[l4];omega)
  try simp only[Za]at this
  exact this
 simp only[ur,go_sem,simprocAttr,h0,h1,h2,h3,h4,hb1,Zw,Zx,Zn,Zt,ZB,ZL,ZD,Za,ite_self,if_true]
theorem He(s d q o c m e t u v:Int)(x:ByteArray)(hs:0≤s∧s≤31)(hd:d<32)(hd0:d<0→d= -1)(hq:0≤q∧q≤255)(ho:0≤o∧o≤255)(ht:0≤t∧t≤109951162)(hu:0≤u∧u≤65535)(hv:0≤v∧v≤65535)(hx:127<x.size)(hb:bs.length≤100) :
 ∃bs' es',aa T (n+7) (.fn 176) [pW,.ptr 0 0 0 0] (wH (.box (fr 3 s d q o c m e t u v x)) bs [] es)=some (.bool true,wX (.box (fr 3 s d q o c m e t u v x)) bs' [] es'):=by
 refine⟨(bs++(bits 3 3++(bits 5 s.toNat++(al d++(bits 8 q.toNat++(bits 8 o.toNat++(bits 27 t.toNat++(bits 16 u.toNat++(bits 16 v.toNat))))))))),es++(ek bs 3++(ek (bs++(bits 3 3)) 5++(ek (bs++(bits 3 3++(bits 5 s.toNat))) (bD d)++(ek (bs++(bits 3 3++(bits 5 s.toNat++(al d)))) 8++(ek (bs++(bits 3 3++(bits 5 s.toNat++(al d++(bits 8 q.toNat))))) 8++(ek (bs++(bits 3 3++(bits 5 s.toNat++(al d++(bits 8 q.toNat++(bits 8 o.toNat)))))) 59)))))),?_⟩
 refine bj wm (by rfl) ?_
 have h0:∀t1 t2 es,aa T (n+6) (.fn 201) [pW,acH 3,.ptr 0 0 0 0] (wH (.box (fr 3 s d q o c m e t u v x)) bs [t1,t2] es)=some (.ba [],wH (.box (fr 3 s d q o c m e t u v x)) (bs++(bits 3 3)) [t1,t2] (es++ek bs 3)):=fun t1 t2 es=>by
  have:=fo (n+2) (fr 3 s d q o c m e t u v x) t1 t2 es bs 3 3 0 rfl (by omega) (by omega) (by omega) (by omega)
  try simp only[Za]at this
  exact this
 have l0:(bs++(bits 3 3)).length=bs.length+(3):=by simp only[Y9,an,br]<;>omega
 have h1:∀t1 t2 es,aa T (n+6) (.fn 201) [pW,acH 5,.ptr 0 0 0 1] (wH (.box (fr 3 s d q o c m e t u v x)) (bs++(bits 3 3)) [t1,t2] es)=some (.ba [],wH (.box (fr 3 s d q o c m e t u v x)) (bs++(bits 3 3++(bits 5 s.toNat))) [t1,t2] (es++ek (bs++(bits 3 3)) 5)):=fun t1 t2 es=>by
  have:=fo (n+2) (fr 3 s d q o c m e t u v x) t1 t2 es (bs++(bits 3 3)) 5 s.toNat 1 (show(fr 3 s d q o c m e t u v x)[1]?=_ by rw[Zo hs.1];rfl) (by omega) (by omega) (by omega) (by have:=fi d;rw[l0];omega)
  try simp only[Za]at this
  exact this
 have l1:(bs++(bits 3 3++(bits 5 s.toNat))).length=bs.length+(8):=by simp only[Y9,an,br]<;>omega
 have h2:∀t1 t2 es,aa T (n+6) (.fn 202) [pW,.ptr 0 0 0 2] (wH (.box (fr 3 s d q o c m e t u v x)) (bs++(bits 3 3++(bits 5 s.toNat))) [t1,t2] es)=some (.ba [],wH (.box (fr 3 s d q o c m e t u v x)) (bs++(bits 3 3++(bits 5 s.toNat++(al d)))) [t1,t2] (es++ek (bs++(bits 3 3++(bits 5 s.toNat))) (bD d))):=fun t1 t2 es=>by
  have:=wM n t1 t2 es (bs++(bits 3 3++(bits 5 s.toNat))) 3 s d q o c m e t u v x hd hd0 (by rw[l1];omega)
  try simp only[Za]at this
  exact this
 have l2:(bs++(bits 3 3++(bits 5 s.toNat++(al d)))).length=bs.length+(8+bD d):=by simp only[Y9,an,br]<;>omega
 have h3:∀t1 t2 es,aa T (n+6) (.fn 201) [pW,acH 8,.ptr 0 0 0 3] (wH (.box (fr 3 s d q o c m e t u v x)) (bs++(bits 3 3++(bits 5 s.toNat++(al d)))) [t1,t2] es)=some (.ba [],wH (.box (fr 3 s d q o c m e t u v x)) (bs++(bits 3 3++(bits 5 s.toNat++(al d++(bits 8 q.toNat))))) [t1,t2] (es++ek (bs++(bits 3 3++(bits 5 s.toNat++(al d)))) 8)):=fun t1 t2 es=>by
  have:=fo (n+2) (fr 3 s d q o c m e t u v x) t1 t2 es (bs++(bits 3 3++(bits 5 s.toNat++(al d)))) 8 q.toNat 3 (show(fr 3 s d q o c m e t u v x)[3]?=_ by rw[Zo hq.1];rfl) (by omega) (by omega) (by omega) (by have:=fi d;rw[l2];omega)
  try simp only[Za]at this
  exact this
 have l3:(bs++(bits 3 3++(bits 5 s.toNat++(al d++(bits 8 q.toNat))))).length=bs.length+(16+bD d):=by simp only[Y9,an,br]<;>omega
 have h4:∀t1 t2 es,aa T (n+6) (.fn 201) [pW,acH 8,.ptr 0 0 0 4] (wH (.box (fr 3 s d q o c m e t u v x)) (bs++(bits 3 3++(bits 5 s.toNat++(al d++(bits 8 q.toNat))))) [t1,t2] es)=some (.ba [],wH (.box (fr 3 s d q o c m e t u v x)) (bs++(bits 3 3++(bits 5 s.toNat++(al d++(bits 8 q.toNat++(bits 8 o.toNat)))))) [t1,t2] (es++ek (bs++(bits 3 3++(bits 5 s.toNat++(al d++(bits 8 q.toNat))))) 8)):=fun t1 t2 es=>by
  have:=fo (n+2) (fr 3 s d q o c m e t u v x) t1 t2 es (bs++(bits 3 3++(bits 5 s.toNat++(al d++(bits 8 q.toNat))))) 8 o.toNat 4 (show(fr 3 s d q o c m e t u v x)[4]?=_ by rw[Zo ho.1];rfl) (by omega) (by omega) (by omega) (by have:=fi d;rw[l3];omega)
  try simp only[Za]at this
  exact this
 have l4:(bs++(bits 3 3++(bits 5 s.toNat++(al d++(bits 8 q.toNat++(bits 8 o.toNat)))))).length=bs.length+(24+bD d):=by simp only[Y9,an,br]<;>omega
 have hb1:∀t1 t2 es,aa T (n+6) (.fn 199) [pW,.ptr 0 0 0 0] (wH (.box (fr 3 s d q o c m e t u v x)) (bs++(bits 3 3++(bits 5 s.toNat++(al d++(bits 8 q.toNat++(bits 8 o.toNat)))))) [t1,t2] es)=some (.ba [],wX (.box (fr 3 s d q o c m e t u v x)) (bs++(bits 3 3++(bits 5 s.toNat++(al d++(bits 8 q.toNat++(bits 8 o.toNat++(bits 27 t.toNat++(bits 16 u.toNat++(bits 16 v.toNat))))))))) [t1,t2] (es++ek (bs++(bits 3 3++(bits 5 s.toNat++(al d++(bits 8 q.toNat++(bits 8 o.toNat)))))) 59)):=fun t1 t2 es=>by
  have:=RD n t1 t2 es (bs++(bits 3 3++(bits 5 s.toNat++(al d++(bits 8 q.toNat++(bits 8 o.toNat)))))) 3 s d q o c m e t u v x ht hu hv hx (by have:=fi d;rw[l4];omega)
  try simp only[Za]at this
  exact this
 simp only[ur,go_sem,simprocAttr,h0,h1,h2,h3,h4,hb1,Zw,Zx,Zn,Zt,ZB,ZL,ZD,Za,ite_self,if_true]
theorem Gx(s d q o c m e t u v:Int)(x:ByteArray)(hs:0≤s∧s≤31)(hd:d<32)(hd0:d<0→d= -1)(hq:0≤q∧q≤255)(ho:0≤o∧o≤255)(hx:127<x.size)(hb:bs.length≤100) :
 ∃bs' es',aa T (n+7) (.fn 176) [pW,.ptr 0 0 0 0] (wH (.box (fr 4 s d q o c m e t u v x)) bs [] es)=some (.bool true,wX (.box (fr 4 s d q o c m e t u v x)) bs' [] es'):=by
 refine⟨(bs++(bits 3 4++(bits 5 s.toNat++(al d++(bits 8 q.toNat++(bits 8 o.toNat)))))),es++(ek bs 3++(ek (bs++(bits 3 4)) 5++(ek (bs++(bits 3 4++(bits 5 s.toNat))) (bD d)++(ek (bs++(bits 3 4++(bits 5 s.toNat++(al d)))) 8++(ek (bs++(bits 3 4++(bits 5 s.toNat++(al d++(bits 8 q.toNat))))) 8))))),?_⟩
 refine bj wm (by rfl) ?_
 have h0:∀t1 t2 es,aa T (n+6) (.fn 201) [pW,acH 3,.ptr 0 0 0 0] (wH (.box (fr 4 s d q o c m e t u v x)) bs [t1,t2] es)=some (.ba [],wH (.box (fr 4 s d q o c m e t u v x)) (bs++(bits 3 4)) [t1,t2] (es++ek bs 3)):=fun t1 t2 es=>by
  have:=fo (n+2) (fr 4 s d q o c m e t u v x) t1 t2 es bs 3 4 0 rfl (by omega) (by omega) (by omega) (by omega)
  try simp only[Za]at this
  exact this
 have l0:(bs++(bits 3 4)).length=bs.length+(3):=by simp only[Y9,an,br]<;>omega
 have h1:∀t1 t2 es,aa T (n+6) (.fn 201) [pW,acH 5,.ptr 0 0 0 1] (wH (.box (fr 4 s d q o c m e t u v x)) (bs++(bits 3 4)) [t1,t2] es)=some (.ba [],wH (.box (fr 4 s d q o c m e t u v x)) (bs++(bits 3 4++(bits 5 s.toNat))) [t1,t2] (es++ek (bs++(bits 3 4)) 5)):=fun t1 t2 es=>by
  have:=fo (n+2) (fr 4 s d q o c m e t u v x) t1 t2 es (bs++(bits 3 4)) 5 s.toNat 1 (show(fr 4 s d q o c m e t u v x)[1]?=_ by rw[Zo hs.1];rfl) (by omega) (by omega) (by omega) (by have:=fi d;rw[l0];omega)
  try simp only[Za]at this
  exact this
 have l1:(bs++(bits 3 4++(bits 5 s.toNat))).length=bs.length+(8):=by simp only[Y9,an,br]<;>omega
 have h2:∀t1 t2 es,aa T (n+6) (.fn 202) [pW,.ptr 0 0 0 2] (wH (.box (fr 4 s d q o c m e t u v x)) (bs++(bits 3 4++(bits 5 s.toNat))) [t1,t2] es)=some (.ba [],wH (.box (fr 4 s d q o c m e t u v x)) (bs++(bits 3 4++(bits 5 s.toNat++(al d)))) [t1,t2] (es++ek (bs++(bits 3 4++(bits 5 s.toNat))) (bD d))):=fun t1 t2 es=>by
  have:=wM n t1 t2 es (bs++(bits 3 4++(bits 5 s.toNat))) 4 s d q o c m e t u v x hd hd0 (by rw[l1];omega)
  try simp only[Za]at this
  exact this
 have l2:(bs++(bits 3 4++(bits 5 s.toNat++(al d)))).length=bs.length+(8+bD d):=by simp only[Y9,an,br]<;>omega
 have h3:∀t1 t2 es,aa T (n+6) (.fn 201) [pW,acH 8,.ptr 0 0 0 3] (wH (.box (fr 4 s d q o c m e t u v x)) (bs++(bits 3 4++(bits 5 s.toNat++(al d)))) [t1,t2] es)=some (.ba [],wH (.box (fr 4 s d q o c m e t u v x)) (bs++(bits 3 4++(bits 5 s.toNat++(al d++(bits 8 q.toNat))))) [t1,t2] (es++ek (bs++(bits 3 4++(bits 5 s.toNat++(al d)))) 8)):=fun t1 t2 es=>by
  have:=fo (n+2) (fr 4 s d q o c m e t u v x) t1 t2 es (bs++(bits 3 4++(bits 5 s.toNat++(al d)))) 8 q.toNat 3 (show(fr 4 s d q o c m e t u v x)[3]?=_ by rw[Zo hq.1];rfl) (by omega) (by omega) (by omega) (by have:=fi d;rw[l2];omega)
  try simp only[Za]at this
  exact this
 have l3:(bs++(bits 3 4++(bits 5 s.toNat++(al d++(bits 8 q.toNat))))).length=bs.length+(16+bD d):=by simp only[Y9,an,br]<;>omega
 have h4:∀t1 t2 es,aa T (n+6) (.fn 201) [pW,acH 8,.ptr 0 0 0 4] (wH (.box (fr 4 s d q o c m e t u v x)) (bs++(bits 3 4++(bits 5 s.toNat++(al d++(bits 8 q.toNat))))) [t1,t2] es)=some (.ba [],wH (.box (fr 4 s d q o c m e t u v x)) (bs++(bits 3 4++(bits 5 s.toNat++(al d++(bits 8 q.toNat++(bits 8 o.toNat)))))) [t1,t2] (es++ek (bs++(bits 3 4++(bits 5 s.toNat++(al d++(bits 8 q.toNat))))) 8)):=fun t1 t2 es=>by
  have:=fo (n+2) (fr 4 s d q o c m e t u v x) t1 t2 es (bs++(bits 3 4++(bits 5 s.toNat++(al d++(bits 8 q.toNat))))) 8 o.toNat 4 (show(fr 4 s d q o c m e t u v x)[4]?=_ by rw[Zo ho.1];rfl) (by omega) (by omega) (by omega) (by have:=fi d;rw[l3];omega)
  try simp only[Za]at this
  exact this
 have l4:(bs++(bits 3 4++(bits 5 s.toNat++(al d++(bits 8 q.toNat++(bits 8 o.toNat)))))).length=bs.length+(24+bD d):=by simp only[Y9,an,br]<;>omega
 have hb1:∀t1 t2 es,aa T (n+6) (.fn 200) [pW,.ptr 0 0 0 0] (wH (.box (fr 4 s d q o c m e t u v x)) (bs++(bits 3 4++(bits 5 s.toNat++(al d++(bits 8 q.toNat++(bits 8 o.toNat)))))) [t1,t2] es)=some (.ba [],wX (.box (fr 4 s d q o c m e t u v x)) (bs++(bits 3 4++(bits 5 s.toNat++(al d++(bits 8 q.toNat++(bits 8 o.toNat)))))) [t1,t2] es):=fun t1 t2 es=>by
  have:=Tc n t1 t2 es (bs++(bits 3 4++(bits 5 s.toNat++(al d++(bits 8 q.toNat++(bits 8 o.toNat)))))) 4 s d q o c m e t u v x hx (by have:=fi d;rw[l4];omega)
  try simp only[Za]at this
  exact this
 simp only[ur,go_sem,simprocAttr,h0,h1,h2,h3,h4,hb1,Zw,Zx,Zn,Zt,ZB,ZL,ZD,Za,ite_self,if_true]
end
end fm
end
namespace fm
def lX(k c m e t u v:Int)(x:ByteArray):List Bool:=
 bif decide (k=1)then bits 8 c.toNat++(bits 16 m.toNat++(bits 7 x.size++gX x x.size))
 else bif decide (k=2)then bits 16 (tU e)
 else bif decide (k=3)then bits 27 t.toNat++(bits 16 u.toNat++(bits 16 v.toNat++(bits 7 x.size++gX x x.size)))
 else bits 7 x.size++gX x x.size
def dh(k s d q o c m e t u v:Int)(x:ByteArray):List Bool:=
 bits 3 k.toNat++(bits 5 s.toNat++(al d++(bits 8 q.toNat++(bits 8 o.toNat++lX k c m e t u v x))))
def uW(k s d q o c m e t u v:Int)(x:ByteArray):SV:=
 bif !lg k s d q o c m e t u v x then .ba [.str ⟨#[]⟩,acH 1]
 else bif decide (127<x.size)||decide (127<(nn (dh k s d q o c m e t u v x)).size+2)then .ba [.str ⟨#[]⟩,acH 8]
 else .ba [.str (nZ (nn (dh k s d q o c m e t u v x))),acI]
theorem Ts(n:Nat)(es:List (Nat×Nat))(b0:aD):aa T (n+1) (.rW 175) [] ⟨[b0],es,0⟩=some (.ptr 1 0 0 0,⟨[b0,.box [.aA 0 [] true,acI,acI]],es,0⟩):=by
 refine fg TF ?_
 simp only[Kg,go_sem,simprocAttr]
theorem n7{k s d q o c m e t u v:Int}{x:ByteArray}(h:lg k s d q o c m e t u v x=true) :
 (0≤s∧s≤31)∧d<32∧(d<0→d= -1)∧(0≤q∧q≤255)∧(0≤o∧o≤255)∧
  ((k=1∧(0≤c∧c≤255)∧(0≤m∧m≤65535))∨(k=2∧(-32768≤e∧e≤32767)∧x=⟨#[]⟩)∨(k=3∧(0≤t∧t≤109951162)∧(0≤u∧u≤65535)∧(0≤v∧v≤65535))∨k=4):=by
 unfold lg tF at h
 simp only[eB,Ai,Zh,Ze]at h
 obtain⟨h1,hs,hq,ho⟩:=h
 by_cases k1:k=1
 ·rw[Zc k1]at h1
  simp only[Zr,Zh,Ze,ZK,Zi]at h1
  exact⟨hs,by omega,by omega,hq,ho,.inl ⟨k1,h1.1.1.2,h1.1.2⟩⟩
 ·rw[Zf k1]at h1
  by_cases k2:k=2
  ·rw[Zc k2]at h1
   simp only[Zr,Zu,Zh,Ze,ZK,Zi]at h1
   exact⟨hs,by omega,by omega,hq,ho,.inr (.inl ⟨k2,h1.1.2,h1.2.2.2.2.2.2⟩)⟩
  ·rw[Zf k2]at h1
   by_cases k3:k=3
   ·rw[Zc k3]at h1
    simp only[Zr,Zu,Zh,Ze,ZK,Zi]at h1
    exact⟨hs,by omega,by omega,hq,ho,.inr (.inr (.inl ⟨k3,h1.1.1.1.2,h1.1.1.2,h1.1.2⟩))⟩
   ·rw[Zf k3]at h1
    by_cases k4:k=4
    ·rw[Zc k4]at h1
     simp only[Zr,Zu,Zh,Z6,Ze,ZK,Zi]at h1
     exact⟨hs,by omega,by omega,hq,ho,.inr (.inr (.inr k4))⟩
    ·rw[Zf k4]at h1
     simp at h1
end fm
section
namespace fm
section
variable{k s d q o c m e t u v:Int}{x:ByteArray}
theorem QY(n:Nat)(es:List (Nat×Nat))(h:lg k s d q o c m e t u v x=true)(hx:x.size≤127) :
 ∃es',aa T (n+7) (.fn 176) [pW,.ptr 0 0 0 0] (wH (.box (fr k s d q o c m e t u v x)) [] [] es)=some (.bool true,wH (.box (fr k s d q o c m e t u v x)) (dh k s d q o c m e t u v x) [] es'):=by
 obtain⟨hs,hd,hd0,hq,ho,h⟩:=n7 h
 rcases h with⟨rfl,hc,hm⟩|⟨rfl,he,rfl⟩|⟨rfl,ht,hu,hv⟩|rfl
 ·exact⟨_,Kc n es [] s d q o c m e t u v x hs hd hd0 hq ho hc hm hx (by simp)⟩
 ·exact⟨_,Lp n es [] s d q o c m e t u v _ hs hd hd0 hq ho he (by simp)⟩
 ·exact⟨_,Mn n es [] s d q o c m e t u v x hs hd hd0 hq ho ht hu hv hx (by simp)⟩
 ·exact⟨_,JM n es [] s d q o c m e t u v x hs hd hd0 hq ho hx (by simp)⟩
theorem Qh(n:Nat)(es:List (Nat×Nat))(h:lg k s d q o c m e t u v x=true)(hx:127<x.size) :
 ∃bs' es',aa T (n+7) (.fn 176) [pW,.ptr 0 0 0 0] (wH (.box (fr k s d q o c m e t u v x)) [] [] es)=some (.bool true,wX (.box (fr k s d q o c m e t u v x)) bs' [] es'):=by
 obtain⟨hs,hd,hd0,hq,ho,h⟩:=n7 h
 rcases h with⟨rfl,hc,hm⟩|⟨rfl,he,rfl⟩|⟨rfl,ht,hu,hv⟩|rfl
 ·exact HI n es [] s d q o c m e t u v x hs hd hd0 hq ho hc hm hx (by simp)
 ·exact absurd hx (by decide)
 ·exact He n es [] s d q o c m e t u v x hs hd hd0 hq ho ht hu hv hx (by simp)
 ·exact Gx n es [] s d q o c m e t u v x hs hd hd0 hq ho hx (by simp)
end
theorem KZ(n:Nat)(H:ab)(k s d q o c m e t u v:Int)(x:ByteArray):aa T (n+8) (.fn 133) [.agg (fr k s d q o c m e t u v x)] H=some (uW k s d q o c m e t u v x,H):=by
 refine ae NF (by rfl) ?_
 have h17:=fun H=>U0 (n+3) H k s d q o c m e t u v x
 unfold uW
 cases hch:lg k s d q o c m e t u v x with
 |false=>
  rw[hch]at h17
  simp only[Cc,ah,go_sem,simprocAttr,h17]
 |true=>
  rw[hch]at h17
  have h26:=fun es b0=>Ts (n+6) es b0
  rcases Zl 127 x.size with hx|hx
  ·obtain⟨bs',es',h27⟩:=Qh n [(1,3)] hch hx
   have h27:aa T (n+7) (.fn 176) [.agg [.ptr 1 0 0 0,.cY],.ptr 0 0 0 0] ⟨[.box (fr k s d q o c m e t u v x),.box [.bp 2 0 0 0,acI,acI],.arr 0 1 [] false],[(1,3)],0⟩=_:=h27
   have h28:=QN (.box (fr k s d q o c m e t u v x)) [] es' bs' (n+6)
   have hd:decide (127<x.size)=true:=Zc hx
   simp only[Cc,ah,go_sem,simprocAttr,h17,h26,h27,h28,hd,Nat.reduceMod,Nat.reduceDiv]
  ·obtain⟨es',h27⟩:=QY n [(1,3)] hch hx
   have h27:aa T (n+7) (.fn 176) [.agg [.ptr 1 0 0 0,.cY],.ptr 0 0 0 0] ⟨[.box (fr k s d q o c m e t u v x),.box [.bp 2 0 0 0,acI,acI],.arr 0 1 [] false],[(1,3)],0⟩=_:=h27
   have h28:=Ta (n+6) (.box (fr k s d q o c m e t u v x)) [] es' (dh k s d q o c m e t u v x)
   obtain⟨P,hP⟩:∃P,nn (dh k s d q o c m e t u v x)=P:=⟨_,rfl⟩
   rw[hP]at h28⊢
   have hd:decide (127<x.size)=false:=Zf (by omega)
   have hs:P.size≤1000:=by
    rw[←hP,iy]
    have hl:(dh k s d q o c m e t u v x).length≤2000:=by
     have:=fi d
     unfold dh lX
     simp only[Y9,an,br]
     cases decide (k=1)<;>cases decide (k=2)<;>cases decide (k=3)<;>simp only[Zr,Zu,Y9,an,gz]<;>omega
    unfold nb;omega
   have h25:=fun H=>SC (n+1) H P hs
   have hw:bb ((P.size:Int)+2)=(P.size:Int)+2:=ao (by omega) (by omega)
   cases hp:decide (127<P.size+2)with
   |false=>
    have hp2:decide ((127:Int)<(P.size:Int)+2)=false:=by simp only[Zi]at hp ⊢;omega
    simp only[Cc,ah,go_sem,simprocAttr,h17,h26,h27,h28,hd,hw,hp2,h25,Nat.reduceMod,Nat.reduceDiv]
   |true=>
    have hp2:decide ((127:Int)<(P.size:Int)+2)=true:=by simp only[Ze]at hp ⊢;omega
    simp only[Cc,ah,go_sem,simprocAttr,h17,h26,h27,h28,hd,hw,hp2,h25,Nat.reduceMod,Nat.reduceDiv]
end fm
end
namespace fm
theorem vf{x h:Int}:eB x h=true↔0≤x∧x≤h:=by simp[eB]
theorem xX{x h:Int}:eB x h=false↔¬(0≤x∧x≤h):=by rw[←vf,aa6]
theorem F5{s d q o c m e t u v:Int}{x:ByteArray}:lg 1 s d q o c m e t u v x=decide (((0≤d∧d≤31)∧d≠s)∧(0≤c∧c≤255)∧(0≤m∧m≤65535)∧e=0∧t=0∧u=0∧v=0∧(0≤s∧s≤31)∧(0≤q∧q≤255)∧(0≤o∧o≤255)):=by
 rw[aam]
 simp only[lg,tF,eB,Ai,aaq,Zr,Zu,Zh,Z6,Ze,ZK,Zi]
 constructor<;>intro h<;>omega
theorem Fu{s d q o c m e t u v:Int}{x:ByteArray}:lg 2 s d q o c m e t u v x=(decide (x=⟨#[]⟩)&&decide (((0≤d∧d≤31)∧d≠s)∧(-32768≤e∧e≤32767)∧c=0∧m=0∧t=0∧u=0∧v=0∧(0≤s∧s≤31)∧(0≤q∧q≤255)∧(0≤o∧o≤255))):=by
 have k1:decide ((2:Int)=1)=false:=rfl
 rw[aam]
 simp only[lg,tF,eB,Ai,k1,aaq,Zr,Zu,Zh,Z6,Ze,ZK,Zi]
 constructor
 ·intro h
  exact⟨h.1.2.2.2.2.2.2,by omega⟩
 ·intro⟨h1,h⟩
  refine⟨⟨by omega,by omega,by omega,by omega,by omega,by omega,h1⟩,by omega⟩
theorem FV{s d q o c m e t u v:Int}{x:ByteArray}:lg 3 s d q o c m e t u v x=decide (d= -1∧(0≤t∧t≤109951162)∧(0≤u∧u≤65535)∧(0≤v∧v≤65535)∧c=0∧m=0∧e=0∧(0≤s∧s≤31)∧(0≤q∧q≤255)∧(0≤o∧o≤255)):=by
 have k1:decide ((3:Int)=1)=false:=rfl
 have k2:decide ((3:Int)=2)=false:=rfl
 rw[aam]
 simp only[lg,tF,eB,Ai,k1,k2,aaq,Zr,Zu,Zh,Z6,Ze,ZK,Zi]
 constructor<;>intro h<;>omega
theorem Mc{s d q o c m e t u v:Int}{x:ByteArray}:lg 4 s d q o c m e t u v x=decide ((d= -1∨((0≤d∧d≤31)∧d≠s))∧c=0∧m=0∧e=0∧t=0∧u=0∧v=0∧(0≤s∧s≤31)∧(0≤q∧q≤255)∧(0≤o∧o≤255)):=by
 have k1:decide ((4:Int)=1)=false:=rfl
 have k2:decide ((4:Int)=2)=false:=rfl
 have k3:decide ((4:Int)=3)=false:=rfl
 rw[aam]
 simp only[lg,tF,eB,Ai,k1,k2,k3,aaq,Zr,Zu,Zh,Z6,Ze,ZK,Zi]
 constructor<;>intro h<;>omega
theorem J4(n:Nat)(H:ab)(s d q o c m e t u v:Int)(x:ByteArray):aa T (n+2) (.fn 89) [.agg (fr 1 s d q o c m e t u v x)] H=some (acH (bif lg 1 s d q o c m e t u v x then 0 else 1),H):=by
 refine ae KX (by rfl) ?_
 rw[F5]
 simp only[IE,ah,go_sem,Int.reduceToNat,Nat.reduceAdd,Nat.reduceBEq,Nat.reduceLeDiff,Nat.reduceLT,Nat.reduceMul,Nat.reduceSub,Int.reduceEq,Int.reduceLT,Int.reduceLE,Int.reduceNeg,sg]
 repeat' (with_reducible refine aM (fun _=>?_) (fun _=>?_)<;>simp only[*,go_sem,Int.reduceToNat,Nat.reduceAdd,Nat.reduceBEq,Nat.reduceLeDiff,Nat.reduceLT,Nat.reduceMul,Nat.reduceSub,Int.reduceEq,Int.reduceLT,Int.reduceLE,Int.reduceNeg,sg])
 all_goals (simp only[vf,xX,Ze,Zi]at *;refine congrArg some (congrArg (SV.int .i64) ?_);first|(rw[Zf (by omega)];rfl)|(rw[Zc (by omega)];rfl))
theorem MM(n:Nat)(H:ab)(s d q o c m e t u v:Int)(x:ByteArray):aa T (n+2) (.fn 89) [.agg (fr 2 s d q o c m e t u v x)] H=some (acH (bif lg 2 s d q o c m e t u v x then 0 else 1),H):=by
 refine ae KX (by rfl) ?_
 rw[Fu]
 cases hx:decide (x=⟨#[]⟩)<;>simp only[IE,ah,go_sem,Int.reduceToNat,Nat.reduceAdd,Nat.reduceBEq,Nat.reduceLeDiff,Nat.reduceLT,Nat.reduceMul,Nat.reduceSub,Int.reduceEq,Int.reduceLT,Int.reduceLE,Int.reduceNeg,sg,hx]
 all_goals repeat' (with_reducible refine aM (fun _=>?_) (fun _=>?_)<;>simp only[*,go_sem,Int.reduceToNat,Nat.reduceAdd,Nat.reduceBEq,Nat.reduceLeDiff,Nat.reduceLT,Nat.reduceMul,Nat.reduceSub,Int.reduceEq,Int.reduceLT,Int.reduceLE,Int.reduceNeg,sg])
 all_goals (simp only[vf,xX,Ze,Zi]at *;refine congrArg some (congrArg (SV.int .i64) ?_);first|(rw[Zf (by omega)];rfl)|(rw[Zc (by omega)];rfl))
theorem Ju(n:Nat)(H:ab)(s d q o c m e t u v:Int)(x:ByteArray):aa T (n+2) (.fn 89) [.agg (fr 3 s d q o c m e t u v x)] H=some (acH (bif lg 3 s d q o c m e t u v x then 0 else 1),H):=by
 refine ae KX (by rfl) ?_
 rw[FV]
 simp only[IE,ah,go_sem,Int.reduceToNat,Nat.reduceAdd,Nat.reduceBEq,Nat.reduceLeDiff,Nat.reduceLT,Nat.reduceMul,Nat.reduceSub,Int.reduceEq,Int.reduceLT,Int.reduceLE,Int.reduceNeg,sg]
 repeat' (with_reducible refine aM (fun _=>?_) (fun _=>?_)<;>simp only[*,go_sem,Int.reduceToNat,Nat.reduceAdd,Nat.reduceBEq,Nat.reduceLeDiff,Nat.reduceLT,Nat.reduceMul,Nat.reduceSub,Int.reduceEq,Int.reduceLT,Int.reduceLE,Int.reduceNeg,sg])
 all_goals (simp only[vf,xX,Ze,Zi]at *;refine congrArg some (congrArg (SV.int .i64) ?_);first|(rw[Zf (by omega)];rfl)|(rw[Zc (by omega)];rfl))
theorem Ml(n:Nat)(H:ab)(s d q o c m e t u v:Int)(x:ByteArray):aa T (n+2) (.fn 89) [.agg (fr 4 s d q o c m e t u v x)] H=some (acH (bif lg 4 s d q o c m e t u v x then 0 else 1),H):=by
 refine ae KX (by rfl) ?_
 rw[Mc]
 simp only[IE,ah,go_sem,Int.reduceToNat,Nat.reduceAdd,Nat.reduceBEq,Nat.reduceLeDiff,Nat.reduceLT,Nat.reduceMul,Nat.reduceSub,Int.reduceEq,Int.reduceLT,Int.reduceLE,Int.reduceNeg,sg]
 repeat' (with_reducible refine aM (fun _=>?_) (fun _=>?_)<;>simp only[*,go_sem,Int.reduceToNat,Nat.reduceAdd,Nat.reduceBEq,Nat.reduceLeDiff,Nat.reduceLT,Nat.reduceMul,Nat.reduceSub,Int.reduceEq,Int.reduceLT,Int.reduceLE,Int.reduceNeg,sg])
 all_goals (simp only[vf,xX,Ze,Zi]at *;refine congrArg some (congrArg (SV.int .i64) ?_);first|(rw[Zf (by omega)];rfl)|(rw[Zc (by omega)];rfl))
theorem Hv(n:Nat)(H:ab)(k s d q o c m e t u v:Int)(x:ByteArray):aa T (n+2) (.fn 89) [.agg (fr k s d q o c m e t u v x)] H=some (acH (bif lg k s d q o c m e t u v x then 0 else 1),H):=by
 by_cases h1:k=1
 ·subst h1;exact J4 n H s d q o c m e t u v x
 ·by_cases h2:k=2
  ·subst h2;exact MM n H s d q o c m e t u v x
  ·by_cases h3:k=3
   ·subst h3;exact Ju n H s d q o c m e t u v x
   ·by_cases h4:k=4
    ·subst h4;exact Ml n H s d q o c m e t u v x
    ·have hc:lg k s d q o c m e t u v x=false:=by
      unfold lg;rw[Zf h1,Zf h2,Zf h3,Zf h4];rfl
     have d1:=Zf h1
     have d2:=Zf h2
     have d3:=Zf h3
     have d4:=Zf h4
     refine ae KX (by rfl) ?_
     rw[hc]
     simp only[IE,ah,go_sem,Int.reduceToNat,Nat.reduceAdd,Nat.reduceBEq,Nat.reduceLeDiff,Nat.reduceLT,Nat.reduceMul,Nat.reduceSub,Int.reduceEq,Int.reduceLT,Int.reduceLE,Int.reduceNeg,sg,d1,d2,d3,d4]
end fm
section
namespace fm
def vZ(bs:List Bool):List (List SV):=bs.map fun b=>[.int .u8 (bt b:Nat)]
@[go_sem] theorem s6 {bs:List Bool}:(vZ bs).length=bs.length:=by simp[vZ]
@[go_sem] theorem Ox (bs:List Bool)(i:Nat):(vZ bs)[i]?=(bs[i]?).map (fun b=>[.int .u8 (bt b:Nat)]):=by simp[vZ]
theorem sj(bs:List Bool)(b:Bool):vZ bs++[[.int .u8 (bt b:Nat)]]=vZ (bs++[b]):=by simp[vZ]
abbrev rB(bs:List Bool):aD:=.box [.bp 2 bs.length 0 bs.length,acI]
abbrev rA(bs:List Bool):aD:=.arr bs.length 1 (vZ bs) false
abbrev rH(b0:aD)(bs:List Bool)(tl:List aD)(es:List (Nat×Nat)):ab:=⟨b0::rB bs::rA bs::tl,es,0⟩
abbrev rk(w:Nat):List (Nat×Nat):=List.replicate w (1,3)
def Ec(a b:Int):Int:=IntKind.wrap .i64 ((BitVec.ofInt 64 a&&&BitVec.ofInt 64 b).toNat)
@[go_sem high] theorem LI (a b:Int):cL .and (acH a) (acH b)=some (acH (Ec a b)):=by
  simp only[cL,aaz,Zr];rfl
theorem uk(a:Int):Ec a 1=a%2:=by
 unfold Ec
 have h3:(BitVec.ofInt 64 1).toNat=1:=by decide
 rw[acs,h3,Nat.and_one_is_mod,abR]
 have hw:IntKind.wrap .i64 (((a%(2 ^ 64:Nat)).toNat%2:Nat):Int)=(((a%(2 ^ 64:Nat)).toNat%2:Nat):Int):=ao (by omega) (by omega)
 rw[hw]
 omega
def wZ(w:Nat)(v':Int)(v:Nat):Prop:=∀i,i<w→IntKind.u8.wrap (Ec (v'.fdiv (2 ^ min i 64)) 1)=(bt (v.testBit i):Nat)
theorem lO(w v:Nat)(hw:w≤63):wZ w (v:Int) v:=by
 intro i hi
 rw[aap (by omega),fZ,uk,vJ]
 rw[ld (by omega) (by omega)]
 rfl
theorem yU(x:Int):wZ 16 x (tU x):=by
 intro i hi
 have hp:(0:Int)≤2 ^ i:=Int.pow_nonneg (by decide)
 rw[aap (by omega),uk,vJ,abd _ hp]
 rw[ld (by omega) (by omega)]
 unfold tU
 have:i=0∨i=1∨i=2∨i=3∨i=4∨i=5∨i=6∨i=7∨i=8∨i=9∨i=10∨i=11∨i=12∨i=13∨i=14∨i=15:=by omega
 rcases this with rfl|rfl|rfl|rfl|rfl|rfl|rfl|rfl|rfl|rfl|rfl|rfl|rfl|rfl|rfl|rfl<;>omega
section
variable(b0:aD)(tl:List aD)(es:List (Nat×Nat))(bs:List Bool)
theorem Di(n:Nat)(w:Nat)(hb:bs.length+w≤524288):aa T (n+1) (.fn 143) [.ptr 1 0 0 0,acH w] (rH b0 bs tl es)=some (.bool true,rH b0 bs tl es):=by
 refine bj SL (by rfl) ?_
 have hs:bb ((bs.length:Int)+w)=bs.length+w:=ao (by omega) (by omega)
 have hx2:decide ((524288:Int)<(bs.length:Int)+w)=false:=Zf (by omega)
 have l3:decide (3≤tl.length+1+1+1)=true:=Zc (by omega)
 simp only[LY,go_sem,Int.reduceToNat,Nat.reduceAdd,Nat.reduceBEq,Nat.reduceLeDiff,Nat.reduceLT,Nat.reduceMul,Nat.reduceSub,Int.reduceEq,Int.reduceLT,Int.reduceLE,Int.reduceNeg,hs,hx2,l3]
theorem Dt(n:Nat)(w v:Nat)(v':Int)(hw:w≤63)(hv:wZ w v' v)(hb:bs.length+w≤600000):aa T (n+1) (.fn 144) [.ptr 1 0 0 0,acH w,acH v'] (rH b0 bs tl es)=some (.ba [],rH b0 (bs++bits w v) tl (es++rk w)):=by
 refine bj Rt (by rfl) ?_
 have hw1:bb ((w:Int)-1)=(w:Int)-1:=ao (by omega) (by omega)
 have hN:decide (max 2 0≤tl.length+1+1+1)=true:=Zc (by omega)
 have l0:decide (0<tl.length+1+1+1)=true:=Zc (by omega)
 have l1:decide (1<tl.length+1+1+1)=true:=Zc (by omega)
 have l2:decide (2<tl.length+1+1+1)=true:=Zc (by omega)
 have l3':decide (tl.length+1+1+1<3)=false:=Zf (by omega)
 have l3:decide (3≤tl.length+1+1+1)=true:=Zc (by omega)
 simp only[Kw,go_sem,Int.reduceToNat,Nat.reduceAdd,Nat.reduceBEq,Nat.reduceLeDiff,Nat.reduceLT,Nat.reduceMul,Nat.reduceSub,Int.reduceEq,Int.reduceLT,Int.reduceLE,Int.reduceNeg]
 refine bn (fun j=>([(0,.ptr 1 0 0 0),(2,acH v'),(6,acH ((w:Int)-1-(j:Int)))],⟨b0::rB (bs++(bits w v).take j)::rA (bs++(bits w v).take j)::tl,rk j,0⟩)) (fun _=>True) w ?_ trivial ?_
 ·simp only[go_sem,Int.reduceToNat,Nat.reduceAdd,Nat.reduceBEq,Nat.reduceLeDiff,Nat.reduceLT,Nat.reduceMul,Nat.reduceSub,Int.reduceEq,Int.reduceLT,Int.reduceLE,Int.reduceNeg,hw1,abr,ZW,Int.sub_zero,hN,Int.natCast_zero,Int.ofNat_zero]
  try rfl
 ·intro j hj _
  rcases Zl j w with hlt|hge
  ·have hx:decide ((0:Int)≤(w:Int)-1-j)=true:=Zc (by omega)
   have hs:bb ((w:Int)-1-j-1)=(w:Int)-1-(j+1:Nat):=by rw[ao (by omega) (by omega)];omega
   have hB:(bs++(bits w v).take j).length=bs.length+j:=by rw[Y9,Z8,an];omega
   have hB':bs++(bits w v).take (j+1)=(bs++(bits w v).take j)++[v.testBit (w-1-j)]:=by rw[rD hlt,Za]
   have hi:((w:Int)-1-j).toNat=w-1-j:=by omega
   have hE:=hv (w-1-j) (by omega)
   obtain⟨b,hb'⟩:∃b,v.testBit (w-1-j)=b:=⟨_,rfl⟩
   obtain⟨B,hBd⟩:∃B,bs++(bits w v).take j=B:=⟨_,rfl⟩
   rw[hb',hBd]at hB'
   rw[hBd]at hB
   rw[hb']at hE
   have hl1:(B++[b]).length=B.length+1:=by simp
   have gb:=fun H=>fQ 1 H 2 B.length B.length [[.int .u8 (bt b:Nat)]] (vZ B) s6
   have hr:decide ((B.length+1)*1≤ch)=true:=Zc (ZN (show(B.length+1)*1≤1000000 by omega) (by decide))
   have ha:=sj B b
   simp only[go_sem,Int.reduceToNat,Nat.reduceAdd,Nat.reduceBEq,Nat.reduceLeDiff,Nat.reduceLT,Nat.reduceMul,Nat.reduceSub,Int.reduceEq,Int.reduceLT,Int.reduceLE,Int.reduceNeg,hx,hi,hE,hBd,gb,hr,l0,l1,l2,l3,l3',hN,hs,hB',hl1,ha,aaR,Zn,Zt,ite_self,if_true]
   refine⟨by first|trivial|omega,by simp only[rB,rA,hl1],trivial⟩
  ·obtain rfl:j=w:=by omega
   have hx:decide ((0:Int)≤(j:Int)-1-j)=false:=Zf (by omega)
   have ht:(bits j v).take j=bits j v:=ZM (by rw[an];exact Zp _)
   simp only[go_sem,Int.reduceToNat,Nat.reduceAdd,Nat.reduceBEq,Nat.reduceLeDiff,Nat.reduceLT,Nat.reduceMul,Nat.reduceSub,Int.reduceEq,Int.reduceLT,Int.reduceLE,Int.reduceNeg,hx,ht,hN,l0,l1,l2,l3,l3',Zn,Zt,ite_self,if_true]
theorem nq(n:Nat)(w v:Nat)(h1:1≤w)(hw:w≤62)(hv:v<2 ^ w)(hb:bs.length+w≤524288):aa T (n+2) (.fn 91) [.ptr 1 0 0 0,acH w,acH v] (rH b0 bs tl es)=some (.ba [],rH b0 (bs++bits w v) tl (es++rk w)):=by
 refine bj X7 (by rfl) ?_
 have h63:=fun es=>Di b0 tl es bs n w hb
 have h64:=fun es=>Dt b0 tl es bs n w v v (by omega) (lO w v (by omega)) (by omega)
 have h62:2 ^ w≤2 ^ 62:=abl (by decide) hw
 have x1:decide ((w:Int)<1)=false:=Zf (by omega)
 have x2:decide ((63:Int)<(w:Int))=false:=Zf (by omega)
 have x3:decide ((v:Int)<0)=false:=Zf (by omega)
 have x4:decide ((w:Int)<63)=true:=Zc (by omega)
 have x5:bb (1*2 ^ min w 64)=((2 ^ w:Nat):Int):=by
  rw[aap (by omega),show((1:Int)*2 ^ w)=((2 ^ w:Nat):Int) by rw[Int.one_mul,abQ];rfl]
  exact ao (by omega) (by omega)
 have x6:decide ((((2 ^ w:Nat)):Int)≤(v:Int))=false:=Zf (by omega)
 have x7:decide ((0:Int)≤(w:Int))=true:=Zc (by omega)
 have l0:decide (0<tl.length+1+1+1)=true:=Zc (by omega)
 have l1:decide (1<tl.length+1+1+1)=true:=Zc (by omega)
 have l2:decide (2<tl.length+1+1+1)=true:=Zc (by omega)
 have l3':decide (tl.length+1+1+1<3)=false:=Zf (by omega)
 have l3:decide (3≤tl.length+1+1+1)=true:=Zc (by omega)
 simp only[VS,go_sem,Int.reduceToNat,Nat.reduceAdd,Nat.reduceBEq,Nat.reduceLeDiff,Nat.reduceLT,Nat.reduceMul,Nat.reduceSub,Int.reduceEq,Int.reduceLT,Int.reduceLE,Int.reduceNeg,h63,h64,x1,x2,x3,x4,x5,x6,ZX,l0,l1,l2,l3,l3',Zn,Zt,ZB,ZL,ZD,ite_self,if_true,Za]
theorem Lo(n:Nat)(f:Bool)(hb:bs.length+1≤524288):aa T (n+2) (.fn 92) [.ptr 1 0 0 0,.bool f] (rH b0 bs tl es)=some (.ba [],rH b0 (bs++bits 1 (bt f)) tl (es++rk 1)):=by
 refine bj YD (by rfl) ?_
 have h63:∀es,aa T (n+1) (.fn 143) [.ptr 1 0 0 0,acH 1] (rH b0 bs tl es)=some (.bool true,rH b0 bs tl es):=fun es=>Di b0 tl es bs n 1 hb
 have hl1:∀b:Bool,(bs++[b]).length=bs.length+1:=fun b=>by simp
 have hr:decide ((bs.length+1)*1≤ch)=true:=Zc (ZN (show(bs.length+1)*1≤1000000 by omega) (by decide))
 have hb1:bits 1 1=[true]:=by rfl
 have hb0:bits 1 0=[false]:=by rfl
 have l0:decide (0<tl.length+1+1+1)=true:=Zc (by omega)
 have l1:decide (1<tl.length+1+1+1)=true:=Zc (by omega)
 have l2:decide (2<tl.length+1+1+1)=true:=Zc (by omega)
 have l3':decide (tl.length+1+1+1<3)=false:=Zf (by omega)
 have l3:decide (3≤tl.length+1+1+1)=true:=Zc (by omega)
 cases f with
 |true=>
  have gb:=fun H=>fQ 1 H 2 bs.length bs.length [[.int .u8 1]] (vZ bs) s6
  have ha:vZ bs++[[SV.int .u8 1]]=vZ (bs++[true]):=sj bs true
  simp only[Qf,go_sem,Int.reduceToNat,Nat.reduceAdd,Nat.reduceBEq,Nat.reduceLeDiff,Nat.reduceLT,Nat.reduceMul,Nat.reduceSub,Int.reduceEq,Int.reduceLT,Int.reduceLE,Int.reduceNeg,h63,gb,hr,ha,bt,hb1,hl1,aaR,aa1,rH,rB,rA,l0,l1,l2,l3,l3',Zn,Zt,ZB,ZL,ZD,ite_self,if_true,Za]
 |false=>
  have gb:=fun H=>fQ 1 H 2 bs.length bs.length [[.int .u8 0]] (vZ bs) s6
  have ha:vZ bs++[[SV.int .u8 0]]=vZ (bs++[false]):=sj bs false
  simp only[Qf,go_sem,Int.reduceToNat,Nat.reduceAdd,Nat.reduceBEq,Nat.reduceLeDiff,Nat.reduceLT,Nat.reduceMul,Nat.reduceSub,Int.reduceEq,Int.reduceLT,Int.reduceLE,Int.reduceNeg,h63,gb,hr,ha,bt,hb0,hl1,aaR,aa1,rH,rB,rA,l0,l1,l2,l3,l3',Zn,Zt,ZB,ZL,ZD,ite_self,if_true,Za]
theorem XR(n:Nat)(x:Int)(h0: -32768≤x)(h1:x≤32767)(hb:bs.length+16≤524288):aa T (n+2) (.fn 93) [.ptr 1 0 0 0,acH 16,acH x] (rH b0 bs tl es)=some (.ba [],rH b0 (bs++bits 16 (tU x)) tl (es++rk 16)):=by
 refine bj W6 (by rfl) ?_
 have h63:∀es,aa T (n+1) (.fn 143) [.ptr 1 0 0 0,acH 16] (rH b0 bs tl es)=some (.bool true,rH b0 bs tl es):=fun es=>Di b0 tl es bs n 16 hb
 have h64:∀es,aa T (n+1) (.fn 144) [.ptr 1 0 0 0,acH 16,acH x] (rH b0 bs tl es)=some (.ba [],rH b0 (bs++bits 16 (tU x)) tl (es++rk 16)):=fun es=>Dt b0 tl es bs n 16 (tU x) x (by omega) (yU x) (by omega)
 have m2:bb (16-1)=15:=by decide
 have m3:bb (1*2 ^ min 15 64)=32768:=by decide
 have m4:bb (-32768)= -32768:=by decide
 have m5:bb (32768-1)=32767:=by decide
 have m6:bb (0-32768)= -32768:=by decide
 have x1:decide (x< -32768)=false:=Zf (by omega)
 have x2:decide (32767<x)=false:=Zf (by omega)
 have l0:decide (0<tl.length+1+1+1)=true:=Zc (by omega)
 have l1:decide (1<tl.length+1+1+1)=true:=Zc (by omega)
 have l2:decide (2<tl.length+1+1+1)=true:=Zc (by omega)
 have l3':decide (tl.length+1+1+1<3)=false:=Zf (by omega)
 have l3:decide (3≤tl.length+1+1+1)=true:=Zc (by omega)
 simp only[Vm,go_sem,Int.reduceToNat,Nat.reduceAdd,Nat.reduceBEq,Nat.reduceLeDiff,Nat.reduceLT,Nat.reduceMul,Nat.reduceSub,Int.reduceEq,Int.reduceLT,Int.reduceLE,Int.reduceNeg,h63,h64,m2,m3,m4,m5,m6,x1,x2,l0,l1,l2,l3,l3',Zn,Zt,ZB,ZL,ZD,ite_self,if_true,Za]
end
theorem RV(n:Nat)(H:ab):aa T (n+1) (.fn 145) [acH 127] H=some (acH 7,H):=fS Sj (by rfl) (iE (T:=T) 100 (n+1) (.fn 145) [acH 127] ah (acH 7,ah) (by kernel_rfl))
end fm
end
section
namespace fm
section
variable(b0:aD)(tl:List aD)(es:List (Nat×Nat))(bs:List Bool)
theorem zP(a b:Nat):rk a++rk b=rk (a+b):=List.replicate_append_replicate
theorem Pp(n:Nat)(x:ByteArray)(hx:x.size≤127)(hb:bs.length≤1000) :
 aa T (n+2) (.fn 94) [.ptr 1 0 0 0,acH 127,.str x] (rH b0 bs tl es)=some (.ba [],rH b0 (bs++bits 7 x.size++gX x x.size) tl (es++rk (7+8*x.size))):=by
 refine bj Ym (by rfl) ?_
 have h65:=fun H=>RV n H
 have h63:∀es,aa T (n+1) (.fn 143) [.ptr 1 0 0 0,acH (7+8*(x.size:Int))] (rH b0 bs tl es)=some (.bool true,rH b0 bs tl es):=fun es=>by
  have:=Di b0 tl es bs n (7+8*x.size) (by omega)
  rw[show(((7+8*x.size:Nat)):Int)=7+8*(x.size:Int) by omega]at this
  exact this
 have x1:decide ((127:Int)<(x.size:Int))=false:=Zf (by omega)
 have w2:bb (8*(x.size:Int))=8*(x.size:Int):=ao (by omega) (by omega)
 have w3:bb (7+8*(x.size:Int))=7+8*(x.size:Int):=ao (by omega) (by omega)
 have h64:∀es,aa T (n+1) (.fn 144) [.ptr 1 0 0 0,acH 7,acH x.size] (rH b0 bs tl es)=some (.ba [],rH b0 (bs++bits 7 x.size) tl (es++rk 7)):=fun es=>Dt b0 tl es bs n 7 x.size x.size (by omega) (lO 7 _ (by omega)) (by omega)
 have l0:decide (0<tl.length+1+1+1)=true:=Zc (by omega)
 have l1:decide (1<tl.length+1+1+1)=true:=Zc (by omega)
 have l2:decide (2<tl.length+1+1+1)=true:=Zc (by omega)
 have l3':decide (tl.length+1+1+1<3)=false:=Zf (by omega)
 have l3:decide (3≤tl.length+1+1+1)=true:=Zc (by omega)
 have hN:decide (max 2 0≤tl.length+1+1+1)=true:=Zc (by omega)
 simp only[VZ,go_sem,simprocAttr,h65,h63,x1,w2,w3,h64,l0,l1,l2,l3,l3',Zn,Zt,ite_self,if_true]
 have hP:(bs++bits 7 x.size).length=bs.length+7:=by rw[Y9,an]
 obtain⟨P,hPd⟩:∃P,bs++bits 7 x.size=P:=⟨_,rfl⟩
 rw[hPd]at hP⊢
 rw[←zP,←Za]
 have hx2:x.size≤maxLen:=ZN hx (by decide)
 refine bn (fun i=>([(0,.ptr 1 0 0 0),(2,.str x),(6,acH i)],⟨b0::rB (P++gX x i)::rA (P++gX x i)::tl,rk (8*i),0⟩)) (fun _=>True) x.size ?_ trivial ?_
 ·simp only[go_sem,simprocAttr,hN,l0,l1,l2,l3,l3',gX,ZW,Nat.mul_zero,aa1]
  try rfl
 ·intro i hi _
  rcases Zl i x.size with hlt|hge
  ·have hs:=bR hlt hx2
   have hd:x.data[i]?=some x.data[i]:=Z4 (by exact hlt)
   have hv:=aci x.data[i]
   have hu8:bb ((x.data[i].toNat:Nat):Int)=(x.data[i].toNat:Nat):=ao (by omega) (by omega)
   have h1:∀es,aa T (n+1) (.fn 144) [.ptr 1 0 0 0,acH 8,acH (x.data[i].toNat:Nat)] (rH b0 (P++gX x i) tl es)=some (.ba [],rH b0 (P++gX x i++bits 8 x.data[i].toNat) tl (es++rk 8)):=
    fun es=>Dt b0 tl es (P++gX x i) n 8 x.data[i].toNat x.data[i].toNat (by omega) (lO 8 _ (by omega)) (by rw[Y9,gz];omega)
   have hB:P++gX x i++bits 8 x.data[i].toNat=P++gX x (i+1):=by simp only[gX,hd,aaC,Za]
   have hE:rk (8*i)++rk 8=rk (8*(i+1)):=by rw[zP];rfl
   rw[hB]at h1
   have h1:=h1 (rk (8*i))
   rw[hE]at h1
   simp only[go_sem,simprocAttr,hlt,hd,hu8,h1,hs,hN,l0,l1,l2,l3,l3',Zn,Zt,ite_self,if_true]
   refine⟨by first|trivial|omega,by first|trivial|rfl,trivial⟩
  ·obtain rfl:i=x.size:=by omega
   have hd:decide (x.size<x.size)=false:=Zf (by omega)
   simp only[go_sem,simprocAttr,hd,hN,l0,l1,l2,l3,l3',Zn,Zt,ZB,ZL,ite_self,if_true,ZD,Za]
end
def Ie(a b:Int):Int:=IntKind.u8.wrap ((BitVec.ofInt 8 a|||BitVec.ofInt 8 b).toNat)
@[go_sem high] theorem TQ (a b:Int):cL .or (.int .u8 a) (.int .u8 b)=some (.int .u8 (Ie a b)):=by
  simp only[cL,aaz,Zr];rfl
theorem GN(B:List Bool)(b:Bool):Ie (da B (B.length/8):Nat) (IntKind.u8.wrap ((bt b:Nat)*2 ^ min (7-B.length%8) 8))=(da (B++[b]) (B.length/8):Nat):=by
 have hb:=ue b
 have h1:=vQ b (B.length%8) (acB _ (by decide))
 have h2:2 ^ (8-B.length%8)≤2 ^ 8:=abl (by decide) (by omega)
 have h3:bt b*2 ^ (7-B.length%8)<256:=by omega
 have h4:=mG B (B.length/8)
 have h5:=mG (B++[b]) (B.length/8)
 have h6:((bt b:Nat):Int)*2 ^ (7-B.length%8)=((bt b*2 ^ (7-B.length%8):Nat):Int):=by rw[acA,abQ];rfl
 unfold Ie
 rw[aap (by omega),h6,ld (n:=((bt b*2 ^ (7-B.length%8):Nat):Int)) (by omega) (by omega),BitVec.toNat_or,gS _ h4,gS _ h3,uj]
 exact ld (by omega) (by omega)
def C3(bs:List Bool)(i:Nat):List (List SV):=(List.range (nb bs.length)).map fun j=>[.int .u8 (da (bs.take i) j:Nat)]
theorem Cr(bs:List Bool):C3 bs 0=List.replicate (nb bs.length) [.int .u8 0]:=by
 apply aa2
 intro j
 simp only[C3,abr,aat,aa7]
 by_cases h:j<nb bs.length
 ·rw[aa0 h,if_pos h];rfl
 ·rw[aao (by simp;omega),if_neg h];rfl
theorem BG(bs:List Bool):C3 bs bs.length=qH bs:=by simp[C3,qH]
theorem E9{bs:List Bool}{i:Nat}(h:i<bs.length):(C3 bs i)[i/8]?=some [.int .u8 (da (bs.take i) (i/8):Nat)]:=by
 simp only[C3,aat]
 rw[aa0 (by unfold nb;omega)];rfl
theorem DZ{bs:List Bool}{i:Nat}{b:Bool}(h:bs[i]?=some b):(C3 bs i).set (i/8) [.int .u8 (da (bs.take i++[b]) (i/8):Nat)]=C3 bs (i+1):=by
 have hlt:i<bs.length:=(Y8.1 h).1
 have hl:(bs.take i).length=i:=by rw[Z8];omega
 have ht:bs.take (i+1)=bs.take i++[b]:=by rw[aaE,h];rfl
 apply aa2
 intro j
 rw[abA]
 simp only[C3,aat,ab9,abW]
 by_cases hj:i/8=j
 ·subst hj
  rw[if_pos rfl,if_pos (by unfold nb;omega),aa0 (by unfold nb;omega),ht];rfl
 ·rw[if_neg hj]
  by_cases h2:j<nb bs.length
  ·rw[aa0 h2,ht]
   simp only[ZQ]
   rw[qd (by rw[hl];exact fun h=>hj h.symm)]
  ·rw[aao (by simp;omega)];rfl
end fm
end
namespace fm
theorem WN(H:ab)(m:Nat)(h:m≤100000):mF 1 [.int .u8 0] 1 H (acH m) (acH m)=some (.bp H.bl.length 0 0 m,bH H (.arr 0 1 (List.replicate m [.int .u8 0]) true)):=by
 have h1:decide ((0:Int)≤(m:Int))=true:=Zc (by omega)
 have h2:decide ((m:Int)≤(m:Int))=true:=Zc (by omega)
 have h3:decide ((m:Int)*((1:Nat):Int)≤(ch:Int))=true:=Zc (by have:(ch:Int)=1099511627776:=rfl;omega)
 simp only[mF,h1,h2,h3,ZD,Zr,ZX]
theorem KA(n:Nat)(b0:aD)(es:List (Nat×Nat))(bs:List Bool)(hb:bs.length≤600000):aa T (n+1) (.fn 95) [.ptr 1 0 0 0] (rH b0 bs [] es)=some (.ba [.str (nn bs),acI],rH b0 bs [] es):=by
 refine bj XJ (by rfl) ?_
 have w1:bb ((bs.length:Int)+7)=((bs.length+7:Nat):Int):=by rw[ao (by omega) (by omega)];omega
 have w2:bb (((bs.length+7)/8:Nat):Int)=((nb bs.length:Nat):Int):=by rw[ao (by omega) (by omega)];rfl
 have hL:bs.length≤maxLen:=ZN hb (by decide)
 simp only[Wf,go_sem,simprocAttr,w1,w2,WN _ _ (show nb bs.length≤100000 by unfold nb;omega),Zw,Zx,←Cr]
 refine bn (fun i=>([(0,.ptr 1 0 0 0),(4,.bp 3 0 0 (nb bs.length)),(5,acH i)],⟨[b0,rB bs,rA bs,.arr 0 1 (C3 bs i) true],[],0⟩)) (fun _=>True) bs.length ?_ trivial ?_
 ·simp only[go_sem,simprocAttr]
  try rfl
 ·intro i hi _
  rcases Zl i bs.length with hlt|hge
  ·obtain⟨b,hbi⟩:=bV hlt
   have hs:=bR hlt hL
   have hw8:bb ((i/8:Nat):Int)=((i/8:Nat):Int):=ao (by omega) (by omega)
   have hw7:bb (7-((i%8:Nat):Int))=((7-i%8:Nat):Int):=by rw[ao (by omega) (by omega)];omega
   have hlt1:decide (i/8<nb bs.length)=true:=Zc (by unfold nb;omega)
   have hg:=E9 hlt
   have hl:(bs.take i).length=i:=by rw[Z8];omega
   have hE:=GN (bs.take i) b
   rw[hl]at hE
   have cp:=DZ hbi
   simp only[go_sem,simprocAttr,hlt,hbi,hw8,hw7,hlt1,hg,hE,cp,hs,ZX]
   refine⟨by first|trivial|omega,by first|trivial|rfl,trivial⟩
  ·obtain rfl:i=bs.length:=by omega
   have hd:decide (bs.length<bs.length)=false:=Zf (by omega)
   have ht:List.take (nb bs.length) (qH bs)=qH bs:=ZM (by rw[et];exact Zp _)
   have hl:decide (nb bs.length≤(qH bs).length)=true:=Zc (by rw[et];exact Zp _)
   have hl2:decide (nb bs.length≤nb bs.length)=true:=Zc (Zp _)
   simp only[go_sem,simprocAttr,hd,BG,ht,hl,hl2,toB_pkS,nn]
end fm
namespace fm
theorem J5{C:iw}(h:32768≤C.toNat):tm C=(C <<< 1) ^^^ uV:=by
 unfold tm
 rw[show C.msb=true by rw[BitVec.msb_eq_decide];exact Zc h];rfl
theorem JD{C:iw}(h:¬32768≤C.toNat):tm C=C <<< 1:=by
 apply py
 rw[BitVec.msb_eq_decide];exact Zf h
theorem R0(n:Nat)(H:ab)(C:iw):aa T (n+1) (.fn 212) [.int .u16 (C.toNat:Nat)] H=some (.int .u16 ((tm C).toNat:Nat),H):=by
 refine ae Tb (by rfl) ?_
 have s1:=HD C 1 (by omega)
 have hp:=GF (C <<< 1) uV
 have hp:Er ((C <<< 1).toNat:Nat) 4129=((C <<< 1 ^^^ uV).toNat:Nat):=hp
 by_cases h:32768≤C.toNat
 ·have hd:decide ((32768:Int)≤(C.toNat:Int))=true:=Zc (by omega)
  rw[J5 h]
  simp only[H8,ah,go_sem,simprocAttr,hd,s1,hp]
 ·have hd:decide ((32768:Int)≤(C.toNat:Int))=false:=Zf (by omega)
  rw[JD h]
  simp only[H8,ah,go_sem,simprocAttr,hd,s1,hp]
def OD(C:iw):Nat→iw
 |0=>C
 |j+1=>tm (OD C j)
theorem Uh(n:Nat)(H:ab)(s:ByteArray)(hs:s.size≤1000):aa T (n+2) (.fn 187) [.int .u16 0,.str s] H=some (.int .u16 ((xT 0#16 s s.size).toNat:Nat),H):=by
 refine ae Tj (by rfl) ?_
 simp only[Mb,ah,go_sem,simprocAttr]
 have hL:s.size≤maxLen:=ZN hs (by decide)
 refine bn (fun i=>([(0,.int .u16 ((xT 0#16 s i).toNat:Nat)),(1,.str s),(5,acH i)],⟨[],[],0⟩)) (fun _=>True) s.size ?_ trivial ?_
 ·simp only[go_sem,simprocAttr]<;>rfl
 ·intro i hi _
  rcases Zl i s.size with hlt|hge
  ·have hs2:=bR hlt hL
   have hd:s.data[i]?=some s.data[i]:=Z4 (by exact hlt)
   have hu:xT 0#16 s (i+1)=EU (xT 0#16 s i) s.data[i].toNat:=by simp only[xT,hd,aaC]
   have hv:=aci s.data[i]
   obtain⟨C,hC⟩:∃C,xT 0#16 s i=C:=⟨_,rfl⟩
   obtain⟨b,hb⟩:∃b,s.data[i].toNat=b:=⟨_,rfl⟩
   rw[hC,hb]at hu
   rw[hb]at hv
   have e1:IntKind.u16.wrap (b:Int)=((BitVec.ofNat 16 b:iw).toNat:Nat):=by rw[uz,←toW (by omega)];omega
   have s1:=HD (BitVec.ofNat 16 b) 8 (by omega)
   simp only[go_sem,simprocAttr,hlt,hd,hC,hb,e1,s1,GF]
   refine rX (fun j=>([(0,.int .u16 ((OD (C ^^^ (BitVec.ofNat 16 b <<< 8)) j).toNat:Nat)),(1,.str s),(5,acH i),(6,acH j)],⟨[],[],0⟩)) (fun _=>True) 8 ?_ trivial ?_
   ·simp only[go_sem,simprocAttr]<;>rfl
   ·intro j hj _
    rcases Zl j 8 with hlj|hgj
    ·have hxj:decide ((j:Int)<8)=true:=Zc (by omega)
     have hsj:bb ((j:Int)+1)=((j+1:Nat):Int):=by rw[ao (by omega) (by omega)];omega
     have h98:=fun H=>R0 n H (OD (C ^^^ (BitVec.ofNat 16 b <<< 8)) j)
     simp only[go_sem,simprocAttr,hxj,hsj,h98]
     refine⟨by first|trivial|omega,by first|trivial|rfl,trivial⟩
    ·obtain rfl:j=8:=by omega
     have ht:OD (C ^^^ (BitVec.ofNat 16 b <<< 8)) 8=EU C b:=rfl
     have hxj:decide (((8:Nat):Int)<8)=false:=by decide
     simp only[go_sem,simprocAttr,hxj,ht,hs2,hu]
     refine⟨by first|trivial|omega,by first|trivial|rfl,trivial⟩
  ·obtain rfl:i=s.size:=by omega
   have hd:decide (s.size<s.size)=false:=Zf (by omega)
   simp only[go_sem,simprocAttr,hd]
theorem PM(n:Nat)(H:ab)(s:ByteArray)(hs:s.size≤1000):aa T (n+3) (.fn 146) [.str s] H=some (.int .u16 ((wN s).toNat:Nat),H):=by
 refine ae UA (by rfl) ?_
 simp only[Ms,ah,go_sem,simprocAttr,Uh _ _ _ hs,wN]
theorem KE(n:Nat)(H:ab)(s:ByteArray)(hs:s.size≤1000):aa T (n+4) (.fn 96) [.str s] H=some (.str (nZ s),H):=by
 refine ae X8 (by rfl) ?_
 obtain⟨C,hC⟩:∃C,wN s=C:=⟨_,rfl⟩
 have h:∀H,aa T (n+3) (.fn 146) [.str s] H=some (.int .u16 (C.toNat:Nat),H):=fun H=>hC▸PM n H s hs
 have hz:decide (s.size+ #[UInt8.ofNat (C.toNat/256),UInt8.ofNat (C.toNat%256)].size≤4611686018427387904)=true:=Zc (show s.size+2≤4611686018427387904 by omega)
 simp only[VQ,ah,go_sem,simprocAttr,h,FI,Fe,nZ,hC,OV,toB_cons,toB_nil,ZQ,hz]
end fm
namespace fm
theorem Lv(n:Nat)(es:List (Nat×Nat))(b0:aD):aa T (n+1) (.rW 90) [] ⟨[b0],es,0⟩=some (.ptr 1 0 0 0,⟨[b0,.box [.aA 0 [] true,acI]],es,0⟩):=by
 refine fg XP ?_
 simp only[Vi,go_sem,simprocAttr]
theorem Im(n:Nat)(H:ab)(s d q o c m e t u v:Int)(x:ByteArray)(hch:lg 1 s d q o c m e t u v x=true)(hx:x.size≤127)(hd:0≤d):aa T (n+5) (.fn 51) [.agg (fr 1 s d q o c m e t u v x)] H=some (uW 1 s d q o c m e t u v x,H):=by
 refine ae G2 (by rfl) ?_
 have h18:=fun H=>Hv (n+2) H 1 s d q o c m e t u v x
 rw[hch]at h18
 obtain⟨hs,hd1,hd0,hq,ho,hk⟩:=n7 hch
 obtain⟨hcc,hmm⟩:(0≤c∧c≤255)∧(0≤m∧m≤65535):=by rcases hk with h|h|h|h<;>first|exact h.2|(exfalso;omega)
 have h29:=fun es b0=>Lv (n+3) es b0
 obtain⟨B0,hB0⟩:∃B,B=[]++bits 3 1:=⟨_,rfl⟩
 have lB0:B0.length=3:=by rw[hB0,Y9,an]<;>rfl
 have h0:∀es,aa T (n+4) (.fn 91) [.ptr 1 0 0 0,acH 3,acH 1] (⟨[.box (fr 1 s d q o c m e t u v x),.box [.bp 2 0 0 0,acI],.arr 0 1 [] false],es,0⟩)=some (.ba [],rH (.box (fr 1 s d q o c m e t u v x)) B0 [] (es++rk 3)):=fun es=>by
  have:=nq (.box (fr 1 s d q o c m e t u v x)) [] es [] (n+2) 3 1 (by omega) (by omega) (by omega) (by rw[Zx];omega)
  rw[hB0];exact this
 obtain⟨B1,hB1⟩:∃B,B=B0++bits 5 s.toNat:=⟨_,rfl⟩
 have lB1:B1.length=8:=by rw[hB1,Y9,an,lB0]
 have h1:∀es,aa T (n+4) (.fn 91) [.ptr 1 0 0 0,acH 5,acH s] (rH (.box (fr 1 s d q o c m e t u v x)) B0 [] es)=some (.ba [],rH (.box (fr 1 s d q o c m e t u v x)) B1 [] (es++rk 5)):=fun es=>by
  have:=nq (.box (fr 1 s d q o c m e t u v x)) [] es B0 (n+2) 5 s.toNat (by omega) (by omega) (by omega) (by rw[lB0];omega)
  rw[Zo hs.1]at this
  rw[hB1];exact this
 obtain⟨B2,hB2⟩:∃B,B=B1++bits 1 (bt true):=⟨_,rfl⟩
 have lB2:B2.length=9:=by rw[hB2,Y9,an,lB1]
 have h2:∀es,aa T (n+4) (.fn 92) [.ptr 1 0 0 0,.bool true] (rH (.box (fr 1 s d q o c m e t u v x)) B1 [] es)=some (.ba [],rH (.box (fr 1 s d q o c m e t u v x)) B2 [] (es++rk 1)):=fun es=>by
  have:=Lo (.box (fr 1 s d q o c m e t u v x)) [] es B1 (n+2) true (by rw[lB1];omega)
  rw[hB2];exact this
 obtain⟨B3,hB3⟩:∃B,B=B2++bits 5 d.toNat:=⟨_,rfl⟩
 have lB3:B3.length=14:=by rw[hB3,Y9,an,lB2]
 have h3:∀es,aa T (n+4) (.fn 91) [.ptr 1 0 0 0,acH 5,acH d] (rH (.box (fr 1 s d q o c m e t u v x)) B2 [] es)=some (.ba [],rH (.box (fr 1 s d q o c m e t u v x)) B3 [] (es++rk 5)):=fun es=>by
  have:=nq (.box (fr 1 s d q o c m e t u v x)) [] es B2 (n+2) 5 d.toNat (by omega) (by omega) (by omega) (by rw[lB2];omega)
  rw[Zo hd]at this
  rw[hB3];exact this
 obtain⟨B4,hB4⟩:∃B,B=B3++bits 8 q.toNat:=⟨_,rfl⟩
 have lB4:B4.length=22:=by rw[hB4,Y9,an,lB3]
 have h4:∀es,aa T (n+4) (.fn 91) [.ptr 1 0 0 0,acH 8,acH q] (rH (.box (fr 1 s d q o c m e t u v x)) B3 [] es)=some (.ba [],rH (.box (fr 1 s d q o c m e t u v x)) B4 [] (es++rk 8)):=fun es=>by
  have:=nq (.box (fr 1 s d q o c m e t u v x)) [] es B3 (n+2) 8 q.toNat (by omega) (by omega) (by omega) (by rw[lB3];omega)
  rw[Zo hq.1]at this
  rw[hB4];exact this
 obtain⟨B5,hB5⟩:∃B,B=B4++bits 8 o.toNat:=⟨_,rfl⟩
 have lB5:B5.length=30:=by rw[hB5,Y9,an,lB4]
 have h5:∀es,aa T (n+4) (.fn 91) [.ptr 1 0 0 0,acH 8,acH o] (rH (.box (fr 1 s d q o c m e t u v x)) B4 [] es)=some (.ba [],rH (.box (fr 1 s d q o c m e t u v x)) B5 [] (es++rk 8)):=fun es=>by
  have:=nq (.box (fr 1 s d q o c m e t u v x)) [] es B4 (n+2) 8 o.toNat (by omega) (by omega) (by omega) (by rw[lB4];omega)
  rw[Zo ho.1]at this
  rw[hB5];exact this
 obtain⟨B6,hB6⟩:∃B,B=B5++bits 8 c.toNat:=⟨_,rfl⟩
 have lB6:B6.length=38:=by rw[hB6,Y9,an,lB5]
 have h6:∀es,aa T (n+4) (.fn 91) [.ptr 1 0 0 0,acH 8,acH c] (rH (.box (fr 1 s d q o c m e t u v x)) B5 [] es)=some (.ba [],rH (.box (fr 1 s d q o c m e t u v x)) B6 [] (es++rk 8)):=fun es=>by
  have:=nq (.box (fr 1 s d q o c m e t u v x)) [] es B5 (n+2) 8 c.toNat (by omega) (by omega) (by omega) (by rw[lB5];omega)
  rw[Zo hcc.1]at this
  rw[hB6];exact this
 obtain⟨B7,hB7⟩:∃B,B=B6++bits 16 m.toNat:=⟨_,rfl⟩
 have lB7:B7.length=54:=by rw[hB7,Y9,an,lB6]
 have h7:∀es,aa T (n+4) (.fn 91) [.ptr 1 0 0 0,acH 16,acH m] (rH (.box (fr 1 s d q o c m e t u v x)) B6 [] es)=some (.ba [],rH (.box (fr 1 s d q o c m e t u v x)) B7 [] (es++rk 16)):=fun es=>by
  have:=nq (.box (fr 1 s d q o c m e t u v x)) [] es B6 (n+2) 16 m.toNat (by omega) (by omega) (by omega) (by rw[lB6];omega)
  rw[Zo hmm.1]at this
  rw[hB7];exact this
 obtain⟨B8,hB8⟩:∃B,B=B7++bits 7 x.size++gX x x.size:=⟨_,rfl⟩
 have lB8:B8.length=61+8*x.size:=by rw[hB8,Y9,Y9,an,lB7,gz]
 have h8:∀es,aa T (n+4) (.fn 94) [.ptr 1 0 0 0,acH 127,.str x] (rH (.box (fr 1 s d q o c m e t u v x)) B7 [] es)=some (.ba [],rH (.box (fr 1 s d q o c m e t u v x)) B8 [] (es++rk (7+8*x.size))):=fun es=>by
  rw[hB8];exact Pp (.box (fr 1 s d q o c m e t u v x)) [] es B7 (n+2) x hx (by rw[lB7];omega)
 have hE:dh 1 s d q o c m e t u v x=B8:=by
  have kd1:decide ((1:Int)=1)=true:=rfl
  have kd2:decide ((1:Int)=2)=false:=rfl
  have kd3:decide ((1:Int)=3)=false:=rfl
  have hd2:decide (0≤d)=true:=Zc (by omega)
  rw[hB8,hB7,hB6,hB5,hB4,hB3,hB2,hB1,hB0]
  have h3:((1:Int)).toNat=1:=rfl
  simp only[dh,lX,al,kd1,kd2,kd3,hd2,h3,aaq,abm,Zr,Zu,Za,ZZ,ZW]
 have h34:=fun es=>KA (n+3) (.box (fr 1 s d q o c m e t u v x)) es B8 (by rw[lB8];omega)
 have hps:(nn B8).size≤1000:=by rw[iy,lB8];unfold nb;omega
 obtain⟨P,hP⟩:∃P,nn B8=P:=⟨_,rfl⟩
 have h35:=fun H=>KE n H (nn B8) hps
 have hsz:(nZ P).size=P.size+2:=iH _
 unfold uW
 rw[hE,hch,Zf (show ¬127<x.size by omega)]
 rw[hP]at h34 h35⊢
 have xx:decide ((127:Int)<(x.size:Int))=false:=Zf (by omega)
 have xd:decide ((0:Int)≤d)=true:=Zc (by omega)
 cases hp:decide (127<P.size+2)with
 |false=>
  have hp2:decide ((127:Int)<((P.size+2:Nat):Int))=false:=by simp only[Zi]at hp ⊢;omega
  simp only[yA,ah,go_sem,simprocAttr,h18,h29,h0,h1,h2,h3,h4,h5,h6,h7,h8,h34,h35,xx,xd,hsz,hp,hp2,Nat.reduceMod,Nat.reduceDiv,Zw,Zx,Zn,Zt,ZB,ZL,ZD,ite_self,if_true]
 |true=>
  have hp2:decide ((127:Int)<((P.size+2:Nat):Int))=true:=by simp only[Ze]at hp ⊢;omega
  simp only[yA,ah,go_sem,simprocAttr,h18,h29,h0,h1,h2,h3,h4,h5,h6,h7,h8,h34,h35,xx,xd,hsz,hp,hp2,Nat.reduceMod,Nat.reduceDiv,Zw,Zx,Zn,Zt,ZB,ZL,ZD,ite_self,if_true]
theorem Ib(n:Nat)(H:ab)(s d q o c m e t u v:Int)(x:ByteArray)(hch:lg 2 s d q o c m e t u v x=true)(hx:x.size≤127)(hd:0≤d):aa T (n+5) (.fn 51) [.agg (fr 2 s d q o c m e t u v x)] H=some (uW 2 s d q o c m e t u v x,H):=by
 refine ae G2 (by rfl) ?_
 have h18:=fun H=>Hv (n+2) H 2 s d q o c m e t u v x
 rw[hch]at h18
 obtain⟨hs,hd1,hd0,hq,ho,hk⟩:=n7 hch
 obtain⟨hee,hx0⟩:(-32768≤e∧e≤32767)∧x=⟨#[]⟩:=by rcases hk with h|h|h|h<;>first|exact h.2|(exfalso;omega)
 have h29:=fun es b0=>Lv (n+3) es b0
 obtain⟨B0,hB0⟩:∃B,B=[]++bits 3 2:=⟨_,rfl⟩
 have lB0:B0.length=3:=by rw[hB0,Y9,an]<;>rfl
 have h0:∀es,aa T (n+4) (.fn 91) [.ptr 1 0 0 0,acH 3,acH 2] (⟨[.box (fr 2 s d q o c m e t u v x),.box [.bp 2 0 0 0,acI],.arr 0 1 [] false],es,0⟩)=some (.ba [],rH (.box (fr 2 s d q o c m e t u v x)) B0 [] (es++rk 3)):=fun es=>by
  have:=nq (.box (fr 2 s d q o c m e t u v x)) [] es [] (n+2) 3 2 (by omega) (by omega) (by omega) (by rw[Zx];omega)
  rw[hB0];exact this
 obtain⟨B1,hB1⟩:∃B,B=B0++bits 5 s.toNat:=⟨_,rfl⟩
 have lB1:B1.length=8:=by rw[hB1,Y9,an,lB0]
 have h1:∀es,aa T (n+4) (.fn 91) [.ptr 1 0 0 0,acH 5,acH s] (rH (.box (fr 2 s d q o c m e t u v x)) B0 [] es)=some (.ba [],rH (.box (fr 2 s d q o c m e t u v x)) B1 [] (es++rk 5)):=fun es=>by
  have:=nq (.box (fr 2 s d q o c m e t u v x)) [] es B0 (n+2) 5 s.toNat (by omega) (by omega) (by omega) (by rw[lB0];omega)
  rw[Zo hs.1]at this
  rw[hB1];exact this
 obtain⟨B2,hB2⟩:∃B,B=B1++bits 1 (bt true):=⟨_,rfl⟩
 have lB2:B2.length=9:=by rw[hB2,Y9,an,lB1]
 have h2:∀es,aa T (n+4) (.fn 92) [.ptr 1 0 0 0,.bool true] (rH (.box (fr 2 s d q o c m e t u v x)) B1 [] es)=some (.ba [],rH (.box (fr 2 s d q o c m e t u v x)) B2 [] (es++rk 1)):=fun es=>by
  have:=Lo (.box (fr 2 s d q o c m e t u v x)) [] es B1 (n+2) true (by rw[lB1];omega)
  rw[hB2];exact this
 obtain⟨B3,hB3⟩:∃B,B=B2++bits 5 d.toNat:=⟨_,rfl⟩
 have lB3:B3.length=14:=by rw[hB3,Y9,an,lB2]
 have h3:∀es,aa T (n+4) (.fn 91) [.ptr 1 0 0 0,acH 5,acH d] (rH (.box (fr 2 s d q o c m e t u v x)) B2 [] es)=some (.ba [],rH (.box (fr 2 s d q o c m e t u v x)) B3 [] (es++rk 5)):=fun es=>by
  have:=nq (.box (fr 2 s d q o c m e t u v x)) [] es B2 (n+2) 5 d.toNat (by omega) (by omega) (by omega) (by rw[lB2];omega)
  rw[Zo hd]at this
  rw[hB3];exact this
 obtain⟨B4,hB4⟩:∃B,B=B3++bits 8 q.toNat:=⟨_,rfl⟩
 have lB4:B4.length=22:=by rw[hB4,Y9,an,lB3]
 have h4:∀es,aa T (n+4) (.fn 91) [.ptr 1 0 0 0,acH 8,acH q] (rH (.box (fr 2 s d q o c m e t u v x)) B3 [] es)=some (.ba [],rH (.box (fr 2 s d q o c m e t u v x)) B4 [] (es++rk 8)):=fun es=>by
  have:=nq (.box (fr 2 s d q o c m e t u v x)) [] es B3 (n+2) 8 q.toNat (by omega) (by omega) (by omega) (by rw[lB3];omega)
  rw[Zo hq.1]at this
  rw[hB4];exact this
 obtain⟨B5,hB5⟩:∃B,B=B4++bits 8 o.toNat:=⟨_,rfl⟩
 have lB5:B5.length=30:=by rw[hB5,Y9,an,lB4]
 have h5:∀es,aa T (n+4) (.fn 91) [.ptr 1 0 0 0,acH 8,acH o] (rH (.box (fr 2 s d q o c m e t u v x)) B4 [] es)=some (.ba [],rH (.box (fr 2 s d q o c m e t u v x)) B5 [] (es++rk 8)):=fun es=>by
  have:=nq (.box (fr 2 s d q o c m e t u v x)) [] es B4 (n+2) 8 o.toNat (by omega) (by omega) (by omega) (by rw[lB4];omega)
  rw[Zo ho.1]at this
  rw[hB5];exact this
 obtain⟨B6,hB6⟩:∃B,B=B5++bits 16 (tU e):=⟨_,rfl⟩
 have lB6:B6.length=46:=by rw[hB6,Y9,an,lB5]
 have h6:∀es,aa T (n+4) (.fn 93) [.ptr 1 0 0 0,acH 16,acH e] (rH (.box (fr 2 s d q o c m e t u v x)) B5 [] es)=some (.ba [],rH (.box (fr 2 s d q o c m e t u v x)) B6 [] (es++rk 16)):=fun es=>by
  have:=XR (.box (fr 2 s d q o c m e t u v x)) [] es B5 (n+2) e hee.1 hee.2 (by rw[lB5];omega)
  rw[hB6];exact this
 have hE:dh 2 s d q o c m e t u v x=B6:=by
  have kd1:decide ((2:Int)=1)=false:=rfl
  have kd2:decide ((2:Int)=2)=true:=rfl
  have kd3:decide ((2:Int)=3)=false:=rfl
  have hd2:decide (0≤d)=true:=Zc (by omega)
  rw[hB6,hB5,hB4,hB3,hB2,hB1,hB0]
  have h3:((2:Int)).toNat=2:=rfl
  simp only[dh,lX,al,kd1,kd2,kd3,hd2,h3,aaq,abm,Zr,Zu,Za,ZZ,ZW]
 have h34:=fun es=>KA (n+3) (.box (fr 2 s d q o c m e t u v x)) es B6 (by rw[lB6];omega)
 have hps:(nn B6).size≤1000:=by rw[iy,lB6];unfold nb;omega
 obtain⟨P,hP⟩:∃P,nn B6=P:=⟨_,rfl⟩
 have h35:=fun H=>KE n H (nn B6) hps
 have hsz:(nZ P).size=P.size+2:=iH _
 unfold uW
 rw[hE,hch,Zf (show ¬127<x.size by omega)]
 rw[hP]at h34 h35⊢
 have xx:decide ((127:Int)<(x.size:Int))=false:=Zf (by omega)
 have xd:decide ((0:Int)≤d)=true:=Zc (by omega)
 cases hp:decide (127<P.size+2)with
 |false=>
  have hp2:decide ((127:Int)<((P.size+2:Nat):Int))=false:=by simp only[Zi]at hp ⊢;omega
  simp only[yA,ah,go_sem,simprocAttr,h18,h29,h0,h1,h2,h3,h4,h5,h6,h34,h35,xx,xd,hsz,hp,hp2,Nat.reduceMod,Nat.reduceDiv,Zw,Zx,Zn,Zt,ZB,ZL,ZD,ite_self,if_true]
 |true=>
  have hp2:decide ((127:Int)<((P.size+2:Nat):Int))=true:=by simp only[Ze]at hp ⊢;omega
  simp only[yA,ah,go_sem,simprocAttr,h18,h29,h0,h1,h2,h3,h4,h5,h6,h34,h35,xx,xd,hsz,hp,hp2,Nat.reduceMod,Nat.reduceDiv,Zw,Zx,Zn,Zt,ZB,ZL,ZD,ite_self,if_true]
theorem HK(n:Nat)(H:ab)(s d q o c m e t u v:Int)(x:ByteArray)(hch:lg 3 s d q o c m e t u v x=true)(hx:x.size≤127)(hd:d= -1):aa T (n+5) (.fn 51) [.agg (fr 3 s d q o c m e t u v x)] H=some (uW 3 s d q o c m e t u v x,H):=by
 refine ae G2 (by rfl) ?_
 have h18:=fun H=>Hv (n+2) H 3 s d q o c m e t u v x
 rw[hch]at h18
 obtain⟨hs,hd1,hd0,hq,ho,hk⟩:=n7 hch
 obtain⟨htt,huu,hvv⟩:(0≤t∧t≤109951162)∧(0≤u∧u≤65535)∧(0≤v∧v≤65535):=by rcases hk with h|h|h|h<;>first|exact h.2|(exfalso;omega)
 have h29:=fun es b0=>Lv (n+3) es b0
 obtain⟨B0,hB0⟩:∃B,B=[]++bits 3 3:=⟨_,rfl⟩
 have lB0:B0.length=3:=by rw[hB0,Y9,an]<;>rfl
 have h0:∀es,aa T (n+4) (.fn 91) [.ptr 1 0 0 0,acH 3,acH 3] (⟨[.box (fr 3 s d q o c m e t u v x),.box [.bp 2 0 0 0,acI],.arr 0 1 [] false],es,0⟩)=some (.ba [],rH (.box (fr 3 s d q o c m e t u v x)) B0 [] (es++rk 3)):=fun es=>by
  have:=nq (.box (fr 3 s d q o c m e t u v x)) [] es [] (n+2) 3 3 (by omega) (by omega) (by omega) (by rw[Zx];omega)
  rw[hB0];exact this
 obtain⟨B1,hB1⟩:∃B,B=B0++bits 5 s.toNat:=⟨_,rfl⟩
 have lB1:B1.length=8:=by rw[hB1,Y9,an,lB0]
 have h1:∀es,aa T (n+4) (.fn 91) [.ptr 1 0 0 0,acH 5,acH s] (rH (.box (fr 3 s d q o c m e t u v x)) B0 [] es)=some (.ba [],rH (.box (fr 3 s d q o c m e t u v x)) B1 [] (es++rk 5)):=fun es=>by
  have:=nq (.box (fr 3 s d q o c m e t u v x)) [] es B0 (n+2) 5 s.toNat (by omega) (by omega) (by omega) (by rw[lB0];omega)
  rw[Zo hs.1]at this
  rw[hB1];exact this
 obtain⟨B2,hB2⟩:∃B,B=B1++bits 1 (bt false):=⟨_,rfl⟩
 have lB2:B2.length=9:=by rw[hB2,Y9,an,lB1]
 have h2:∀es,aa T (n+4) (.fn 92) [.ptr 1 0 0 0,.bool false] (rH (.box (fr 3 s d q o c m e t u v x)) B1 [] es)=some (.ba [],rH (.box (fr 3 s d q o c m e t u v x)) B2 [] (es++rk 1)):=fun es=>by
  have:=Lo (.box (fr 3 s d q o c m e t u v x)) [] es B1 (n+2) false (by rw[lB1];omega)
  rw[hB2];exact this
 obtain⟨B3,hB3⟩:∃B,B=B2++bits 8 q.toNat:=⟨_,rfl⟩
 have lB3:B3.length=17:=by rw[hB3,Y9,an,lB2]
 have h3:∀es,aa T (n+4) (.fn 91) [.ptr 1 0 0 0,acH 8,acH q] (rH (.box (fr 3 s d q o c m e t u v x)) B2 [] es)=some (.ba [],rH (.box (fr 3 s d q o c m e t u v x)) B3 [] (es++rk 8)):=fun es=>by
  have:=nq (.box (fr 3 s d q o c m e t u v x)) [] es B2 (n+2) 8 q.toNat (by omega) (by omega) (by omega) (by rw[lB2];omega)
  rw[Zo hq.1]at this
  rw[hB3];exact this
 obtain⟨B4,hB4⟩:∃B,B=B3++bits 8 o.toNat:=⟨_,rfl⟩
 have lB4:B4.length=25:=by rw[hB4,Y9,an,lB3]
 have h4:∀es,aa T (n+4) (.fn 91) [.ptr 1 0 0 0,acH 8,acH o] (rH (.box (fr 3 s d q o c m e t u v x)) B3 [] es)=some (.ba [],rH (.box (fr 3 s d q o c m e t u v x)) B4 [] (es++rk 8)):=fun es=>by
  have:=nq (.box (fr 3 s d q o c m e t u v x)) [] es B3 (n+2) 8 o.toNat (by omega) (by omega) (by omega) (by rw[lB3];omega)
  rw[Zo ho.1]at this
  rw[hB4];exact this
 obtain⟨B5,hB5⟩:∃B,B=B4++bits 27 t.toNat:=⟨_,rfl⟩
 have lB5:B5.length=52:=by rw[hB5,Y9,an,lB4]
 have h5:∀es,aa T (n+4) (.fn 91) [.ptr 1 0 0 0,acH 27,acH t] (rH (.box (fr 3 s d q o c m e t u v x)) B4 [] es)=some (.ba [],rH (.box (fr 3 s d q o c m e t u v x)) B5 [] (es++rk 27)):=fun es=>by
  have:=nq (.box (fr 3 s d q o c m e t u v x)) [] es B4 (n+2) 27 t.toNat (by omega) (by omega) (by omega) (by rw[lB4];omega)
  rw[Zo htt.1]at this
  rw[hB5];exact this
 obtain⟨B6,hB6⟩:∃B,B=B5++bits 16 u.toNat:=⟨_,rfl⟩
 have lB6:B6.length=68:=by rw[hB6,Y9,an,lB5]
 have h6:∀es,aa T (n+4) (.fn 91) [.ptr 1 0 0 0,acH 16,acH u] (rH (.box (fr 3 s d q o c m e t u v x)) B5 [] es)=some (.ba [],rH (.box (fr 3 s d q o c m e t u v x)) B6 [] (es++rk 16)):=fun es=>by
  have:=nq (.box (fr 3 s d q o c m e t u v x)) [] es B5 (n+2) 16 u.toNat (by omega) (by omega) (by omega) (by rw[lB5];omega)
  rw[Zo huu.1]at this
  rw[hB6];exact this
 obtain⟨B7,hB7⟩:∃B,B=B6++bits 16 v.toNat:=⟨_,rfl⟩
 have lB7:B7.length=84:=by rw[hB7,Y9,an,lB6]
 have h7:∀es,aa T (n+4) (.fn 91) [.ptr 1 0 0 0,acH 16,acH v] (rH (.box (fr 3 s d q o c m e t u v x)) B6 [] es)=some (.ba [],rH (.box (fr 3 s d q o c m e t u v x)) B7 [] (es++rk 16)):=fun es=>by
  have:=nq (.box (fr 3 s d q o c m e t u v x)) [] es B6 (n+2) 16 v.toNat (by omega) (by omega) (by omega) (by rw[lB6];omega)
  rw[Zo hvv.1]at this
  rw[hB7];exact this
 obtain⟨B8,hB8⟩:∃B,B=B7++bits 7 x.size++gX x x.size:=⟨_,rfl⟩
 have lB8:B8.length=91+8*x.size:=by rw[hB8,Y9,Y9,an,lB7,gz]
 have h8:∀es,aa T (n+4) (.fn 94) [.ptr 1 0 0 0,acH 127,.str x] (rH (.box (fr 3 s d q o c m e t u v x)) B7 [] es)=some (.ba [],rH (.box (fr 3 s d q o c m e t u v x)) B8 [] (es++rk (7+8*x.size))):=fun es=>by
  rw[hB8];exact Pp (.box (fr 3 s d q o c m e t u v x)) [] es B7 (n+2) x hx (by rw[lB7];omega)
 have hE:dh 3 s d q o c m e t u v x=B8:=by
  have kd1:decide ((3:Int)=1)=false:=rfl
  have kd2:decide ((3:Int)=2)=false:=rfl
  have kd3:decide ((3:Int)=3)=true:=rfl
  have hd2:decide (0≤d)=false:=Zf (by omega)
  rw[hB8,hB7,hB6,hB5,hB4,hB3,hB2,hB1,hB0]
  have h3:((3:Int)).toNat=3:=rfl
  simp only[dh,lX,al,kd1,kd2,kd3,hd2,h3,aaq,abm,Zr,Zu,Za,ZZ,ZW]
 have h34:=fun es=>KA (n+3) (.box (fr 3 s d q o c m e t u v x)) es B8 (by rw[lB8];omega)
 have hps:(nn B8).size≤1000:=by rw[iy,lB8];unfold nb;omega
 obtain⟨P,hP⟩:∃P,nn B8=P:=⟨_,rfl⟩
 have h35:=fun H=>KE n H (nn B8) hps
 have hsz:(nZ P).size=P.size+2:=iH _
 unfold uW
 rw[hE,hch,Zf (show ¬127<x.size by omega)]
 rw[hP]at h34 h35⊢
 have xx:decide ((127:Int)<(x.size:Int))=false:=Zf (by omega)
 have xd:decide ((0:Int)≤d)=false:=Zf (by omega)
 cases hp:decide (127<P.size+2)with
 |false=>
  have hp2:decide ((127:Int)<((P.size+2:Nat):Int))=false:=by simp only[Zi]at hp ⊢;omega
  simp only[yA,ah,go_sem,simprocAttr,h18,h29,h0,h1,h2,h3,h4,h5,h6,h7,h8,h34,h35,xx,xd,hsz,hp,hp2,Nat.reduceMod,Nat.reduceDiv,Zw,Zx,Zn,Zt,ZB,ZL,ZD,ite_self,if_true]
 |true=>
  have hp2:decide ((127:Int)<((P.size+2:Nat):Int))=true:=by simp only[Ze]at hp ⊢;omega
  simp only[yA,ah,go_sem,simprocAttr,h18,h29,h0,h1,h2,h3,h4,h5,h6,h7,h8,h34,h35,xx,xd,hsz,hp,hp2,Nat.reduceMod,Nat.reduceDiv,Zw,Zx,Zn,Zt,ZB,ZL,ZD,ite_self,if_true]
theorem GK(n:Nat)(H:ab)(s d q o c m e t u v:Int)(x:ByteArray)(hch:lg 4 s d q o c m e t u v x=true)(hx:x.size≤127)(hd:0≤d):aa T (n+5) (.fn 51) [.agg (fr 4 s d q o c m e t u v x)] H=some (uW 4 s d q o c m e t u v x,H):=by
 refine ae G2 (by rfl) ?_
 have h18:=fun H=>Hv (n+2) H 4 s d q o c m e t u v x
 rw[hch]at h18
 obtain⟨hs,hd1,hd0,hq,ho,hk⟩:=n7 hch
 have h29:=fun es b0=>Lv (n+3) es b0
 obtain⟨B0,hB0⟩:∃B,B=[]++bits 3 4:=⟨_,rfl⟩
 have lB0:B0.length=3:=by rw[hB0,Y9,an]<;>rfl
 have h0:∀es,aa T (n+4) (.fn 91) [.ptr 1 0 0 0,acH 3,acH 4] (⟨[.box (fr 4 s d q o c m e t u v x),.box [.bp 2 0 0 0,acI],.arr 0 1 [] false],es,0⟩)=some (.ba [],rH (.box (fr 4 s d q o c m e t u v x)) B0 [] (es++rk 3)):=fun es=>by
  have:=nq (.box (fr 4 s d q o c m e t u v x)) [] es [] (n+2) 3 4 (by omega) (by omega) (by omega) (by rw[Zx];omega)
  rw[hB0];exact this
 obtain⟨B1,hB1⟩:∃B,B=B0++bits 5 s.toNat:=⟨_,rfl⟩
 have lB1:B1.length=8:=by rw[hB1,Y9,an,lB0]
 have h1:∀es,aa T (n+4) (.fn 91) [.ptr 1 0 0 0,acH 5,acH s] (rH (.box (fr 4 s d q o c m e t u v x)) B0 [] es)=some (.ba [],rH (.box (fr 4 s d q o c m e t u v x)) B1 [] (es++rk 5)):=fun es=>by
  have:=nq (.box (fr 4 s d q o c m e t u v x)) [] es B0 (n+2) 5 s.toNat (by omega) (by omega) (by omega) (by rw[lB0];omega)
  rw[Zo hs.1]at this
  rw[hB1];exact this
 obtain⟨B2,hB2⟩:∃B,B=B1++bits 1 (bt true):=⟨_,rfl⟩
 have lB2:B2.length=9:=by rw[hB2,Y9,an,lB1]
 have h2:∀es,aa T (n+4) (.fn 92) [.ptr 1 0 0 0,.bool true] (rH (.box (fr 4 s d q o c m e t u v x)) B1 [] es)=some (.ba [],rH (.box (fr 4 s d q o c m e t u v x)) B2 [] (es++rk 1)):=fun es=>by
  have:=Lo (.box (fr 4 s d q o c m e t u v x)) [] es B1 (n+2) true (by rw[lB1];omega)
  rw[hB2];exact this
 obtain⟨B3,hB3⟩:∃B,B=B2++bits 5 d.toNat:=⟨_,rfl⟩
 have lB3:B3.length=14:=by rw[hB3,Y9,an,lB2]
 have h3:∀es,aa T (n+4) (.fn 91) [.ptr 1 0 0 0,acH 5,acH d] (rH (.box (fr 4 s d q o c m e t u v x)) B2 [] es)=some (.ba [],rH (.box (fr 4 s d q o c m e t u v x)) B3 [] (es++rk 5)):=fun es=>by
  have:=nq (.box (fr 4 s d q o c m e t u v x)) [] es B2 (n+2) 5 d.toNat (by omega) (by omega) (by omega) (by rw[lB2];omega)
  rw[Zo hd]at this
  rw[hB3];exact this
 obtain⟨B4,hB4⟩:∃B,B=B3++bits 8 q.toNat:=⟨_,rfl⟩
 have lB4:B4.length=22:=by rw[hB4,Y9,an,lB3]
 have h4:∀es,aa T (n+4) (.fn 91) [.ptr 1 0 0 0,acH 8,acH q] (rH (.box (fr 4 s d q o c m e t u v x)) B3 [] es)=some (.ba [],rH (.box (fr 4 s d q o c m e t u v x)) B4 [] (es++rk 8)):=fun es=>by
  have:=nq (.box (fr 4 s d q o c m e t u v x)) [] es B3 (n+2) 8 q.toNat (by omega) (by omega) (by omega) (by rw[lB3];omega)
  rw[Zo hq.1]at this
  rw[hB4];exact this
 obtain⟨B5,hB5⟩:∃B,B=B4++bits 8 o.toNat:=⟨_,rfl⟩
 have lB5:B5.length=30:=by rw[hB5,Y9,an,lB4]
 have h5:∀es,aa T (n+4) (.fn 91) [.ptr 1 0 0 0,acH 8,acH o] (rH (.box (fr 4 s d q o c m e t u v x)) B4 [] es)=some (.ba [],rH (.box (fr 4 s d q o c m e t u v x)) B5 [] (es++rk 8)):=fun es=>by
  have:=nq (.box (fr 4 s d q o c m e t u v x)) [] es B4 (n+2) 8 o.toNat (by omega) (by omega) (by omega) (by rw[lB4];omega)
  rw[Zo ho.1]at this
  rw[hB5];exact this
 obtain⟨B6,hB6⟩:∃B,B=B5++bits 7 x.size++gX x x.size:=⟨_,rfl⟩
 have lB6:B6.length=37+8*x.size:=by rw[hB6,Y9,Y9,an,lB5,gz]
 have h6:∀es,aa T (n+4) (.fn 94) [.ptr 1 0 0 0,acH 127,.str x] (rH (.box (fr 4 s d q o c m e t u v x)) B5 [] es)=some (.ba [],rH (.box (fr 4 s d q o c m e t u v x)) B6 [] (es++rk (7+8*x.size))):=fun es=>by
  rw[hB6];exact Pp (.box (fr 4 s d q o c m e t u v x)) [] es B5 (n+2) x hx (by rw[lB5];omega)
 have hE:dh 4 s d q o c m e t u v x=B6:=by
  have kd1:decide ((4:Int)=1)=false:=rfl
  have kd2:decide ((4:Int)=2)=false:=rfl
  have kd3:decide ((4:Int)=3)=false:=rfl
  have hd2:decide (0≤d)=true:=Zc (by omega)
  rw[hB6,hB5,hB4,hB3,hB2,hB1,hB0]
  have h3:((4:Int)).toNat=4:=rfl
  simp only[dh,lX,al,kd1,kd2,kd3,hd2,h3,aaq,abm,Zr,Zu,Za,ZZ,ZW]
 have h34:=fun es=>KA (n+3) (.box (fr 4 s d q o c m e t u v x)) es B6 (by rw[lB6];omega)
 have hps:(nn B6).size≤1000:=by rw[iy,lB6];unfold nb;omega
 obtain⟨P,hP⟩:∃P,nn B6=P:=⟨_,rfl⟩
 have h35:=fun H=>KE n H (nn B6) hps
 have hsz:(nZ P).size=P.size+2:=iH _
 unfold uW
 rw[hE,hch,Zf (show ¬127<x.size by omega)]
 rw[hP]at h34 h35⊢
 have xx:decide ((127:Int)<(x.size:Int))=false:=Zf (by omega)
 have xd:decide ((0:Int)≤d)=true:=Zc (by omega)
 cases hp:decide (127<P.size+2)with
 |false=>
  have hp2:decide ((127:Int)<((P.size+2:Nat):Int))=false:=by simp only[Zi]at hp ⊢;omega
  simp only[yA,ah,go_sem,simprocAttr,h18,h29,h0,h1,h2,h3,h4,h5,h6,h34,h35,xx,xd,hsz,hp,hp2,Nat.reduceMod,Nat.reduceDiv,Zw,Zx,Zn,Zt,ZB,ZL,ZD,ite_self,if_true]
 |true=>
  have hp2:decide ((127:Int)<((P.size+2:Nat):Int))=true:=by simp only[Ze]at hp ⊢;omega
  simp only[yA,ah,go_sem,simprocAttr,h18,h29,h0,h1,h2,h3,h4,h5,h6,h34,h35,xx,xd,hsz,hp,hp2,Nat.reduceMod,Nat.reduceDiv,Zw,Zx,Zn,Zt,ZB,ZL,ZD,ite_self,if_true]
theorem G0(n:Nat)(H:ab)(s d q o c m e t u v:Int)(x:ByteArray)(hch:lg 4 s d q o c m e t u v x=true)(hx:x.size≤127)(hd:d= -1):aa T (n+5) (.fn 51) [.agg (fr 4 s d q o c m e t u v x)] H=some (uW 4 s d q o c m e t u v x,H):=by
 refine ae G2 (by rfl) ?_
 have h18:=fun H=>Hv (n+2) H 4 s d q o c m e t u v x
 rw[hch]at h18
 obtain⟨hs,hd1,hd0,hq,ho,hk⟩:=n7 hch
 have h29:=fun es b0=>Lv (n+3) es b0
 obtain⟨B0,hB0⟩:∃B,B=[]++bits 3 4:=⟨_,rfl⟩
 have lB0:B0.length=3:=by rw[hB0,Y9,an]<;>rfl
 have h0:∀es,aa T (n+4) (.fn 91) [.ptr 1 0 0 0,acH 3,acH 4] (⟨[.box (fr 4 s d q o c m e t u v x),.box [.bp 2 0 0 0,acI],.arr 0 1 [] false],es,0⟩)=some (.ba [],rH (.box (fr 4 s d q o c m e t u v x)) B0 [] (es++rk 3)):=fun es=>by
  have:=nq (.box (fr 4 s d q o c m e t u v x)) [] es [] (n+2) 3 4 (by omega) (by omega) (by omega) (by rw[Zx];omega)
  rw[hB0];exact this
 obtain⟨B1,hB1⟩:∃B,B=B0++bits 5 s.toNat:=⟨_,rfl⟩
 have lB1:B1.length=8:=by rw[hB1,Y9,an,lB0]
 have h1:∀es,aa T (n+4) (.fn 91) [.ptr 1 0 0 0,acH 5,acH s] (rH (.box (fr 4 s d q o c m e t u v x)) B0 [] es)=some (.ba [],rH (.box (fr 4 s d q o c m e t u v x)) B1 [] (es++rk 5)):=fun es=>by
  have:=nq (.box (fr 4 s d q o c m e t u v x)) [] es B0 (n+2) 5 s.toNat (by omega) (by omega) (by omega) (by rw[lB0];omega)
  rw[Zo hs.1]at this
  rw[hB1];exact this
 obtain⟨B2,hB2⟩:∃B,B=B1++bits 1 (bt false):=⟨_,rfl⟩
 have lB2:B2.length=9:=by rw[hB2,Y9,an,lB1]
 have h2:∀es,aa T (n+4) (.fn 92) [.ptr 1 0 0 0,.bool false] (rH (.box (fr 4 s d q o c m e t u v x)) B1 [] es)=some (.ba [],rH (.box (fr 4 s d q o c m e t u v x)) B2 [] (es++rk 1)):=fun es=>by
  have:=Lo (.box (fr 4 s d q o c m e t u v x)) [] es B1 (n+2) false (by rw[lB1];omega)
  rw[hB2];exact this
 obtain⟨B3,hB3⟩:∃B,B=B2++bits 8 q.toNat:=⟨_,rfl⟩
 have lB3:B3.length=17:=by rw[hB3,Y9,an,lB2]
 have h3:∀es,aa T (n+4) (.fn 91) [.ptr 1 0 0 0,acH 8,acH q] (rH (.box (fr 4 s d q o c m e t u v x)) B2 [] es)=some (.ba [],rH (.box (fr 4 s d q o c m e t u v x)) B3 [] (es++rk 8)):=fun es=>by
  have:=nq (.box (fr 4 s d q o c m e t u v x)) [] es B2 (n+2) 8 q.toNat (by omega) (by omega) (by omega) (by rw[lB2];omega)
  rw[Zo hq.1]at this
  rw[hB3];exact this
 obtain⟨B4,hB4⟩:∃B,B=B3++bits 8 o.toNat:=⟨_,rfl⟩
 have lB4:B4.length=25:=by rw[hB4,Y9,an,lB3]
 have h4:∀es,aa T (n+4) (.fn 91) [.ptr 1 0 0 0,acH 8,acH o] (rH (.box (fr 4 s d q o c m e t u v x)) B3 [] es)=some (.ba [],rH (.box (fr 4 s d q o c m e t u v x)) B4 [] (es++rk 8)):=fun es=>by
  have:=nq (.box (fr 4 s d q o c m e t u v x)) [] es B3 (n+2) 8 o.toNat (by omega) (by omega) (by omega) (by rw[lB3];omega)
  rw[Zo ho.1]at this
  rw[hB4];exact this
 obtain⟨B5,hB5⟩:∃B,B=B4++bits 7 x.size++gX x x.size:=⟨_,rfl⟩
 have lB5:B5.length=32+8*x.size:=by rw[hB5,Y9,Y9,an,lB4,gz]
 have h5:∀es,aa T (n+4) (.fn 94) [.ptr 1 0 0 0,acH 127,.str x] (rH (.box (fr 4 s d q o c m e t u v x)) B4 [] es)=some (.ba [],rH (.box (fr 4 s d q o c m e t u v x)) B5 [] (es++rk (7+8*x.size))):=fun es=>by
  rw[hB5];exact Pp (.box (fr 4 s d q o c m e t u v x)) [] es B4 (n+2) x hx (by rw[lB4];omega)
 have hE:dh 4 s d q o c m e t u v x=B5:=by
  have kd1:decide ((4:Int)=1)=false:=rfl
  have kd2:decide ((4:Int)=2)=false:=rfl
  have kd3:decide ((4:Int)=3)=false:=rfl
  have hd2:decide (0≤d)=false:=Zf (by omega)
  rw[hB5,hB4,hB3,hB2,hB1,hB0]
  have h3:((4:Int)).toNat=4:=rfl
  simp only[dh,lX,al,kd1,kd2,kd3,hd2,h3,aaq,abm,Zr,Zu,Za,ZZ,ZW]
 have h34:=fun es=>KA (n+3) (.box (fr 4 s d q o c m e t u v x)) es B5 (by rw[lB5];omega)
 have hps:(nn B5).size≤1000:=by rw[iy,lB5];unfold nb;omega
 obtain⟨P,hP⟩:∃P,nn B5=P:=⟨_,rfl⟩
 have h35:=fun H=>KE n H (nn B5) hps
 have hsz:(nZ P).size=P.size+2:=iH _
 unfold uW
 rw[hE,hch,Zf (show ¬127<x.size by omega)]
 rw[hP]at h34 h35⊢
 have xx:decide ((127:Int)<(x.size:Int))=false:=Zf (by omega)
 have xd:decide ((0:Int)≤d)=false:=Zf (by omega)
 cases hp:decide (127<P.size+2)with
 |false=>
  have hp2:decide ((127:Int)<((P.size+2:Nat):Int))=false:=by simp only[Zi]at hp ⊢;omega
  simp only[yA,ah,go_sem,simprocAttr,h18,h29,h0,h1,h2,h3,h4,h5,h34,h35,xx,xd,hsz,hp,hp2,Nat.reduceMod,Nat.reduceDiv,Zw,Zx,Zn,Zt,ZB,ZL,ZD,ite_self,if_true]
 |true=>
  have hp2:decide ((127:Int)<((P.size+2:Nat):Int))=true:=by simp only[Ze]at hp ⊢;omega
  simp only[yA,ah,go_sem,simprocAttr,h18,h29,h0,h1,h2,h3,h4,h5,h34,h35,xx,xd,hsz,hp,hp2,Nat.reduceMod,Nat.reduceDiv,Zw,Zx,Zn,Zt,ZB,ZL,ZD,ite_self,if_true]
end fm
section
namespace fm
section
variable(k s d q o c m e t u v:Int)(x:ByteArray)
theorem Xt(n:Nat)(H:ab):aa T (n+5) (.fn 51) [.agg (fr k s d q o c m e t u v x)] H=some (uW k s d q o c m e t u v x,H):=by
 cases hch:lg k s d q o c m e t u v x with
 |false=>
  refine ae G2 (by rfl) ?_
  have h18:=fun H=>Hv (n+2) H k s d q o c m e t u v x
  unfold uW
  rw[hch]at h18
  rw[hch]
  simp only[yA,ah,go_sem,simprocAttr,h18]
 |true=>
  rcases Zl 127 x.size with hx|hx
  ·refine ae G2 (by rfl) ?_
   have h18:=fun H=>Hv (n+2) H k s d q o c m e t u v x
   unfold uW
   rw[hch]at h18
   rw[hch,Zc hx]
   have hd:decide ((127:Int)<(x.size:Int))=true:=Zc (by omega)
   simp only[yA,ah,go_sem,simprocAttr,h18,hd]
  ·obtain⟨hs,hd1,hd0,hq,ho,hk⟩:=n7 hch
   rcases hk with⟨rfl,_,_⟩|⟨rfl,_,_⟩|⟨rfl,_,_⟩|rfl
   ·have hdd:0≤d:=by rw[F5,Ze]at hch;omega
    exact Im n H s d q o c m e t u v x hch hx hdd
   ·have hdd:0≤d:=by rw[Fu,Zh,Ze,Ze]at hch;have:=hch.2;omega
    exact Ib n H s d q o c m e t u v x hch hx hdd
   ·have hdd:d= -1:=by rw[FV,Ze]at hch;omega
    exact HK n H s d q o c m e t u v x hch hx hdd
   ·by_cases hdd:0≤d
    ·exact GK n H s d q o c m e t u v x hch hx hdd
    ·exact G0 n H s d q o c m e t u v x hch hx (by omega)
end
end fm
end
structure Ac where
 kd:Int
 of:Int
 k:Int
 s:Int
 d:Int
 q:Int
 o:Int
 c:Int
 m:Int
 e:Int
 t:Int
 u:Int
 v:Int
 x:ByteArray
abbrev FU(a:Ac):List SV:=[acH a.kd,acH a.of,acH a.k,acH a.s,acH a.d,acH a.q,acH a.o,acH a.c,acH a.m,acH a.e,acH a.t,acH a.u,acH a.v,.str a.x]
def oU(L:List Ac):List (List SV):=L.map FU
@[go_sem] theorem D6 {L:List Ac}:(oU L).length=L.length:=by simp[oU]
@[go_sem] theorem Of {L:List Ac}{i:Nat}:(oU L)[i]?=(L[i]?).map FU:=by simp[oU]
structure Fi where
 N:List (Int×Int)
 P:List Int
 W:List G.Wl
 f1:Bool
 f2:Bool
 f3:Bool
 ex:Int
 no:Int
 th:Int
 S:List U.Src
 g1:Bool
 F:List U.Fd
 g2:Bool
 K:List (Int×Int)
 h1:Bool
 v:Int
 a:Int
 b:Int
 C:List Int
 h2:Bool
abbrev sx(f:Fi):List SV:=[.aA 2 (G.dK f.N) f.f1,.aA 1 (G.dC f.P) f.f2,.aA 5 (G.ft f.W) f.f3,acH f.ex,acH f.no,acH f.th,
 .aA 7 (U.dM f.S) f.g1,.aA 6 (U.dG f.F) f.g2,.aA 2 (G.dK f.K) f.h1,acH f.v,acH f.a,acH f.b,.aA 1 (iS f.C) f.h2]
theorem Ct(n:Nat):decide ((n:Int)≤40)=decide (n≤40):=by rw[abe];omega
theorem LM(n:Nat):decide ((n:Int)≤20)=decide (n≤20):=by rw[abe];omega
theorem xS(n:Nat):decide ((n:Int)<40)=decide (n<40):=by rw[abe];omega
theorem Ca(n:Nat):decide (200<(n:Int))=decide (200<n):=by rw[abe];omega
theorem zy(n k:Nat):decide ((n:Int)=(k:Int))=decide (n=k):=by rw[abe];omega
def oK(f:Fi):Bool:=G.DJ f.N f.P f.W&&U.tj f.S f.F&&decide (f.K.length≤40)&&decide (f.C.length≤20)
theorem W5(n:Nat)(H:ab)(f:Fi)(hS:f.S.length≤maxLen):aa T (n+3) (.fn 48) [.agg (sx f)] H=some (.bool (oK f),H):=by
 have h1:=fun H=>G.Yp (n+1) H f.N f.P f.W f.f1 f.f2 f.f3 f.ex f.no f.th
 have h2:=fun H=>U.Xn n H f.S f.F f.g1 f.g2 hS
 refine ae Yi (by rfl) ?_
 unfold oK
 cases a1:G.DJ f.N f.P f.W<;>cases a2:U.tj f.S f.F<;>cases a3:decide (f.K.length≤40)<;>rw[a1]at h1<;>rw[a2]at h2<;>simp only[Vv,ah,go_sem,simprocAttr,h1,h2,Ct,LM,a3,G.aL,ZP,ZJ]
def kO(A:List Ac):Bool:=bif (A.take 40).any (fun a=>decide (200<a.x.size))then false else decide (A.length≤40)
theorem xC{A:List Ac}{i:Nat}(hP:∀(j:Nat) a,j<i→A[j]?=some a→decide (200<a.x.size)=false)(h:A.length≤i∨i=40):kO A=decide (A.length≤40):=by
 unfold kO
 have:(A.take 40).any (fun a=>decide (200<a.x.size))=false:=by
  rw[aau]
  intro a ha
  obtain⟨j,hj⟩:=ZH ha
  rw[ZC]at hj
  split at hj
  ·rename_i h40
   have hl:=(Y8.1 hj).1
   rw[hP j a (by omega) hj]
   exact Bool.false_ne_true
  ·cases hj
 rw[this]
 rfl
theorem WV(n:Nat)(H:ab)(A:List Ac)(f:Bool)(hA:A.length≤maxLen):aa T (n+1) (.fn 49) [.aA 14 (oU A) f] H=some (.bool (kO A),H):=by
 refine ae WX (by rfl) ?_
 simp only[Vl,ah,go_sem,simprocAttr]
 refine bn (fun i=>([(0,.aA 14 (oU A) f),(3,acH i)],⟨[],[],0⟩)) (fun i=>∀(j:Nat) a,j<i→A[j]?=some a→decide (200<a.x.size)=false) 40 ?_ (fun j a h=>by omega) ?_
 ·simp only[go_sem,simprocAttr]<;>rfl
 ·intro i hi hP
  rcases Zl i A.length with hlt|hge
  ·rcases Zl i 40 with h40|h40
   ·obtain⟨a,ha⟩:∃a,A[i]?=some a:=⟨A[i],Zq hlt⟩
    have hw:=bR hlt hA
    cases hd:decide (200<a.x.size)with
    |true=>
     have hx:kO A=false:=by
      unfold kO
      rw[aav.2 ⟨a,Zj (i:=i) (by rw[ZC,if_pos h40];exact ha),hd⟩]
      rfl
     simp only[go_sem,simprocAttr,hlt,xS,h40,ha,Ca,hd,hx]
    |false=>
     simp only[go_sem,simprocAttr,hlt,xS,h40,ha,Ca,hd,hw]
     refine⟨by first|trivial|omega,by first|trivial|rfl,fun j b hj hb=>?_⟩
     rcases Zl j i with h|h
     ·exact hP j b h hb
     ·obtain rfl:j=i:=by omega
      rw[ha]at hb
      cases hb
      exact hd
   ·have hx:kO A=decide (A.length≤40):=xC hP (.inr (by omega))
    have h41:¬i<40:=by omega
    simp only[go_sem,simprocAttr,hlt,xS,Ct,h41,hx]
  ·have hx:kO A=decide (A.length≤40):=xC hP (.inl hge)
   have hlt:¬i<A.length:=by omega
   simp only[go_sem,simprocAttr,hlt,xS,Ct,hx]
theorem Ou:T 63=some (rS 120):=Yk
theorem SI:T 120=some (jc true 2):=Sx
theorem Yw(n:Nat)(H:ab)(a b:Int):aa T (n+2) (.fn 59) [.agg [acH a,acH b]] H=some (.bool (!mE a b),H):=by
 have h:=fun H=>NT n H a b
 unfold pL at h
 refine ae WW (by rfl) ?_
 cases hc:mE a b<;>rw[hc]at h<;>simp only[Vt,ah,go_sem,simprocAttr,h]
def toK:List SV→Int×Int
 |[.int _ a,.int _ b]=>(a,b)
 |_=>(0,0)
theorem Yy(n:Nat)(H:ab)(K:List (Int×Int))(f:Bool)(hK:K.length≤maxLen):aa T (n+4) (.fn 63) [.aA 2 (G.dK K) f,.fn 59 []] H=some (.bool (K.any fun p=>!mE p.1 p.2),H):=by
 have h:=gK (T:=T) (f:=63) (n:=n+2) (H:=H) (ag:=true) (z:=2) (id:=59) (caps:=[]) (v:=.aA 2 (G.dK K) f) (L:=G.dK K) (p:=fun r=>!mE (toK r).1 (toK r).2) Ou SI (.aA 2 f (.inl rfl)) G.vg (fun h=>by cases h) (by simpa[G.dK]using hK)
  (fun r hr bl ro _=>by
   simp only[G.dK,Z3]at hr
   obtain⟨p,_,rfl⟩:=hr
   exact Yw n ⟨bl,[],ro⟩ p.1 p.2) (by simp[SV.refs.au])
 rw[G.AE (q:=fun p=>!mE p.1 p.2) (fun a b=>rfl)]at h
 exact h
structure Bd(f:Fi):Prop where
 N:f.N.length≤maxLen
 P:f.P.length≤maxLen
 W:f.W.length≤maxLen
 S:U.yr f.S
 F:f.F.length≤maxLen
 K:f.K.length≤maxLen
 C:f.C.length≤1000
structure Bq(f:Fi):Prop where
 N:f.N.length≤maxLen
 P:f.P.length≤maxLen
 W:f.W.length≤maxLen
 S:U.yr f.S
 F:f.F.length≤maxLen
 K:f.K.length≤maxLen
 C:f.C.length≤maxLen
theorem Bq.d{f:Fi}(h:Bq f)(hC:f.C.length≤1000):Bd f:=⟨h.N,h.P,h.W,h.S,h.F,h.K,hC⟩
theorem Bd.q{f:Fi}(h:Bd f):Bq f:=⟨h.N,h.P,h.W,h.S,h.F,h.K,ZN h.C (by decide)⟩
def okF(f:Fi):Bool:=G.jg f.N f.P f.W f.ex f.no f.th&&U.oF f.S f.F&&decide (f.K.length=f.N.length)&&!(f.K.any fun p=>!mE p.1 p.2)&&kR.CF f.v f.a f.b f.C
def yf(f:Fi):Int:=bif okF f then 0 else 1
theorem KV(n:Nat)(H:ab)(f:Fi)(hb:Bq f):aa T (n+8) (.fn 22) [.agg (sx f)] H=some (acH (yf f),H):=by
 have h1:=fun H=>G.I5 (n+1) H f.N f.P f.W f.f1 f.f2 f.f3 f.ex f.no f.th hb.N hb.P hb.W
 have h2:=fun H=>U.Wb n H f.S f.F f.g1 f.g2 hb.S hb.F
 have h3:=fun H=>Yy (n+3) H f.K f.h1 hb.K
 have h4:=fun H=>kR.V6 (n+3) H f.v f.a f.b f.C f.h2 hb.C
 unfold G.At at h1
 unfold U.ck at h2
 unfold kR.HM at h4
 unfold yf okF
 refine ae XV (by rfl) ?_
 generalize (f.K.any fun p=>!mE p.1 p.2)=B at h3⊢
 cases a1:G.jg f.N f.P f.W f.ex f.no f.th with
 |false=>rw[a1]at h1;simp only[I2,ah,go_sem,simprocAttr,h1,ZJ]
 |true=>
  rw[a1]at h1
  cases a2:U.oF f.S f.F with
  |false=>rw[a2]at h2;simp only[I2,ah,go_sem,simprocAttr,h1,h2,ZJ,ZP]
  |true=>
   rw[a2]at h2
   cases a3:decide (f.K.length=f.N.length)with
   |false=>simp only[I2,ah,go_sem,simprocAttr,h1,h2,zy,a3,G.aL,ZJ,ZP]
   |true=>
    cases B with
    |true=>simp only[I2,ah,go_sem,simprocAttr,h1,h2,h3,zy,a3,G.aL,ZJ,ZP]
    |false=>
     cases a4:kR.CF f.v f.a f.b f.C<;>rw[a4]at h4<;>simp only[I2,ah,go_sem,simprocAttr,h1,h2,h3,h4,zy,a3,G.aL,ZJ,ZP,aaF]
theorem Yz(n:Nat)(H:ab)(f:Fi)(hb:Bd f):aa T (n+8) (.fn 22) [.agg (sx f)] H=some (acH (yf f),H):=KV n H f hb.q
def FM(f:Fi)(s:Int):Bool:=decide (f.a≤s)&&decide (s<f.b)
theorem V8(n:Nat)(H:ab)(f:Fi)(s:Int):aa T (n+1) (.fn 65) [.agg (sx f),acH s] H=some (.bool (FM f s),H):=by
 unfold FM
 refine ae X9 (by rfl) ?_
 cases h:decide (f.a≤s)<;>simp only[VC,ah,go_sem,simprocAttr,h]
def PV(a:Ac):ByteArray:=
 bif !fm.lg a.k a.s a.d a.q a.o a.c a.m a.e a.t a.u a.v a.x then⟨#[]⟩
 else bif decide (127<a.x.size)||decide (127<(fm.nn (fm.dh a.k a.s a.d a.q a.o a.c a.m a.e a.t a.u a.v a.x)).size+2)then⟨#[]⟩
 else fm.nZ (fm.nn (fm.dh a.k a.s a.d a.q a.o a.c a.m a.e a.t a.u a.v a.x))
def zL(a:Ac):Int:=
 bif !fm.lg a.k a.s a.d a.q a.o a.c a.m a.e a.t a.u a.v a.x then 1
 else bif decide (127<a.x.size)||decide (127<(fm.nn (fm.dh a.k a.s a.d a.q a.o a.c a.m a.e a.t a.u a.v a.x)).size+2)then 8
 else 0
theorem wT(a:Ac):fm.uW a.k a.s a.d a.q a.o a.c a.m a.e a.t a.u a.v a.x=.ba [.str (PV a),acH (zL a)]:=by
 unfold fm.uW PV zL
 cases fm.lg a.k a.s a.d a.q a.o a.c a.m a.e a.t a.u a.v a.x with
 |false=>rfl
 |true=>
  simp only[aai,Zu]
  cases(decide (127<a.x.size)||decide (127<(fm.nn (fm.dh a.k a.s a.d a.q a.o a.c a.m a.e a.t a.u a.v a.x)).size+2))<;>rfl
def CK(nc:Nat)(i:Int)(a:Ac):Int:=
 bif decide (a.kd=0)then 0 else bif decide (a.kd=1)||decide (a.kd=2)then(bif decide (a.of<0)||decide ((nc:Int)≤a.of)then 2 else bif decide (a.kd=1)&&(!decide (zL a=0)||(decide (a.k=2)||!decide (a.s=i)))then 1 else 0)else 1
theorem u3(x:Int):(decide (x=0)=true∧decide (x=1)=false∧decide (x=2)=false)∨(decide (x=0)=false∧decide (x=1)=true∧decide (x=2)=false)∨(decide (x=0)=false∧decide (x=1)=false∧decide (x=2)=true)∨
 (decide (x=0)=false∧decide (x=1)=false∧decide (x=2)=false):=by
 simp only[Ze,Zi];omega
theorem Xz(n:Nat)(H:ab)(f:Fi)(i:Int)(a:Ac):aa T (n+9) (.fn 77) [.agg (sx f),acH i,.agg (FU a)] H=some (acH (CK f.C.length i a),H):=by
 have h:=fun H=>fm.KZ n H a.k a.s a.d a.q a.o a.c a.m a.e a.t a.u a.v a.x
 rw[wT]at h
 unfold CK
 refine ae WY (by rfl) ?_
 rcases u3 a.kd with⟨e0,e1,e2⟩|⟨e0,e1,e2⟩|⟨e0,e1,e2⟩|⟨e0,e1,e2⟩
 ·simp only[CE,ah,go_sem,simprocAttr,e0,e1,e2]
 ·cases e3:decide (a.of<0)
  ·cases e4:decide ((f.C.length:Int)≤a.of)
   ·cases e5:decide (zL a=0)
    ·simp only[CE,ah,go_sem,simprocAttr,e0,e1,e2,e3,e4,e5,h,abo,aa3,abn,aay,abh,aaF,aai,aa9,Z2]
    ·cases e6:decide (a.k=2)
     ·cases e7:decide (a.s=i)<;>simp only[CE,ah,go_sem,simprocAttr,e0,e1,e2,e3,e4,e5,e6,e7,h,abo,aa3,abn,aay,abh,aaF,aai,aa9,Z2]
     ·simp only[CE,ah,go_sem,simprocAttr,e0,e1,e2,e3,e4,e5,e6,h,abo,aa3,abn,aay,abh,aaF,aai,aa9,Z2]
   ·simp only[CE,ah,go_sem,simprocAttr,e0,e1,e2,e3,e4,abo,aa3,abn,aay,abh]
  ·simp only[CE,ah,go_sem,simprocAttr,e0,e1,e2,e3,abo,aa3,abn,aay,abh]
 ·cases e3:decide (a.of<0)
  ·cases e4:decide ((f.C.length:Int)≤a.of)
   ·simp only[CE,ah,go_sem,simprocAttr,e0,e1,e2,e3,e4,h,abo,aa3,abn,aay,abh,aaF,aai,aa9,Z2,ZJ]
   ·simp only[CE,ah,go_sem,simprocAttr,e0,e1,e2,e3,e4,abo,aa3,abn,aay,abh]
  ·simp only[CE,ah,go_sem,simprocAttr,e0,e1,e2,e3,abo,aa3,abn,aay,abh]
 ·simp only[CE,ah,go_sem,simprocAttr,e0,e1,e2,abo]
def FP(nc:Nat):Nat→List Ac→Int
 |_,[]=>0
 |i,a::r=>bif decide (CK nc i a=0)then FP nc (i+1) r else CK nc i a
def qA(f:Fi)(s:Int)(A:List Ac):Int:=bif okF f then(bif decide (A.length=f.K.length)then(bif FM f s then FP f.C.length 0 A else 12)else 11)else 1
theorem AA{A:Type}{L:List A}{i:Nat}{a:A}(h:L[i]?=some a):L.drop i=a::L.drop (i+1):=by
 obtain⟨h1,h2⟩:=Y8.1 h
 rw[aaK h1,h2]
theorem GA(n:Nat)(H:ab)(f:Fi)(s:Int)(A:List Ac)(fl:Bool)(hb:Bq f)(hA:A.length≤maxLen) :
 aa T (n+10) (.fn 38) [.agg (sx f),acH s,.aA 14 (oU A) fl] H=some (acH (qA f s A),H):=by
 have h1:=fun H=>KV (n+1) H f hb
 have h2:=fun H=>V8 (n+8) H f s
 have h3:=fun H i a=>Xz n H f i a
 unfold yf at h1
 refine ae WO (by rfl) ?_
 unfold qA
 cases a1:okF f with
 |false=>rw[a1]at h1;simp only[Kz,ah,go_sem,simprocAttr,h1]
 |true=>
  rw[a1]at h1
  cases a2:decide (A.length=f.K.length)with
  |false=>simp only[Kz,ah,go_sem,simprocAttr,h1,G.aL,zy,a2]
  |true=>
   cases a3:FM f s with
   |false=>rw[a3]at h2;simp only[Kz,ah,go_sem,simprocAttr,h1,h2,G.aL,zy,a2]
   |true=>
    rw[a3]at h2
    simp only[Kz,ah,go_sem,simprocAttr,h1,h2,G.aL,zy,a2]
    obtain⟨X,hX⟩:∃X,FP f.C.length 0 A=X:=⟨_,rfl⟩
    rw[hX]
    refine bn (fun i=>([(3,.ptr 0 0 0 0),(26,.aA 14 (oU A) fl),(27,acH A.length),(28,acH i)],⟨[.box (sx f)],[],0⟩)) (fun i=>FP f.C.length i (A.drop i)=X) A.length ?_ hX ?_
    ·simp only[go_sem,simprocAttr]<;>rfl
    ·intro i hi hP
     rcases Zl i A.length with hlt|hge
     ·obtain⟨a,ha⟩:∃a,A[i]?=some a:=⟨A[i],Zq hlt⟩
      have hw:=bR hlt hA
      have h3:=fun H=>h3 H i a
      rw[AA ha,FP]at hP
      cases hc:decide (CK f.C.length i a=0)with
      |false=>
       rw[hc]at hP
       simp only[go_sem,simprocAttr,hlt,ha,h3,hc,fc,hP]
       simp only[Zu]at hP
       rw[hP]
      |true=>
       rw[hc]at hP
       simp only[go_sem,simprocAttr,hlt,ha,h3,hc,fc,hw]
       refine⟨by first|trivial|omega,by first|trivial|rfl,hP⟩
     ·have hlt:¬i<A.length:=by omega
      have hx:X=0:=by rw[←hP,List.drop_eq_nil_of_le hge];rfl
      simp only[go_sem,simprocAttr,hlt,hx]
theorem Xq(n:Nat)(H:ab)(f:Fi)(s:Int)(A:List Ac)(fl:Bool)(hb:Bd f)(hA:A.length≤maxLen)(hx:∀a∈A,a.x.size≤10000) :
 aa T (n+10) (.fn 38) [.agg (sx f),acH s,.aA 14 (oU A) fl] H=some (acH (qA f s A),H):=GA n H f s A fl hb.q hA
def G9(f:Fi)(s:Int)(a:Ac):Int:=bif decide (a.kd=0)then -1 else kR.oX f.v f.a f.b f.C s a.of
def gr(f:Fi)(s:Int)(A:List Ac):List Int:=A.map (G9 f s)
theorem zA{f:Fi}{s:Int}{A:List Ac}{i:Nat}{a:Ac}(h:A[i]?=some a):gr f s (A.take (i+1))=gr f s (A.take i)++[G9 f s a]:=by
 unfold gr
 rw[aaE,h]
 simp
theorem BY{f:Fi}{s:Int}{A:List Ac}{i:Nat}(h:i≤A.length):(iS (gr f s (A.take i))).length=i:=by
 simp[iS,gr];omega
abbrev mM(f:Fi)(s:Int)(A:List Ac)(fl:Bool)(x y z:SV):List SV:=[.aA 2 (G.dK f.N) f.f1,.aA 1 (G.dC f.P) f.f2,.aA 5 (G.ft f.W) f.f3,acH f.ex,acH f.no,acH f.th,
 .aA 7 (U.dM f.S) f.g1,.aA 6 (U.dG f.F) f.g2,.aA 2 (G.dK f.K) f.h1,acH f.v,acH f.a,acH f.b,.aA 1 (iS f.C) f.h2,acH s,.aA 14 (oU A) fl,x,y,z]
theorem N5(n b i:Nat)(H:ab)(f:Fi)(s:Int)(A:List Ac)(fl:Bool)(x y z:SV)(a:Ac)(hC:f.C.length≤1000)(hb:H.bl[b]?=some (.box (mM f s A fl x y z)))(ha:A[i]?=some a)(hi:i<A.length) :
 aa T (n+6) (.fn 58) [.ptr b 0 0 0,acH i] H=some (acH (kR.oX f.v f.a f.b f.C s a.of),H):=by
 refine cU Xv rfl rfl (fun R k bl ro r hbl hk=>?_)
 obtain rfl:bl=H.bl:=by
  rcases hbl with⟨rfl,h0⟩|rfl
  ·simp[SV.refs.au,SV.refs]at h0
  ·rfl
 have h6:=fun H'=>kR.U2 n H' f.v f.a f.b f.C f.h2 s a.of hC
 simp only[V7,aF,aB,aG,aE,az,av,ay,ax,bc,aS,bg,aU,aP,aT,aH,aQ,aJ,aI,aw,af,bK,bL,Za,Y9,Zk,go_sem,simprocAttr,hb,ha,h6,hi]
 have:=hk []
 rw[ZW]at this
 exact this
theorem zX{n:Nat}(h:n≤1000):decide ((n+1)*8≤ch)=true:=by
 rw[Ze]
 exact ZN (show(n+1)*8≤10000 by omega) (by decide)
def Oo(f:Fi)(s:Int)(A:List Ac):SV:=bif decide (qA f s A=0)then .aA 1 (iS (gr f s A)) false else .aA 0 [] true
theorem Wo(n:Nat)(H:ab)(f:Fi)(s:Int)(A:List Ac)(fl:Bool)(hb:Bd f)(hA:A.length≤1000)(hx:∀a∈A,a.x.size≤10000) :
 aa T (n+11) (.fn 20) [.agg (sx f),acH s,.aA 14 (oU A) fl] H=some (.ba [Oo f s A,acH (qA f s A)],H):=by
 have hA':A.length≤maxLen:=ZN hA (by decide)
 have h1:=fun H=>Xq n H f s A fl hb hA' hx
 refine ae VD (by rfl) ?_
 unfold Oo
 cases he:decide (qA f s A=0)with
 |false=>simp only[TE,ah,go_sem,simprocAttr,h1,he]
 |true=>
  have he0:=ZE he
  rw[he0]at h1
  simp only[TE,ah,go_sem,simprocAttr,h1]
  refine bn (fun i=>([(9,.ptr 1 0 0 0),(10,.bp 2 i 0 i),(25,.aA 14 (oU A) fl),(26,acH A.length),(27,acH i)],⟨[.box (sx f),.box (mM f s A fl (.aA 0 [] true) (.aA 0 [] true) (.aA 0 [] true)),.arr i 1 (iS (gr f s (A.take i))) false],[],0⟩)) (fun _=>True) A.length ?_ trivial ?_
  ·simp only[go_sem,simprocAttr]<;>rfl
  ·intro i hi _
   rcases Zl i A.length with hlt|hge
   ·obtain⟨a,ha⟩:∃a,A[i]?=some a:=⟨A[i],Zq hlt⟩
    have hw:=bR hlt hA'
    have hc:=zA (f:=f) (s:=s) ha
    unfold G9 at hc
    have h5:=fun H hv=>N5 (n+4) 1 i H f s A fl (.aA 0 [] true) (.aA 0 [] true) (.aA 0 [] true) a hb.C hv ha hlt
    have hg:=fun H X=>fQ 1 H 2 i i X (iS (gr f s (A.take i))) (BY (by omega))
    cases hk:decide (a.kd=0)with
    |true=>
     rw[hk]at hc
     simp only[Zr]at hc
     simp only[go_sem,simprocAttr,hlt,ha,hk,fc,hg,zX (show i≤1000 by omega),xg,←hc,hw]
     exact⟨by first|trivial|omega,by first|trivial|rfl,trivial⟩
    |false=>
     rw[hk]at hc
     simp only[Zu]at hc
     simp only[go_sem,simprocAttr,hlt,ha,hk,fc,h5,hg,zX (show i≤1000 by omega),xg,←hc,hw]
     exact⟨by first|trivial|omega,by first|trivial|rfl,trivial⟩
   ·obtain rfl:i=A.length:=by omega
    have hlt:¬A.length<A.length:=by omega
    rw[aaj]
    have hfz:=fun H v=>(Still.ints (gr f s A)).fz 0 H 5 v A.length 1 false (by simp[iS,gr])
    simp only[go_sem,simprocAttr,hlt,hfz,he0]
def D4(f:Fi)(i:Int):Bool:=decide (0≤i)&&decide (i<(f.K.length:Int))
def dE(f:Fi)(i:Int):Int×Int:=f.K.getD i.toNat (0,0)
def IH(f:Fi)(s x y:Int):Int:=bif okF f then(bif D4 f x&&D4 f y then(bif FM f s then(bif decide (xa (dE f x).1 (dE f x).2 s=0)&&decide (C2 (dE f y).1 (dE f y).2 s=0)then 0 else 15)else 12)else 7)else 1
def PB(f:Fi)(s x y:Int):Bool:=decide (IH f s x y=0)&&(decide (Aa (dE f y).1 (dE f y).2 s≤qz (dE f x).1 (dE f x).2 s)&&decide (qz (dE f x).1 (dE f x).2 s≤CR (dE f y).1 (dE f y).2 s))
theorem Aw{f:Fi}{i:Int}(h:D4 f i=false):decide (i<0)=true∨decide (i<0)=false∧decide ((f.K.length:Int)≤i)=true:=by
 simp only[D4,aaU,Zi,Ze]at *;omega
theorem ye{f:Fi}{i:Int}(h:D4 f i=true):decide (i<0)=false∧decide ((f.K.length:Int)≤i)=false∧∃j:Nat,i=j∧j<f.K.length∧f.K[j]?=some (dE f i):=by
 simp only[D4,Zh,Ze]at h
 refine⟨Zf (by omega),Zf (by omega),?_⟩
 obtain⟨j,rfl⟩:=abq h.1
 have hj:j<f.K.length:=by omega
 exact⟨j,rfl,hj,by rw[dE,Z7,ZX,Zq hj];rfl⟩
theorem Yr(n:Nat)(H:ab)(f:Fi)(s x y:Int)(hb:Bd f):aa T (n+9) (.fn 23) [.agg (sx f),acH s,acH x,acH y] H=some (.ba [.bool (PB f s x y),acH (IH f s x y)],H):=by
 have h1:=fun H=>Yz n H f hb
 have h2:=fun H=>V8 (n+7) H f s
 unfold yf at h1
 refine ae XE (by rfl) ?_
 unfold PB IH
 cases a1:okF f with
 |false=>rw[a1]at h1;simp only[CQ,ah,go_sem,simprocAttr,h1,G.aL,ZJ]
 |true=>
  rw[a1]at h1
  cases b1:D4 f x with
  |false=>
   rcases Aw b1 with g1|⟨g1,g2⟩
   ·simp only[CQ,ah,go_sem,simprocAttr,h1,G.aL,g1,ZJ]
   ·simp only[CQ,ah,go_sem,simprocAttr,h1,G.aL,g1,g2,ZJ]
  |true=>
   obtain⟨g1,g2,i,hi,hil,hig⟩:=ye b1
   cases b2:D4 f y with
   |false=>
    rcases Aw b2 with g3|⟨g3,g4⟩
    ·simp only[CQ,ah,go_sem,simprocAttr,h1,G.aL,g1,g2,g3,ZJ,Z2]
    ·simp only[CQ,ah,go_sem,simprocAttr,h1,G.aL,g1,g2,g3,g4,ZJ,Z2]
   |true=>
    obtain⟨g3,g4,j,hj,hjl,hjg⟩:=ye b2
    cases a3:FM f s with
    |false=>rw[a3]at h2;simp only[CQ,ah,go_sem,simprocAttr,h1,h2,G.aL,g1,g2,g3,g4,ZD,ZJ]
    |true=>
     rw[a3]at h2
     have h5:=fun H a b=>Qb (n+2) H a b s
     have h6:=fun H a b=>Uq (n+2) H a b s
     generalize dE f x=p at hig⊢
     generalize dE f y=q at hjg⊢
     subst hi
     subst hj
     cases b5:decide (xa p.1 p.2 s=0)with
     |false=>simp only[CQ,ah,go_sem,simprocAttr,h1,h2,G.aL,g1,g2,g3,g4,hil,hjl,hig,hjg,h5,h6,b5,ZD,ZJ]
     |true=>
      cases b6:decide (C2 q.1 q.2 s=0)with
      |false=>simp only[CQ,ah,go_sem,simprocAttr,h1,h2,G.aL,g1,g2,g3,g4,hil,hjl,hig,hjg,h5,h6,b5,b6,ZD,ZJ,Z2]
      |true=>
       cases b7:decide (Aa q.1 q.2 s≤qz p.1 p.2 s)<;>simp only[CQ,ah,go_sem,simprocAttr,h1,h2,G.aL,g1,g2,g3,g4,hil,hjl,hig,hjg,h5,h6,b5,b6,b7,ZD,ZP,ZJ]
def CO(o d t:Int):Int:=bif mE o d then(bif decide (0≤t)&&decide (t≤1099511627776)then 0 else 2)else 1
def Dd(o d t:Int):Int:=bif decide (CO o d t=0)then jP o d t else 0
theorem Tl(n:Nat)(H:ab)(o d t:Int):aa T (n+3) (.fn 138) [.agg [acH o,acH d],acH t] H=some (.ba [acH (Dd o d t),acH (CO o d t)],H):=by
 have h60:=fun H=>NT (n+1) H o d
 have h123:=fun bl es ro=>Il (n+1) bl es ro o d
 have h166:=fun b H hb=>Gp n b H t o d hb
 unfold pL at h60
 unfold Dd CO
 refine ae RH (by rfl) ?_
 cases hc:mE o d with
 |false=>rw[hc]at h60;simp only[CH,ah,go_sem,simprocAttr,h60]
 |true=>
  rw[hc]at h60
  cases k1:decide (t<0)with
  |true=>
   have k2:decide (0≤t)=false:=by simp only[Ze,Zi]at *;omega
   simp only[CH,ah,go_sem,simprocAttr,h60,k1,k2,ZJ]
  |false=>
   have k2:decide (0≤t)=true:=by simp only[Ze,Zi]at *;omega
   cases k3:decide (1099511627776<t)with
   |true=>
    have k4:decide (t≤1099511627776)=false:=by simp only[Ze,Zi]at *;omega
    simp only[CH,ah,go_sem,simprocAttr,h60,k1,k2,k3,k4,Z2]
   |false=>
    have k4:decide (t≤1099511627776)=true:=by simp only[Ze,Zi]at *;omega
    simp only[CH,ah,go_sem,simprocAttr,h60,h123,h166,k1,k2,k3,k4,ZD]
def rO(s:Int):Bool:=decide (0≤s)&&decide (s≤109951162)
theorem SX(n:Nat)(H:ab)(s:Int):aa T (n+1) (.fn 137) [acH s] H=some (.bool (rO s),H):=by
 unfold rO
 refine ae Ul (by rfl) ?_
 cases h:decide (0≤s)<;>simp only[ND,ah,go_sem,simprocAttr,h,ZP,ZJ]
def Nj(o d s t:Int):Int:=bif mE o d then(bif rO s&&(decide (0≤t)&&decide (t≤1099511627776))then 0 else 2)else 1
def qx(o d s t:Int):Int:=bif decide (Nj o d s t=0)then bb (jP o d t-(s*10000+2120))else 0
theorem W8(n:Nat)(H:ab)(o d s t:Int):aa T (n+4) (.fn 83) [.agg [acH o,acH d],acH s,acH t] H=some (.ba [acH (qx o d s t),acH (Nj o d s t)],H):=by
 have h60:=fun H=>NT (n+2) H o d
 have h137:=fun H=>SX (n+2) H s
 have h138:=fun H=>Tl n H o d t
 unfold pL at h60
 unfold Dd CO at h138
 unfold qx Nj
 refine ae W3 (by rfl) ?_
 cases hc:mE o d with
 |false=>rw[hc]at h60;simp only[II,ah,go_sem,simprocAttr,h60]
 |true=>
  rw[hc]at h60 h138
  cases hs:rO s with
  |false=>rw[hs]at h137;simp only[II,ah,go_sem,simprocAttr,h60,h137,ZJ]
  |true=>
   rw[hs]at h137
   have hs2:0≤s∧s≤109951162:=by simpa[rO]using hs
   have hw:bb (bb (s*10000)+2120)=s*10000+2120:=by rw[ao (n:=s*10000) (by omega) (by omega)];exact ao (by omega) (by omega)
   cases k1:decide (t<0)with
   |true=>
    have k2:decide (0≤t)=false:=by simp only[Ze,Zi]at *;omega
    simp only[II,ah,go_sem,simprocAttr,h60,h137,k1,k2,ZJ,Z2]
   |false=>
    have k2:decide (0≤t)=true:=by simp only[Ze,Zi]at *;omega
    cases k3:decide (1099511627776<t)with
    |true=>
     have k4:decide (t≤1099511627776)=false:=by simp only[Ze,Zi]at *;omega
     simp only[II,ah,go_sem,simprocAttr,h60,h137,k1,k2,k3,k4,Z2]
    |false=>
     have k4:decide (t≤1099511627776)=true:=by simp only[Ze,Zi]at *;omega
     rw[k2,k4]at h138
     simp only[ZD,Zr,aaq]at h138
     simp only[II,ah,go_sem,simprocAttr,h60,h137,h138,k1,k2,k3,k4,ZD,hw,aaq]
theorem Yd(n:Nat)(H:ab)(t:Int):aa T (n+1) (.fn 70) [acH t] H=some (.bool (decide (0≤t)&&decide (t≤1099511627776)),H):=by
 refine ae Yx (by rfl) ?_
 cases h:decide (0≤t)<;>simp only[Vz,ah,go_sem,simprocAttr,h,ZP,ZJ]
theorem Xo(n:Nat)(H:ab)(o d t:Int):aa T (n+3) (.fn 27) [.agg [acH o,acH d],acH t] H=some (.ba [acH (Dd o d t),acH (CO o d t)],H):=by
 have h69:=fun H=>SP (n+1) H o d
 have h70:=fun H=>Yd (n+1) H t
 have h71:=fun H=>Vy n H t o d
 unfold pL at h69
 unfold Dd CO
 refine ae Xd (by rfl) ?_
 cases hc:mE o d with
 |false=>rw[hc]at h69;simp only[Pe,ah,go_sem,simprocAttr,h69]
 |true=>
  rw[hc]at h69
  cases k:decide (0≤t)&&decide (t≤1099511627776)with
  |false=>rw[k]at h70;simp only[Pe,ah,go_sem,simprocAttr,h69,h70]
  |true=>rw[k]at h70;simp only[Pe,ah,go_sem,simprocAttr,h69,h70,h71,aaq]
def Fk(a:Ac):Int:=bif decide (zL a=0)then bb (32*bb ((bif decide (a.k=2)then 20 else((PV a).size:Int))+6))else 0
abbrev Fx(a:Ac):List SV:=[acH a.k,acH a.s,acH a.d,acH a.q,acH a.o,acH a.c,acH a.m,acH a.e,acH a.t,acH a.u,acH a.v,.str a.x]
theorem VB(n:Nat)(H:ab)(a:Ac):aa T (n+9) (.fn 78) [.agg (Fx a)] H=some (.ba [acH (Fk a),acH (zL a)],H):=by
 have h:=fun H=>fm.KZ n H a.k a.s a.d a.q a.o a.c a.m a.e a.t a.u a.v a.x
 rw[wT]at h
 unfold Fk
 refine ae YE (by rfl) ?_
 cases h0:decide (zL a=0)with
 |false=>simp only[Sz,ah,go_sem,simprocAttr,h,h0]
 |true=>
  have h1:=ZE h0
  cases hk:decide (a.k=2)<;>simp only[Sz,ah,go_sem,simprocAttr,h,h0,h1,hk]
theorem XT(n:Nat)(H:ab)(a:Ac):aa T (n+6) (.fn 14) [.agg (Fx a)] H=some (.ba [acH (Fk a),acH (zL a)],H):=by
 have h:=fun H=>fm.Xt a.k a.s a.d a.q a.o a.c a.m a.e a.t a.u a.v a.x n H
 rw[wT]at h
 unfold Fk
 refine ae EY (by rfl) ?_
 cases h0:decide (zL a=0)with
 |false=>simp only[UW,ah,go_sem,simprocAttr,h,h0]
 |true=>
  have h1:=ZE h0
  cases hk:decide (a.k=2)<;>simp only[UW,ah,go_sem,simprocAttr,h,h0,h1,hk]
end Go.Sh
