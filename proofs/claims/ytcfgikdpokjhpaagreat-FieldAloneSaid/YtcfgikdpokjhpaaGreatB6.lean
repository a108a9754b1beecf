/- A part of the proof: texts ShFr, K19c, K19d, K19e, K19f, K19g, K19u, K19h, K19pb, K19pc, K19pd, K19pe, K19pf, K19pg, K19ph, K19pi, K19pj, K19pk, K19pl, K19pme, K19pm, K19pn, K19pr, K19ps, K19pt, K19pu, K19pv, K19pw, K19pxs, K19i, K19j, K19k, K19l, K19m, K19n, K19q. -/
import Derived.Test.YtcfgikdpokjhpaaGreatB3
import Derived.Test.YtcfgikdpokjhpaaGreatB5
namespace Go.Sh
set_option linter.unusedSectionVars false
set_option linter.unnecessarySimpa false
set_option linter.unusedSimpArgs false
set_option linter.unusedVariables false
set_option maxRecDepth 100000
set_option maxHeartbeats 4000000
section
section
variable{A:Type}(bl l:List A)(x:A)(k j:Nat)
theorem aF:(bl++l)[bl.length]?=l[0]?:=by rw[adf (acH _),afe]
theorem aE:(bl++l)[bl.length+k]?=l[k]?:=by rw[adf (by omega),afk]
theorem aH:(bl++l).set bl.length x=bl++l.set 0 x:=by rw[afA _ _ (acH _),afe]
theorem aG:(bl++l).set (bl.length+k) x=bl++l.set k x:=by rw[afA _ _ (by omega),afk]
theorem az:(bl++l).take bl.length=bl:=by simp
theorem aw:(bl++l).take (bl.length+k)=bl++l.take k:=by rw[List.take_append,ac1 (by omega)];simp
theorem ax:(bl++l).drop bl.length=l:=by simp
theorem ay:(bl++l).drop (bl.length+k)=l.drop k:=by rw[List.drop_append,aeb (by omega)];simp
end
section
variable(a r k j:Nat)
theorem bj:decide (a+j≤a+k)=decide (j≤k):=by rw[aeg];omega
theorem aP:decide (a≤a+k)=true:=acp (by omega)
theorem bg:decide (a+j<a+k)=decide (j<k):=by rw[aeg];omega
theorem aQ:decide (a<a+(k+1))=true:=acp (by omega)
theorem aS:decide (a+k<a)=false:=acs (by omega)
theorem aR:decide (min r a≤a)=true:=acp (by omega)
theorem aI:decide (min r a≤a+k)=true:=acp (by omega)
theorem aO:(a+j==a+k)=(j==k):=by rw[adz];simp
theorem aA(x y z:Nat):decide (max x y≤z)=(decide (x≤z)&&decide (y≤z)):=by rw[adz];simp;omega
theorem ai:decide (a≤a)=true:=acp (acH a)
theorem bM:decide (0≤a)=true:=acp (aei a)
theorem bN:decide (a+(k+1)≤a)=false:=acs (by omega)
theorem aJ:(a==a+(k+1))=false:=by simp
theorem aK:(a+(k+1)==a)=false:=by simp
end
theorem fm{A:Type}{bl l:List A}{b:Nat}{x:A}(h:bl[b]?=some x):(bl++l)[b]?=some x:=by
 rw[acF (acm.1 h).1];exact h
theorem qm{F:aB}{xs:List SV}(h:0<SV.refs.av xs):eI F xs=false:=by
 unfold eI
 rw[aec]
 left
 simp;omega
theorem de{T:FuncId→Option aB}{f:FuncId}{F:aB}{xs:List SV}{n:Nat}{H:ab}{v:SV}(hT:T f=some F)(hk:F.keep=false)(hs:kg v=true)
 (h:∀(R:Type) (k:SV→ab→Option R) (bl:List aC) (ro:Nat) (r:Option R),(bl=[]∧SV.refs.av xs=0∨bl=H.bl)→(∀ext,k v ⟨bl++ext,[],min ro bl.length⟩=r)→
  runK (aa T n) (pZ F.res k) F.body [] (eo xs) ⟨bl,[],min ro bl.length⟩ ()=r) :
 aa T (n+1) (.fn f) xs H=some (v,H):=by
 have hfz:∀N H',ez N H' cG v=some v:=fun N H'=>by
  cases v<;>simp only[kg,adh]at hs<;>simp[cG,ez,SV.refs]
 cases hp:eI F xs with
 |true=>
  refine ae hT hp ?_
  have hr:SV.refs.av xs=0:=by
   unfold eI at hp
   simp only[acw,adK]at hp
   exact hp.1
  exact h SV (fun v H'=>ez 0 H' cG v) [] 0 _ (.inl ⟨rfl,hr⟩) (fun ext=>hfz _ _)
 |false=>
  refine bm hT hp ?_
  refine h _ (fun v H'=>da F.keep H v H') H.bl H.ro _ (.inr rfl) (fun ext=>?_)
  rw[hk,pq,hfz]
  obtain⟨bl,es,ro⟩:=H
  simp[Sh.di]
end
def G3(a:Int):Int:=bif decide (a.tmod 1000000000<0)then bb (bb (a.tdiv 1000000000)-1)else bb (a.tdiv 1000000000)
theorem UD(n:Nat)(H:ab)(a:Int):aa T (n+1) (.fn 167) [af5 a,af5 1000000000] H=some (af5 (G3 a),H):=by
 refine ae Ss (by rfl) ?_
 simp only[Pt,ah,go_sem,simprocAttr,G3]
 repeat' (with_reducible refine aD (fun _=>?_) (fun _=>?_)<;>simp only[*,go_sem,simprocAttr,G3])
theorem Xr(n:Nat)(H:ab)(a:Int):aa T (n+1) (.fn 126) [af5 a,af5 1000000000] H=some (af5 (G3 a),H):=by
 refine ae XB (by rfl) ?_
 simp only[O4,ah,go_sem,simprocAttr,G3]
 repeat' (with_reducible refine aD (fun _=>?_) (fun _=>?_)<;>simp only[*,go_sem,simprocAttr,G3])
def pN(o d:Int):Bool:=decide (-1099511627776≤o)&&decide (o≤1099511627776)&&decide (-100000≤d)&&decide (d≤100000)
def sj(o d:Int):Int:=bif pN o d then 0 else 1
theorem Az(o d:Int):sj o d=if -1099511627776≤o∧o≤1099511627776∧ -100000≤d∧d≤100000 then 0 else 1:=by
 unfold sj pN
 by_cases h1: -1099511627776≤o<;>by_cases h2:o≤1099511627776<;>by_cases h3: -100000≤d<;>by_cases h4:d≤100000<;>simp[h1,h2,h3,h4]
theorem Rt(n:Nat)(H:ab)(o d:Int):aa T (n+1) (.fn 60) [.agg [af5 o,af5 d]] H=some (af5 (sj o d),H):=by
 refine ae e60 (by rfl) ?_
 simp only[YD,ah,go_sem,simprocAttr]
 repeat' (with_reducible refine aD (fun _=>?_) (fun _=>?_)<;>simp only[*,go_sem,simprocAttr])
 all_goals (refine congrArg some (congrArg (SV.int .i64) ?_);simp only[acr,acx]at *;rw[Az];split<;>omega)
theorem Yx(n:Nat)(H:ab)(o d:Int):aa T (n+1) (.fn 69) [.agg [af5 o,af5 d]] H=some (af5 (sj o d),H):=by
 refine ae e69 (by rfl) ?_
 simp only[YU,ah,go_sem,simprocAttr]
 repeat' (with_reducible refine aD (fun _=>?_) (fun _=>?_)<;>simp only[*,go_sem,simprocAttr])
 all_goals (refine congrArg some (congrArg (SV.int .i64) ?_);simp only[acr,acx]at *;rw[Az];split<;>omega)
def nu(o d t:Int):Int:=bb (bb (o+t)+G3 (bb (t*d)))
theorem JC(n b:Nat)(H:ab)(t o d:Int)(hb:H.bl[b]?=some (.box [af5 o,af5 d])):aa T (n+2) (.fn 166) [af5 t,.ptr b 0 0 0] H=some (af5 (nu o d t),H):=by
 refine de Uq rfl rfl (fun R k bl ro r hbl hk=>?_)
 have hb':bl[b]?=some (.box [af5 o,af5 d]):=by
  rcases hbl with⟨rfl,h0⟩|rfl
  ·simp[SV.refs.av,SV.refs]at h0
  ·exact hb
 have hB:∀l:List aC,(bl++l)[b]?=some (.box [af5 o,af5 d]):=fun l=>fm hb'
 simp only[NL,aF,aE,aH,aG,az,aw,ax,ay,bj,aP,bg,aQ,aS,aR,aI,aO,aJ,aK,aA,ai,bM,bN,aco,acn,acD,go_sem,simprocAttr,hb',hB,UD]
 have:=hk []
 rw[adn]at this
 exact this
theorem s71(n:Nat)(H:ab)(t o d:Int):aa T (n+2) (.fn 71) [.agg [af5 o,af5 d],af5 t] H=some (af5 (nu o d t),H):=by
 refine ae e71 (by rfl) ?_
 simp only[Zh,ah,go_sem,simprocAttr,Xr,nu]
theorem Vk(n b b1 b2:Nat)(H:ab)(t o d x:Int)(hb:H.bl[b]?=some (.box [af5 o,af5 d]))(hb1:H.bl[b1]?=some (.box [.fn 166 [.ptr b 0 0 0]]))(hb2:H.bl[b2]?=some (.box [af5 x])) :
 aa T (n+3) (.fn 169) [af5 t,.ptr b1 0 0 0,.ptr b2 0 0 0] H=some (.bool (decide (x≤nu o d t)),H):=by
 refine de TI rfl rfl (fun R k bl ro r hbl hk=>?_)
 obtain rfl:bl=H.bl:=by
  rcases hbl with⟨rfl,h0⟩|rfl
  ·simp[SV.refs.av,SV.refs]at h0
  ·rfl
 have h6:=fun H' (h:H'.bl=H.bl)=>JC n b H' t o d (by rw[h];exact hb)
 simp only[Qr,aF,aE,aH,aG,az,aw,ax,ay,bj,aP,bg,aQ,aS,aR,aI,aO,aJ,aK,aA,ai,bM,bN,aco,acn,acD,go_sem,simprocAttr,hb1,hb2,h6]
 have:=hk []
 rw[adn]at this
 exact this
def bs(q:Int→Bool):Nat→Int×Int
 |0=>(0,1099511627776)
 |i+1=>bif decide ((bs q i).1<(bs q i).2)then(bif q (((bs q i).1+(bs q i).2)/2)then((bs q i).1,((bs q i).1+(bs q i).2)/2)else(((bs q i).1+(bs q i).2)/2+1,(bs q i).2))else bs q i
theorem oQ(q:Int→Bool):∀i,0≤(bs q i).1∧(bs q i).1≤(bs q i).2∧(bs q i).2≤1099511627776∧((bs q i).2-(bs q i).1)*2 ^ i≤1099511627776
 |0=>by simp[bs]
 |i+1=>by
  obtain⟨h1,h2,h3,h4⟩:=oQ q i
  rw[bs]
  generalize hl:(bs q i).1=l at *
  generalize hh:(bs q i).2=h at *
  have hp:(0:Int)≤2 ^ i:=Int.pow_nonneg (by omega)
  have key:∀d:Int,2*d≤h-l→d*2 ^ (i+1)≤1099511627776:=fun d hd=>by
   rw[Int.pow_succ,afy (2 ^ i) 2,←Int.mul_assoc,afy d 2]
   exact af0 (Int.mul_le_mul_of_nonneg_right hd hp) h4
  cases hlt:decide (l<h)with
  |true=>
   simp only[acr]at hlt
   cases q ((l+h)/2)with
   |true=>
    simp only[acG]
    exact⟨by omega,by omega,by omega,key _ (by omega)⟩
   |false=>
    simp only[acG,acJ]
    exact⟨by omega,by omega,by omega,key _ (by omega)⟩
  |false=>
   simp only[acx]at hlt
   simp only[acJ]
   rw[hl,hh]
   exact⟨h1,h2,h3,by rw[show h-l=0 by omega];omega⟩
theorem zm(q:Int→Bool):(bs q 41).1=(bs q 41).2:=by
 obtain⟨h1,h2,h3,h4⟩:=oQ q 41
 have:((2:Int) ^ 41)=2199023255552:=by decide
 rw[this]at h4
 omega
theorem Cx(q:Int→Bool)(i:Nat)(h:decide ((bs q i).1<(bs q i).2)=false):∀k,bs q (i+k)=bs q i
 |0=>rfl
 |k+1=>by
  have e:=Cx q i h k
  rw[←acD,bs,e,h]
  rfl
def u3(q:Int→Bool):Int:=(bs q 41).1
theorem zI(q:Int→Bool)(i:Nat)(hi:i≤41)(h:decide ((bs q i).1<(bs q i).2)=false):u3 q=(bs q i).1:=by
 have:=Cx q i h (41-i)
 rw[u3,show 41=i+(41-i) by omega,this]
theorem GC{z:Int}(h0:0≤z)(h1:z≤2199023255552):bb ((IntKind.u64.wrap z).fdiv (2 ^ min 1 64))=z/2:=by
 have e:IntKind.u64.wrap z=z%18446744073709551616:=by simp[IntKind.wrap,IntKind.bits,IntKind.signed]
 have e2:(2:Int) ^ min 1 64=2:=by decide
 rw[e,e2,aeI _ (by omega),Int.emod_eq_of_lt h0 (by omega)]
 exact al (by omega) (by omega)
theorem Sx(n b b1 b2:Nat)(H:ab)(o d x:Int)(hb:H.bl[b]?=some (.box [af5 o,af5 d]))(hb1:H.bl[b1]?=some (.box [.fn 166 [.ptr b 0 0 0]]))(hb2:H.bl[b2]?=some (.box [af5 x])) :
 aa T (n+4) (.fn 168) [af5 1099511627776,.fn 169 [.ptr b1 0 0 0,.ptr b2 0 0 0]] H=some (af5 (u3 fun t=>decide (x≤nu o d t)),H):=by
 refine de Xp rfl rfl (fun R k bl ro r hbl hk=>?_)
 obtain rfl:bl=H.bl:=by
  rcases hbl with⟨rfl,h0⟩|rfl
  ·simp[SV.refs.av,SV.refs]at h0
  ·rfl
 have h6:=fun t H' (h:H'.bl=H.bl)=>Vk n b b1 b2 H' t o d x (by rw[h];exact hb) (by rw[h];exact hb1) (by rw[h];exact hb2)
 obtain⟨q,hq⟩:∃q:Int→Bool,q=fun t=>decide (x≤nu o d t):=⟨_,rfl⟩
 rw[←hq]at hk
 simp only[Po,aF,aE,aH,aG,az,aw,ax,ay,bj,aP,bg,aQ,aS,aR,aI,aO,aJ,aK,aA,ai,bM,bN,aco,acn,acD,go_sem,simprocAttr]
 refine ba (fun i=>([(1,.fn 169 [.ptr b1 0 0 0,.ptr b2 0 0 0]),(5,af5 (bs q i).1),(6,af5 (bs q i).2)],⟨H.bl,[],min ro H.bl.length⟩)) (fun _=>True) 41 ?_ trivial ?_
 ·have l1:decide (b1+1≤H.bl.length)=true:=acp (acm.1 hb1).1
  have l2:decide (b2+1≤H.bl.length)=true:=acp (acm.1 hb2).1
  simp only[aF,aE,aH,aG,az,aw,ax,ay,bj,aP,bg,aQ,aS,aR,aI,aO,aJ,aK,aA,ai,bM,bN,aco,acn,acD,go_sem,simprocAttr,bs,l1,l2]
 ·intro i hi _
  have l1:decide (b1+1≤H.bl.length)=true:=acp (acm.1 hb1).1
  have l2:decide (b2+1≤H.bl.length)=true:=acp (acm.1 hb2).1
  obtain⟨g1,g2,g3,_⟩:=oQ q i
  cases hlt:decide ((bs q i).1<(bs q i).2)with
  |false=>
   simp only[aF,aE,aH,aG,az,aw,ax,ay,bj,aP,bg,aQ,aS,aR,aI,aO,aJ,aK,aA,ai,bM,bN,aco,acn,acD,go_sem,simprocAttr,hlt]
   have:=hk []
   rw[adn,zI q i hi hlt]at this
   exact this
  |true=>
   have hw:bb ((bs q i).1+(bs q i).2)=(bs q i).1+(bs q i).2:=al (by omega) (by omega)
   have hm:=GC (z:=(bs q i).1+(bs q i).2) (by omega) (by omega)
   have hw2:bb (((bs q i).1+(bs q i).2)/2+1)=((bs q i).1+(bs q i).2)/2+1:=al (by omega) (by omega)
   have hi2:i<41:=by
    rcases acz i 41 with h|h
    ·exact h
    ·obtain rfl:i=41:=by omega
     rw[zm,acr]at hlt
     omega
   have hb:bs q (i+1)=bif q (((bs q i).1+(bs q i).2)/2)then((bs q i).1,((bs q i).1+(bs q i).2)/2)else(((bs q i).1+(bs q i).2)/2+1,(bs q i).2):=by rw[bs,hlt];rfl
   have h6:=h6 (((bs q i).1+(bs q i).2)/2) ⟨H.bl,[],min ro H.bl.length⟩ rfl
   rw[show decide (x≤nu o d (((bs q i).1+(bs q i).2)/2))=q (((bs q i).1+(bs q i).2)/2) by rw[hq]]at h6
   cases hv:q (((bs q i).1+(bs q i).2)/2)with
   |false=>
    rw[hv]at h6 hb
    simp only[aF,aE,aH,aG,az,aw,ax,ay,bj,aP,bg,aQ,aS,aR,aI,aO,aJ,aK,aA,ai,bM,bN,aco,acn,acD,go_sem,simprocAttr,hlt,hw,hm,h6,hw2,hb,l1,l2]
    exact⟨hi2,trivial,trivial⟩
   |true=>
    rw[hv]at h6 hb
    simp only[aF,aE,aH,aG,az,aw,ax,ay,bj,aP,bg,aQ,aS,aR,aI,aO,aJ,aK,aA,ai,bM,bN,aco,acn,acD,go_sem,simprocAttr,hlt,hw,hm,h6,hb,l1,l2]
    exact⟨hi2,trivial,trivial⟩
theorem DH{T:FuncId→Option aB}{f:FuncId}{F:aB}{xs:List SV}{n:Nat}{H:ab}{a c:Int}(hT:T f=some F)(hk:F.keep=false)
 (h:∀(R:Type) (k:SV→ab→Option R) (bl:List aC) (ro:Nat) (r:Option R),(bl=[]∧SV.refs.av xs=0∨bl=H.bl)→(∀ext,k (.bc [af5 a,af5 c]) ⟨bl++ext,[],min ro bl.length⟩=r)→
  runK (aa T n) (pZ F.res k) F.body [] (eo xs) ⟨bl,[],min ro bl.length⟩ ()=r) :
 aa T (n+1) (.fn f) xs H=some (.bc [af5 a,af5 c],H):=by
 have hfz:∀N H',ez N H' cG (.bc [af5 a,af5 c])=some (.bc [af5 a,af5 c]):=fun N H'=>by simp[cG,ez,bR]
 cases hp:eI F xs with
 |true=>
  refine ae hT hp ?_
  have hr:SV.refs.av xs=0:=by
   unfold eI at hp
   simp only[acw,adK]at hp
   exact hp.1
  exact h SV (fun v H'=>ez 0 H' cG v) [] 0 _ (.inl ⟨rfl,hr⟩) (fun ext=>hfz _ _)
 |false=>
  refine bm hT hp ?_
  refine h _ (fun v H'=>da F.keep H v H') H.bl H.ro _ (.inr rfl) (fun ext=>?_)
  rw[hk,pq,hfz]
  obtain⟨bl,es,ro⟩:=H
  simp[Sh.di]
def rV(o d x:Int):Int:=bif decide (nu o d 1099511627776<x)then 0 else u3 fun t=>decide (x≤nu o d t)
def rE(o d x:Int):Int:=bif decide (nu o d 1099511627776<x)then 15 else 0
theorem JS(n b:Nat)(H:ab)(o d x:Int)(hb:H.bl[b]?=some (.box [af5 o,af5 d])) :
 aa T (n+5) (.fn 124) [.agg [.fn 166 [.ptr b 0 0 0]],af5 x] H=some (.bc [af5 (rV o d x),af5 (rE o d x)],H):=by
 refine DH XZ rfl (fun R k bl ro r hbl hk=>?_)
 obtain rfl:bl=H.bl:=by
  rcases hbl with⟨rfl,h0⟩|rfl
  ·simp[SV.refs.av,SV.refs]at h0
  ·rfl
 have h6:=fun t H' (h:H'.bl[b]?=some (.box [af5 o,af5 d]))=>JC (n+2) b H' t o d h
 have h7:=fun H' hb hb1 hb2=>Sx n b H.bl.length (H.bl.length+1) H' o d x hb hb1 hb2
 have hB:∀l:List aC,(H.bl++l)[b]?=some (.box [af5 o,af5 d]):=fun l=>fm hb
 unfold rV rE at hk
 cases hc:decide (nu o d 1099511627776<x)with
 |true=>
  rw[hc]at hk
  simp only[Jb,aF,aE,aH,aG,az,aw,ax,ay,bj,aP,bg,aQ,aS,aR,aI,aO,aJ,aK,aA,ai,bM,bN,aco,acn,acD,go_sem,simprocAttr,h6,hB,hc]
  exact hk _
 |false=>
  rw[hc]at hk
  simp only[Jb,aF,aE,aH,aG,az,aw,ax,ay,bj,aP,bg,aQ,aS,aR,aI,aO,aJ,aK,aA,ai,bM,bN,aco,acn,acD,go_sem,simprocAttr,h6,h7,hB,hc]
  exact hk _
theorem IG(n:Nat)(bl es ro)(o d:Int):aa T (n+1) (.se 123) [.agg [af5 o,af5 d]] ⟨bl,es,ro⟩=
 some (.agg [.fn 166 [.ptr bl.length 0 0 0]],⟨bl++[.box [af5 o,af5 d],.box [.fn 166 [.ptr bl.length 0 0 0]]],es,ro⟩):=by
 refine eJ T9 ?_
 simp only[He,aF,aE,aH,aG,az,aw,ax,ay,bj,aP,bg,aQ,aS,aR,aI,aO,aJ,aK,aA,ai,bM,bN,aco,acn,acD,go_sem,simprocAttr]
def wb(o d s:Int):Bool:=pN o d&&(decide (0≤s)&&decide (s≤109951162))
def Fj(o d s:Int):Int:=bif pN o d then(bif decide (0≤s)&&decide (s≤109951162)then 0 else 2)else 1
theorem LS(n:Nat)(H:ab)(o d s:Int):aa T (n+2) (.fn 122) [.agg [af5 o,af5 d],af5 s] H=some (af5 (Fj o d s),H):=by
 have h6:=fun H=>Rt n H o d
 unfold Fj
 unfold sj at h6
 cases hc:pN o d with
 |false=>
  rw[hc]at h6
  (refine ae F6 (by rfl) ?_;simp only[Fc,ah,go_sem,simprocAttr,h6])
 |true=>
  rw[hc]at h6
  by_cases h1:s<0
  ·have e1:decide (s<0)=true:=acp h1
   have e2:decide (0≤s)=false:=acs (by omega)
   (refine ae F6 (by rfl) ?_;simp only[Fc,ah,go_sem,simprocAttr,h6,e1,e2])
  ·have e1:decide (s<0)=false:=acs h1
   have e2:decide (0≤s)=true:=acp (by omega)
   by_cases h3:s≤109951162
   ·have e3:decide (s≤109951162)=true:=acp h3
    have e4:decide (109951162<s)=false:=acs (by omega)
    (refine ae F6 (by rfl) ?_;simp only[Fc,ah,go_sem,simprocAttr,h6,e1,e2,e3,e4])
   ·have e3:decide (s≤109951162)=false:=acs h3
    have e4:decide (109951162<s)=true:=acp (by omega)
    (refine ae F6 (by rfl) ?_;simp only[Fc,ah,go_sem,simprocAttr,h6,e1,e2,e3,e4])
def nn(o d s:Int):Int:=bif wb o d s then rV o d (s*10000+2120)else 0
def xl(o d s:Int):Int:=bif wb o d s then rE o d (s*10000+2120)else Fj o d s
def Fw(o d s:Int):Int:=bif wb o d s then rE o d (s*10000+3221)else Fj o d s
def BP(o d s:Int):Int:=bif wb o d s&&decide (s*10000+3221≤nu o d 1099511627776)then rV o d (s*10000+1020)else 0
def Cg(o d s:Int):Int:=bif wb o d s&&decide (s*10000+3221≤nu o d 1099511627776)then bb (rV o d (s*10000+3221)-1)else 0
theorem kJ{o d s:Int}(h:wb o d s=true):pN o d=true∧0≤s∧s≤109951162∧Fj o d s=0:=by
 unfold wb at h
 unfold Fj
 cases h1:pN o d
 ·rw[h1,ac3]at h;cases h
 ·rw[h1,ac9]at h
  rw[h]
  simp only[acw,acr]at h
  exact⟨rfl,h.1,h.2,rfl⟩
theorem vf{o d s:Int}(h:wb o d s=false):decide (Fj o d s=0)=false:=by
 unfold wb at h
 unfold Fj
 cases h1:pN o d
 ·rfl
 ·rw[h1,ac9]at h
  rw[h]
  rfl
theorem XO(n:Nat)(H:ab)(o d s:Int):aa T (n+6) (.fn 66) [.agg [af5 o,af5 d],af5 s] H=some (.bc [af5 (nn o d s),af5 (xl o d s)],H):=by
 have h122:=fun H=>LS (n+3) H o d s
 have h123:=fun bl es ro=>IG (n+4) bl es ro o d
 unfold nn xl
 cases hb:wb o d s with
 |false=>
  have h0:=vf hb
  (refine ae YC (by rfl) ?_;simp only[Xj,ah,go_sem,simprocAttr,h122,h0])
 |true=>
  obtain⟨h1,h2,h3,h4⟩:=kJ hb
  rw[h4]at h122
  have hw:bb (bb (s*10000)+2120)=s*10000+2120:=by rw[al (n:=s*10000) (by omega) (by omega)];exact al (by omega) (by omega)
  have h124:=fun H hb=>JS n 1 H o d (s*10000+2120) hb
  (refine ae YC (by rfl) ?_;simp only[Xj,ah,go_sem,simprocAttr,h122,h123,h124,hw])
theorem TE(n:Nat)(H:ab)(o d s:Int):aa T (n+6) (.fn 67) [.agg [af5 o,af5 d],af5 s] H=some (.bc [af5 (BP o d s),af5 (Cg o d s),af5 (Fw o d s)],H):=by
 have h122:=fun H=>LS (n+3) H o d s
 have h123:=fun bl es ro=>IG (n+4) bl es ro o d
 unfold BP Cg Fw
 cases hb:wb o d s with
 |false=>
  have h0:=vf hb
  (refine ae R2 (by rfl) ?_;simp only[Qk,ah,go_sem,simprocAttr,h122,h0])
 |true=>
  obtain⟨h1,h2,h3,h4⟩:=kJ hb
  rw[h4]at h122
  have hw0:bb (bb (s*10000)+2120)=s*10000+2120:=by rw[al (n:=s*10000) (by omega) (by omega)];exact al (by omega) (by omega)
  have hw1:bb (s*10000+2120-1100)=s*10000+1020:=by rw[al (by omega) (by omega)];omega
  have hw2:bb (bb (s*10000+2120+1100)+1)=s*10000+3221:=by rw[al (n:=s*10000+2120+1100) (by omega) (by omega),al (by omega) (by omega)];omega
  have h124:=fun H hb=>JS n 1 H o d (s*10000+1020) hb
  have h125:=fun H hb=>JS n 3 H o d (s*10000+3221) hb
  cases hc:decide (s*10000+3221≤nu o d 1099511627776)with
  |true=>
   have hE1:rE o d (s*10000+1020)=0:=by unfold rE;rw[acs (by rw[acr]at hc;omega)];rfl
   have hE2:rE o d (s*10000+3221)=0:=by unfold rE;rw[acs (by rw[acr]at hc;omega)];rfl
   rw[hE1]at h124
   rw[hE2]at h125
   (refine ae R2 (by rfl) ?_;simp only[Qk,ah,go_sem,simprocAttr,h122,h123,h124,h125,hw0,hw1,hw2,hE2])
  |false=>
   have hE2:rE o d (s*10000+3221)=15:=by unfold rE;rw[acp (by rw[acx]at hc;omega)];rfl
   rw[hE2]at h125
   cases hd:decide (rE o d (s*10000+1020)=0)with
   |true=>
    (refine ae R2 (by rfl) ?_;simp only[Qk,ah,go_sem,simprocAttr,h122,h123,h124,h125,hw0,hw1,hw2,hE2,hd])
   |false=>
    (refine ae R2 (by rfl) ?_;simp only[Qk,ah,go_sem,simprocAttr,h122,h123,h124,h125,hw0,hw1,hw2,hE2,hd])
theorem s88(n:Nat)(H:ab)(o d x:Int)(hk:pN o d=true):aa T (n+3) (.fn 88) [.agg [af5 o,af5 d],af5 x] H=some (.bc [af5 (rV o d x),af5 (rE o d x)],H):=by
 refine ae e88 (by rfl) ?_
 have h69:=fun H=>Yx (n+1) H o d
 unfold sj at h69
 rw[hk]at h69
 have h71:=fun H t=>s71 n H t o d
 unfold rV rE
 cases hc:decide (nu o d 1099511627776<x)with
 |true=>simp only[Yk,ah,go_sem,simprocAttr,h69,h71,hc]
 |false=>
  simp only[Yk,ah,go_sem,simprocAttr,h69,h71,hc]
  obtain⟨q,hq⟩:∃q:Int→Bool,q=fun t=>decide (x≤nu o d t):=⟨_,rfl⟩
  rw[←hq]
  refine ba (fun i=>([(1,af5 x),(2,.ptr 0 0 0 0),(6,af5 (bs q i).1),(7,af5 (bs q i).2)],⟨[.box [af5 o,af5 d]],[],0⟩)) (fun _=>True) 41 ?_ trivial ?_
  ·simp only[go_sem,simprocAttr,bs]<;>rfl
  ·intro i hi _
   obtain⟨g1,g2,g3,_⟩:=oQ q i
   cases hlt:decide ((bs q i).1<(bs q i).2)with
   |false=>
    simp only[go_sem,simprocAttr,hlt,zI q i hi hlt]
   |true=>
    have hw:bb ((bs q i).1+(bs q i).2)=(bs q i).1+(bs q i).2:=al (by omega) (by omega)
    have ht:((bs q i).1+(bs q i).2).tdiv 2=((bs q i).1+(bs q i).2)/2:=ad4 (by omega)
    have hm:bb (((bs q i).1+(bs q i).2)/2)=((bs q i).1+(bs q i).2)/2:=al (by omega) (by omega)
    have hw2:bb (((bs q i).1+(bs q i).2)/2+1)=((bs q i).1+(bs q i).2)/2+1:=al (by omega) (by omega)
    have hi2:i<41:=by
     rcases acz i 41 with h|h
     ·exact h
     ·obtain rfl:i=41:=by omega
      rw[zm,acr]at hlt
      omega
    have hb:bs q (i+1)=bif q (((bs q i).1+(bs q i).2)/2)then((bs q i).1,((bs q i).1+(bs q i).2)/2)else(((bs q i).1+(bs q i).2)/2+1,(bs q i).2):=by rw[bs,hlt];rfl
    have hv':decide (x≤nu o d (((bs q i).1+(bs q i).2)/2))=q (((bs q i).1+(bs q i).2)/2):=by rw[hq]
    cases hv:q (((bs q i).1+(bs q i).2)/2)with
    |false=>
     rw[hv]at hv' hb
     simp only[go_sem,simprocAttr,hlt,hw,ht,hm,h71,hv',hw2,hb]
     refine⟨hi2,?_,?_⟩<;>first|trivial|rfl
    |true=>
     rw[hv]at hv' hb
     simp only[go_sem,simprocAttr,hlt,hw,ht,hm,h71,hv',hb]
     refine⟨hi2,?_,?_⟩<;>first|trivial|rfl
theorem s50(n:Nat)(H:ab)(o d s x:Int)(hx0:0≤x)(hx:x≤10000):aa T (n+4) (.fn 50) [.agg [af5 o,af5 d],af5 s,af5 x] H=
 some (.bc [af5 (bif wb o d s then rV o d (s*10000+x)else 0),af5 (bif wb o d s then rE o d (s*10000+x)else Fj o d s)],H):=by
 have h69:=fun H=>Yx (n+2) H o d
 unfold sj at h69
 cases hb:wb o d s with
 |false=>
  unfold Fj
  unfold wb at hb
  cases hc:pN o d with
  |false=>
   rw[hc]at h69
   (refine ae RK (by rfl) ?_;simp only[PL,ah,go_sem,simprocAttr,h69])
  |true=>
   rw[hc]at h69 hb
   rw[ac9]at hb
   by_cases h1:s<0
   ·have e1:decide (s<0)=true:=acp h1
    (refine ae RK (by rfl) ?_;simp only[PL,ah,go_sem,simprocAttr,h69,e1,hb])
   ·have e1:decide (s<0)=false:=acs h1
    have e2:decide (0≤s)=true:=acp (by omega)
    rw[e2,ac9]at hb
    have e4:decide (109951162<s)=true:=by simp only[acr,acx]at *;omega
    (refine ae RK (by rfl) ?_;simp only[PL,ah,go_sem,simprocAttr,h69,e1,e2,hb,e4])
 |true=>
  obtain⟨h1,h2,h3,h4⟩:=kJ hb
  rw[h1]at h69
  have e1:decide (s<0)=false:=acs (by omega)
  have e4:decide (109951162<s)=false:=acs (by omega)
  have hw:bb (bb (s*10000)+x)=s*10000+x:=by rw[al (n:=s*10000) (by omega) (by omega)];exact al (by omega) (by omega)
  have h88:=fun H=>s88 n H o d (s*10000+x) h1
  (refine ae RK (by rfl) ?_;simp only[PL,ah,go_sem,simprocAttr,h69,e1,e4,hw,h88])
theorem Z0(n:Nat)(H:ab)(o d s:Int):aa T (n+5) (.fn 13) [.agg [af5 o,af5 d],af5 s] H=some (.bc [af5 (nn o d s),af5 (xl o d s)],H):=by
 have h50:=fun H=>s50 n H o d s 2120 (by omega) (by omega)
 (refine ae Jh (by rfl) ?_;simp only[Y5,ah,go_sem,simprocAttr,h50,nn,xl])
namespace G
abbrev pt(a b:Int):SV:=.agg [af5 a,af5 b]
abbrev wl(a b c d f:Int):SV:=.agg [af5 a,af5 b,af5 c,af5 d,af5 f]
def p8(a b:Int):Int:=if a<b then -1 else if b<a then 1 else 0
def fE(a b c d x y:Int):Int:=p8 (bb (bb (c-a)*bb (y-b))) (bb (bb (d-b)*bb (x-a)))
def kn(a b c d x y:Int):Int:=if bb (bb (bb (c-a)*bb (y-b))-bb (bb (d-b)*bb (x-a)))>0 then 1 else if bb (bb (bb (c-a)*bb (y-b))-bb (bb (d-b)*bb (x-a)))<0 then -1 else 0
def dG(p q a b c d:Int):Bool:=decide (min a c≤p)&&decide (p≤max a c)&&decide (min b d≤q)&&decide (q≤max b d)
def Iu(p q a b c d:Int):Bool:=(decide (p=a)&&decide (q=b))||(decide (p=c)&&decide (q=d))||(decide (fE a b c d p q=0)&&dG p q a b c d)
def qA(a b c d x y z t:Int):Bool:=Iu x y a b c d||Iu z t a b c d||Iu a b x y z t||Iu c d x y z t ||
 (decide (bb (fE a b c d x y*fE a b c d z t)<0)&&decide (bb (fE x y z t a b*fE x y z t c d)<0))
def qF(a b c d x y z t:Int):Bool:=(decide (bb (kn a b c d x y*kn a b c d z t)<0)&&decide (bb (kn x y z t a b*kn x y z t c d)<0)) ||
 (decide (kn a b c d x y=0)&&dG x y a b c d)||(decide (kn a b c d z t=0)&&dG z t a b c d)||(decide (kn x y z t a b=0)&&dG a b x y z t)||(decide (kn x y z t c d=0)&&dG c d x y z t)
theorem Uw(n id:Nat)(H:ab)(L:List (List SV))(fl:Bool)(p:List SV→Bool)(hr:∀r∈L,r.length=2)(hm:L.length≤maxLen)
 (hc:∀r∈L,∀H,aa T n (.fn id) [.agg r] H=some (.bool (p r),H)):aa T (n+1) (.fn 155) [.ao 2 L fl,.fn id []] H=some (af5 (eD p L),H):=by
 refine ae V2 (by rfl) ?_
 simp only[N3,ah,go_sem,Nat.reduceAdd,Nat.reduceBEq]
 refine ba (fun i=>([(0,.ao 2 L fl),(1,.fn id []),(7,af5 L.length),(8,af5 i)],⟨[],[],0⟩)) (fun i=>∀(j:Nat) r,j<i→L[j]?=some r→p r=false) L.length ?_ (fun j r h=>by omega) ?_
 ·simp only[go_sem,Nat.reduceAdd,Nat.reduceBEq,Nat.reduceLeDiff]<;>rfl
 ·intro i hi hP
  have hm:maxLen=maxLen:=rfl
  rcases acz i L.length with hlt|hge
  ·obtain⟨r,hr'⟩:∃r,L[i]?=some r:=⟨L[i],acK hlt⟩
   have hmem:=acy hr'
   have h1:=hr _ hmem
   have ht:List.take 2 r=r:=ac1 (by omega)
   have hw:bb ((i:Int)+1)=((i+1:Nat):Int):=by
    rw[al]<;>simp[maxLen]at * <;>omega
   cases hp:p r with
   |true=>
    have hx:=mb hr' hp hP
    simp only[go_sem,Nat.reduceAdd,Nat.reduceBEq,Nat.reduceLeDiff,hlt,hr',hc r hmem,hw,h1,ht,hp,hx]
   |false=>
    simp only[go_sem,Nat.reduceAdd,Nat.reduceBEq,Nat.reduceLeDiff,hlt,hr',hc r hmem,hw,h1,ht,hp]
    refine⟨trivial,trivial,fun j r' hj hr2=>?_⟩
    rcases acz j i with hlt2|hge2
    ·exact hP j r' hlt2 hr2
    ·have:j=i:=by omega
     subst this
     rw[hr']at hr2
     cases hr2
     exact hp
  ·have hlt:¬i<L.length:=by omega
   have hx:eD p L= -1:=ig (fun j a hj=>hP j a (by have:=(acm.1 hj).1;omega) hj)
   simp only[go_sem,Nat.reduceAdd,Nat.reduceBEq,Nat.reduceLeDiff,hlt,hx]
theorem WH(n id:Nat)(H:ab)(L:List (List SV))(fl:Bool)(p:List SV→Bool)(hr:∀r∈L,∃x,r=[x])(hm:L.length≤maxLen)
 (hc:∀r∈L,∀H,aa T n (.fn id) [r.headD .undef] H=some (.bool (p r),H)):aa T (n+1) (.fn 156) [.ao 1 L fl,.fn id []] H=some (af5 (eD p L),H):=by
 refine ae Wi (by rfl) ?_
 simp only[NX,ah,go_sem,Nat.reduceAdd,Nat.reduceBEq]
 refine ba (fun i=>([(0,.ao 1 L fl),(1,.fn id []),(7,af5 L.length),(8,af5 i)],⟨[],[],0⟩)) (fun i=>∀(j:Nat) r,j<i→L[j]?=some r→p r=false) L.length ?_ (fun j r h=>by omega) ?_
 ·simp only[go_sem,Nat.reduceAdd,Nat.reduceBEq,Nat.reduceLeDiff]<;>rfl
 ·intro i hi hP
  have hm:maxLen=maxLen:=rfl
  rcases acz i L.length with hlt|hge
  ·obtain⟨r,hr'⟩:∃r,L[i]?=some r:=⟨L[i],acK hlt⟩
   have hmem:=acy hr'
   have h1:=hr _ hmem
   obtain⟨x,rfl⟩:=h1
   have hcr:=hc _ hmem
   simp only[List.headD_cons]at hcr
   have hw:bb ((i:Int)+1)=((i+1:Nat):Int):=by
    rw[al]<;>simp[maxLen]at * <;>omega
   cases hp:p [x]with
   |true=>
    have hx:=mb hr' hp hP
    simp only[go_sem,Nat.reduceAdd,Nat.reduceBEq,Nat.reduceLeDiff,hlt,hr',hcr,hw,hp,hx]
   |false=>
    simp only[go_sem,Nat.reduceAdd,Nat.reduceBEq,Nat.reduceLeDiff,hlt,hr',hcr,hw,hp]
    refine⟨trivial,trivial,fun j r' hj hr2=>?_⟩
    rcases acz j i with hlt2|hge2
    ·exact hP j r' hlt2 hr2
    ·have:j=i:=by omega
     subst this
     rw[hr']at hr2
     cases hr2
     exact hp
  ·have hlt:¬i<L.length:=by omega
   have hx:eD p L= -1:=ig (fun j a hj=>hP j a (by have:=(acm.1 hj).1;omega) hj)
   simp only[go_sem,Nat.reduceAdd,Nat.reduceBEq,Nat.reduceLeDiff,hlt,hx]
def dt(L:List (Int×Int)):List (List SV):=L.map fun p=>[af5 p.1,af5 p.2]
theorem wP{L:List (Int×Int)}:∀r∈dt L,r.length=2:=by
 intro r hr;simp only[dt,adt]at hr;obtain⟨p,_,rfl⟩:=hr;rfl
theorem Eb{p:List SV→Bool}{q:Int×Int→Bool}(h:∀a b,p [af5 a,af5 b]=q (a,b))(L:List (Int×Int)):(dt L).any p=L.any q:=by
 induction L with
 |nil=>rfl
 |cons a l ih=>simp only[dt,ada,afj,h]at *;rw[ih]
theorem XD(n id:Nat)(H:ab)(L:List (List SV))(fl:Bool)(p:List SV→Bool)(hr:∀r∈L,r.length=2)(hm:L.length≤maxLen)
 (hc:∀r∈L,∀H,aa T n (.fn id) [.agg r] H=some (.bool (p r),H)):aa T (n+2) (.fn 108) [.ao 2 L fl,.fn id []] H=some (.bool (L.any p),H):=by
 refine ae TA (by rfl) ?_
 simp only[Nm,ah,go_sem,Nat.reduceAdd,Nat.reduceBEq,Uw n id _ L fl p hr hm hc,iw]
theorem VG(n id:Nat)(H:ab)(L:List (List SV))(fl:Bool)(p:List SV→Bool)(hr:∀r∈L,∃x,r=[x])(hm:L.length≤maxLen)
 (hc:∀r∈L,∀H,aa T n (.fn id) [r.headD .undef] H=some (.bool (p r),H)):aa T (n+2) (.fn 109) [.ao 1 L fl,.fn id []] H=some (.bool (L.any p),H):=by
 refine ae W9 (by rfl) ?_
 simp only[Lt,ah,go_sem,Nat.reduceAdd,Nat.reduceBEq,WH n id _ L fl p hr hm hc,iw]
def kq(a:Int):Prop:= -20000≤a∧a≤20000
theorem Mb{u v:Int}(hu:u.natAbs≤40000)(hv:v.natAbs≤40000):(u*v).natAbs≤1600000000:=by
 rw[Int.natAbs_mul];exact afP hu hv
theorem qk{a b c d x y:Int}(ha:kq a)(hb:kq b)(hc:kq c)(hd:kq d)(hx:kq x)(hy:kq y):kn a b c d x y=fE a b c d x y:=by
 unfold kq at *
 have e1:bb (c-a)=c-a:=al (by omega) (by omega)
 have e2:bb (y-b)=y-b:=al (by omega) (by omega)
 have e3:bb (d-b)=d-b:=al (by omega) (by omega)
 have e4:bb (x-a)=x-a:=al (by omega) (by omega)
 have b1:=Mb (u:=c-a) (v:=y-b) (by omega) (by omega)
 have b2:=Mb (u:=d-b) (v:=x-a) (by omega) (by omega)
 unfold kn fE p8
 rw[e1,e2,e3,e4]
 generalize (c-a)*(y-b)=P at *
 generalize (d-b)*(x-a)=Q at *
 have e5:bb P=P:=al (by omega) (by omega)
 have e6:bb Q=Q:=al (by omega) (by omega)
 have e7:bb (P-Q)=P-Q:=al (by omega) (by omega)
 rw[e5,e6,e7]
 repeat' split
 all_goals omega
theorem xy(P:Int):p8 P P=0:=by unfold p8;rw[if_neg (by omega),if_neg (by omega)]
theorem N6(p q a b c d:Int):Iu p q a b c d=(decide (fE a b c d p q=0)&&dG p q a b c d):=by
 unfold Iu
 rw[adz]
 simp only[adw,acw,acr]
 constructor
 ·rintro((⟨rfl,rfl⟩|⟨rfl,rfl⟩)|h)
  ·refine⟨?_,?_⟩
   ·unfold fE
    have:bb 0=0:=by decide
    simp only[Int.sub_self,this,Int.mul_zero,xy]
   ·unfold dG;simp only[acw,acr];omega
  ·refine⟨?_,?_⟩
   ·unfold fE
    rw[afy (bb (q-b)),xy]
   ·unfold dG;simp only[acw,acr];omega
  ·exact h
 ·exact fun h=>.inr h
theorem Cr{a b c d x y z t:Int}(ha:kq a)(hb:kq b)(hc:kq c)(hd:kq d)(hx:kq x)(hy:kq y)(hz:kq z)(ht:kq t):qA a b c d x y z t=qF a b c d x y z t:=by
 unfold qA qF
 simp only[N6,qk ha hb hc hd hx hy,qk ha hb hc hd hz ht,qk hx hy hz ht ha hb,qk hx hy hz ht hc hd]
 generalize (decide (fE a b c d x y=0)&&dG x y a b c d)=A
 generalize (decide (fE a b c d z t=0)&&dG z t a b c d)=B
 generalize (decide (fE x y z t a b=0)&&dG a b x y z t)=C
 generalize (decide (fE x y z t c d=0)&&dG c d x y z t)=D
 generalize (decide (bb (fE a b c d x y*fE a b c d z t)<0)&&decide (bb (fE x y z t a b*fE x y z t c d)<0))=E
 cases A<;>cases B<;>cases C<;>cases D<;>cases E<;>rfl
structure Wl where
 a:Int
 b:Int
 c:Int
 d:Int
 f:Int
abbrev Si(w:Wl):List SV:=[af5 w.a,af5 w.b,af5 w.c,af5 w.d,af5 w.f]
def eX(W:List Wl):List (List SV):=W.map Si
def cY(P:List Int):List (List SV):=P.map fun p=>[af5 p]
@[go_sem] theorem Et {W:List Wl}:(eX W).length=W.length:=by simp[eX]
@[go_sem] theorem AS {W:List Int}:(cY W).length=W.length:=by simp[cY]
@[go_sem] theorem aM {W:List (Int×Int)}:(dt W).length=W.length:=by simp[dt]
abbrev st(N:List (Int×Int))(P:List Int)(W:List Wl)(f1 f2 f3:Bool)(ex no th:Int):SV:=.agg [.ao 2 (dt N) f1,.ao 1 (cY P) f2,.ao 5 (eX W) f3,af5 ex,af5 no,af5 th]
def bU(a b:Int):Bool:=decide (0≤a)&&decide (a≤10000)&&decide (0≤b)&&decide (b≤10000)
theorem II(n:Nat)(H:ab)(a b:Int):aa T (n+1) (.fn 107) [pt a b] H=some (.bool (bU a b),H):=by
 refine ae Uo (by rfl) ?_
 simp only[Qp,ah,go_sem,simprocAttr]
 repeat' (with_reducible refine aD (fun _=>?_) (fun _=>?_)<;>simp only[*,go_sem,simprocAttr])
 all_goals (simp only[acr,acx]at *;simp only[bU];congr 2;rw[adz];simp only[acw,acr,adh,false_iff];omega)
def cM(n:Int):Bool:=decide (0≤n)&&decide (n≤68719476736)
theorem IH(n:Nat)(H:ab)(a:Int):aa T (n+1) (.fn 111) [af5 a] H=some (.bool (cM a),H):=by
 refine ae SJ (by rfl) ?_
 simp only[Mm,ah,go_sem,simprocAttr]
 repeat' (with_reducible refine aD (fun _=>?_) (fun _=>?_)<;>simp only[*,go_sem,simprocAttr])
 all_goals (simp only[cM];grind)
theorem I8(n:Nat)(H:ab)(a:Int):aa T (n+1) (.fn 130) [af5 a] H=some (.bool (cM a),H):=by
 refine ae Qa (by rfl) ?_
 simp only[Jr,ah,go_sem,simprocAttr]
 repeat' (with_reducible refine aD (fun _=>?_) (fun _=>?_)<;>simp only[*,go_sem,simprocAttr])
 all_goals (simp only[cM];grind)
theorem JD(n:Nat)(H:ab)(a b:Int):aa T (n+2) (.fn 106) [pt a b] H=some (.bool (!bU a b),H):=by
 refine ae Tk (by rfl) ?_
 simp only[Nx,ah,go_sem,simprocAttr,II]
theorem So(n:Nat)(H:ab)(a:Int):aa T (n+2) (.fn 110) [af5 a] H=some (.bool (!cM a),H):=by
 refine ae S7 (by rfl) ?_
 simp only[P3,ah,go_sem,simprocAttr,IH]
theorem xQ(n:Nat)(H:ab)(a b:Int):aa T (n+1) (.fn 129) [pt a b] H=some (.bool (bU a b),H):=by
 refine ae Np (by rfl) ?_
 simp only[Kj,ah,go_sem,simprocAttr]
 repeat' (with_reducible refine aD (fun _=>?_) (fun _=>?_)<;>simp only[*,go_sem,simprocAttr])
 all_goals (simp only[bU];grind)
def mK(t m:Int):Bool:=decide (1000≤t)&&decide (t≤100000)&&decide (1≤m)&&decide (m≤68719476736)
theorem LH(n:Nat)(H:ab)(t m:Int):aa T (n+1) (.fn 128) [af5 t,af5 m] H=some (.bool (mK t m),H):=by
 refine ae XA (by rfl) ?_
 simp only[MD,ah,go_sem,simprocAttr]
 repeat' (with_reducible refine aD (fun _=>?_) (fun _=>?_)<;>simp only[*,go_sem,simprocAttr])
 all_goals (simp only[mK];grind)
def yi(p f:Int):Bool:=cM p&&decide (0≤f)&&decide (f≤1000)
def Jg(p f:Int):Int:=if yi p f=true then bb ((bb (p*f)).tdiv 1000)else 0
def R0(p f:Int):Int:=if yi p f=true then 0 else 2
def GM(N:List (Int×Int))(P:List Int)(W:List Wl):Bool:=decide (N.length≤40)&&decide (P.length≤40)&&decide (W.length≤40)
theorem s86(n:Nat)(H:ab)(N P W f1 f2 f3 ex no th):aa T (n+1) (.fn 86) [st N P W f1 f2 f3 ex no th] H=some (.bool (GM N P W),H):=by
 refine ae Z7 (by rfl) ?_
 simp only[YM,ah,go_sem,simprocAttr,Et,AS,aM]
 repeat' (with_reducible refine aD (fun _=>?_) (fun _=>?_)<;>simp only[*,go_sem,simprocAttr])
 all_goals (simp only[GM];refine congrArg some (congrArg SV.bool ?_);rw[adz];grind)
def X7(a b c d:Int):Int:=bb (bb (bb (a-c)*bb (a-c))+bb (bb (b-d)*bb (b-d)))
theorem C7(a b c d:Int):bb (bb (bb (a-c)*bb (a-c))+bb (bb (b-d)*bb (b-d)))=X7 a b c d:=rfl
def mI(a b c d:Int):Int:=max (X7 a b c d) 100
theorem HE(a b c d:Int):max (X7 a b c d) 100=mI a b c d:=rfl
theorem HB(a b c d:Int):decide (mI a b c d=0)=false:=by
 have:100≤mI a b c d:=Int.le_max_right _ _
 rw[acx];omega
def kU(ex a b p c d:Int):Int:=let p1:=bb ((bb (p*100)).tdiv (mI a b c d));if ex=4 then bb ((bb (p1*100)).tdiv (mI a b c d))else p1
def jf(a b c d p:Int)(w:Wl):Int:=if qF a b c d w.a w.b w.c w.d=true then bb ((bb (p*w.f)).tdiv 1000)else p
def atR(W:List Wl)(ex a b p c d:Int):Int:=W.foldl (jf a b c d) (kU ex a b p c d)
theorem ij{A B:Type}(f:A→B→A)(z:A){l:List B}{i:Nat}{x:B}(h:l[i]?=some x):(l.take (i+1)).foldl f z=f ((l.take i).foldl f z) x:=by
 rw[adP,h];simp
@[go_sem] theorem Ok (W:List Wl)(i:Nat):(eX W)[i]?=(W[i]?).map Si:=by simp[eX]
@[go_sem] theorem K8 (W:List Int)(i:Nat):(cY W)[i]?=(W[i]?).map (fun p=>[af5 p]):=by simp[cY]
@[go_sem] theorem Pz (W:List (Int×Int))(i:Nat):(dt W)[i]?=(W[i]?).map (fun p=>[af5 p.1,af5 p.2]):=by simp[dt]
theorem lE{i n:Nat}(h:i<n)(hn:n≤maxLen):bb ((i:Int)+1)=((i+1:Nat):Int):=by
 simp only[maxLen]at hn
 rw[al (by omega) (by omega)];omega
def my(a b c d p:Int)(w:Wl):Int:=if qA a b c d w.a w.b w.c w.d=true then Jg p w.f else p
theorem jn{A R:Type}{v:Option A}{f:A→Option R}{t:oH f}{r:Option R}(o:A)(h:v=some o)(k:f o=r):aN v f t=r:=by rw[h];exact k
def E1(W:List Wl)(ex a b p c d:Int):Int:=W.foldl (my a b c d) (kU ex a b p c d)
def jI(w:Wl):Bool:=!bU w.a w.b||!bU w.c w.d||decide (w.f<0)||decide (1000<w.f)
theorem UH(n:Nat)(X0:aC)(w:Wl):aa T (n+3) (.fn 113) [.agg (Si w),.ptr 1 0 0 0] ⟨[X0,.box [.fn 106 []]],[],0⟩=some (.bool (jI w),⟨[X0,.box [.fn 106 []]],[],0⟩):=by
 refine bm S8 (by rfl) ?_
 simp only[N5,go_sem,simprocAttr,JD]
 repeat' (with_reducible refine aD (fun _=>?_) (fun _=>?_)<;>simp only[*,go_sem,simprocAttr,JD])
 all_goals (simp only[jI];grind)
theorem TQ(n id:Nat)(X0 X1:aC)(L:List (List SV))(fl:Bool)(p:List SV→Bool)(hr:∀r∈L,r.length=5)(hm:L.length≤maxLen)
 (hc:∀r∈L,aa T n (.fn id) [.agg r,.ptr 1 0 0 0] ⟨[X0,X1],[],0⟩=some (.bool (p r),⟨[X0,X1],[],0⟩)) :
 aa T (n+1) (.fn 157) [.ao 5 L fl,.fn id [.ptr 1 0 0 0]] ⟨[X0,X1],[],0⟩=some (af5 (eD p L),⟨[X0,X1],[],0⟩):=by
 refine bm Wy (by rfl) ?_
 simp only[Ng,go_sem,simprocAttr]
 refine ba (fun i=>([(0,.ao 5 L fl),(1,.fn id [.ptr 1 0 0 0]),(7,af5 L.length),(8,af5 i)],⟨[X0,X1],[],0⟩)) (fun i=>∀(j:Nat) r,j<i→L[j]?=some r→p r=false) L.length ?_ (fun j r h=>by omega) ?_
 ·simp only[go_sem,simprocAttr]
  rfl
 ·intro i hi hP
  rcases acz i L.length with hlt|hge
  ·obtain⟨r,hr'⟩:∃r,L[i]?=some r:=⟨L[i],acK hlt⟩
   have hmem:=acy hr'
   have h1:=hr _ hmem
   have ht:List.take 5 r=r:=ac1 (by omega)
   have hw:=lE hlt hm
   cases hp:p r with
   |true=>
    have hx:=mb hr' hp hP
    simp only[go_sem,simprocAttr,hlt,hr',hc r hmem,hw,h1,ht,hp,hx]
   |false=>
    simp only[go_sem,simprocAttr,hlt,hr',hc r hmem,hw,h1,ht,hp]
    refine⟨trivial,rfl,fun j r' hj hr2=>?_⟩
    rcases acz j i with hlt2|hge2
    ·exact hP j r' hlt2 hr2
    ·have:j=i:=by omega
     subst this
     rw[hr']at hr2
     cases hr2
     exact hp
  ·have hlt:¬i<L.length:=by omega
   have hx:eD p L= -1:=ig (fun j a hj=>hP j a (by have:=(acm.1 hj).1;omega) hj)
   simp only[go_sem,simprocAttr,hlt,hx]
theorem Tj(n id:Nat)(X0 X1:aC)(L:List (List SV))(fl:Bool)(p:List SV→Bool)(hr:∀r∈L,r.length=5)(hm:L.length≤maxLen)
 (hc:∀r∈L,aa T n (.fn id) [.agg r,.ptr 1 0 0 0] ⟨[X0,X1],[],0⟩=some (.bool (p r),⟨[X0,X1],[],0⟩)) :
 aa T (n+2) (.fn 112) [.ao 5 L fl,.fn id [.ptr 1 0 0 0]] ⟨[X0,X1],[],0⟩=some (.bool (L.any p),⟨[X0,X1],[],0⟩):=by
 refine bm XJ (by rfl) ?_
 simp only[Mx,go_sem,simprocAttr,TQ n id X0 X1 L fl p hr hm hc,iw]
def PZ(r:List SV):Wl:=match r with|[.int _ a,.int _ b,.int _ c,.int _ d,.int _ f]=>⟨a,b,c,d,f⟩|_=>⟨0,0,0,0,0⟩
theorem any_map'{A B:Type}(f:A→B)(p:B→Bool)(q:A→Bool)(h:∀a,p (f a)=q a)(l:List A):(l.map f).any p=l.any q:=by
 induction l with
 |nil=>rfl
 |cons a l ih=>simp only[ada,afj,h,ih]
def YX(r:List SV):Bool:=match r with|[.int _ a,.int _ b]=>!bU a b|_=>false
def Y7(r:List SV):Bool:=match r with|[.int _ a]=>!cM a|_=>false
def okB(n p w:Nat)(A B C:Bool)(ex no th:Int):Bool:=decide (2≤n)&&decide (n≤32)&&!A&&decide (p=n)&&!B&&decide (w≤32)&&!C&&(decide (ex=2)||decide (ex=4))&&mK th no
def gh(N:List (Int×Int))(P:List Int)(W:List Wl)(ex no th:Int):Bool:=okB N.length P.length W.length (N.any (fun p=>!bU p.1 p.2)) (P.any (fun p=>!cM p)) (W.any jI) ex no th
def qL(N:List (Int×Int))(P:List Int)(W:List Wl)(ex no th:Int):Int:=bif gh N P W ex no th then 0 else 1
theorem KD(n:Nat)(H:ab)(N P W f1 f2 f3 ex no th)(hN:N.length≤maxLen)(hP:P.length≤maxLen)(hW:W.length≤maxLen):aa T (n+6) (.fn 61) [st N P W f1 f2 f3 ex no th] H=some (af5 (qL N P W ex no th),H):=by
 refine ae Z8 (by rfl) ?_
 have h38:=fun H=>XD (n+3) (id:=106) H (dt N) f1 YX wP (by simpa[dt]using hN) (fun r hr H=>by
  simp only[dt,adt]at hr;obtain⟨p,_,rfl⟩:=hr;exact JD (n+1) H p.1 p.2)
 have h48:=fun H=>VG (n+3) (id:=110) H (cY P) f2 Y7 (fun r hr=>by simp only[cY,adt]at hr;obtain⟨p,_,rfl⟩:=hr;exact⟨_,rfl⟩) (by simpa[cY]using hP) (fun r hr H=>by
  simp only[cY,adt]at hr;obtain⟨p,_,rfl⟩:=hr;exact So (n+1) H p)
 have h50:=fun X0=>Tj (n+3) (id:=113) X0 (.box [.fn 106 []]) (eX W) f3 (fun r=>jI (PZ r)) (fun r hr=>by simp only[eX,adt]at hr;obtain⟨p,_,rfl⟩:=hr;rfl) (by simpa[eX]using hW) (fun r hr=>by
  simp only[eX,adt]at hr;obtain⟨w,_,rfl⟩:=hr;exact UH n X0 w)
 have a38:(dt N).any YX=N.any (fun p=>!bU p.1 p.2):=any_map' _ _ _ (fun _=>rfl) N
 have a48:(cY P).any Y7=P.any (fun p=>!cM p):=any_map' _ _ _ (fun _=>rfl) P
 have a50:(eX W).any (fun r=>jI (PZ r))=W.any jI:=any_map' _ _ _ (fun _=>rfl) W
 rw[a38]at h38
 rw[a48]at h48
 simp only[a50]at h50
 simp only[YG,ah,go_sem,simprocAttr,h38]
 repeat' (with_reducible refine aD (fun _=>?_) (fun _=>?_)<;>simp only[*,go_sem,simprocAttr,h38,h48,h50])
 all_goals
  clear h38 h48 h50 a38 a48 a50
  refine congrArg some (congrArg (SV.int .i64) ?_)
  simp only[qL,gh]
  generalize (N.any fun p=>!bU p.fst p.snd)=A at *
  generalize (P.any fun p=>!cM p)=B at *
  generalize W.any jI=C at *
  generalize N.length=ln at *
  generalize P.length=lp at *
  generalize W.length=lw at *
  generalize hq:okB ln lp lw A B C ex no th=q
  simp only[okB,mK]at hq
  cases q<;>simp only[acG,acJ]<;>grind
theorem rM{A:Type}{q:A→Bool}{l:List A}{i:Nat}{a:A}(h:l[i]?=some a)(hp:q a=true):l.any q=true:=adT.2 ⟨a,acy h,hp⟩
theorem yj{A:Type}{q:A→Bool}{l:List A}(h:∀(i:Nat) a,l[i]?=some a→q a=false):l.any q=false:=by
 rw[List.any_eq_false]
 intro a ha
 obtain⟨i,hi⟩:=aeJ.1 ha
 rw[h i a hi];simp
theorem get_some{A:Type}{l:List A}{i:Nat}(h:i<l.length):∃a,l[i]?=some a:=⟨l[i],acK h⟩
theorem yG{N:List (Int×Int)}{P:List Int}{W:List Wl}{ex no th:Int}(h:gh N P W ex no th=false):qL N P W ex no th=1:=by simp only[qL,h,acJ]
theorem FC{N:List (Int×Int)}{P:List Int}{W:List Wl}{ex no th:Int}(h:gh N P W ex no th=true):qL N P W ex no th=0:=by simp only[qL,h,acG]
theorem Hk{N:List (Int×Int)}{P:List Int}{W:List Wl}{ex no th:Int}{i:Nat}{p:Int×Int}(h:N[i]?=some p)(hp:bU p.1 p.2=false):gh N P W ex no th=false:=by
 have:(N.any fun p=>!bU p.1 p.2)=true:=rM h (by simp[hp])
 simp only[gh,this,okB,adp,adk,ac3]
theorem Gr{N:List (Int×Int)}{P:List Int}{W:List Wl}{ex no th:Int}{i:Nat}{p:Int}(h:P[i]?=some p)(hp:cM p=false):gh N P W ex no th=false:=by
 have:(P.any fun p=>!cM p)=true:=rM h (by simp[hp])
 simp only[gh,this,okB,adp,adk,ac3]
theorem Gn{N:List (Int×Int)}{P:List Int}{W:List Wl}{ex no th:Int}{i:Nat}{p:Wl}(h:W[i]?=some p)(hp:jI p=true):gh N P W ex no th=false:=by
 have:W.any jI=true:=rM h hp
 simp only[gh,this,okB,adp,adk,ac3]
theorem s75(n:Nat)(H:ab)(N P W f1 f2 f3 ex no th)(hW:W.length≤maxLen)(hN:N.length≤maxLen):aa T (n+6) (.fn 75) [st N P W f1 f2 f3 ex no th] H=some (af5 (qL N P W ex no th),H):=by
 refine ae e75 (by rfl) ?_
 simp only[YE,ah,go_sem,simprocAttr,LH]
 repeat' (with_reducible refine aD (fun _=>?_) (fun _=>?_)<;>simp only[*,go_sem,simprocAttr,LH])
 all_goals try (
  with_reducible refine congrArg some (congrArg (SV.int .i64) ?_)
  simp only[qL,gh]
  generalize (N.any fun p=>!bU p.fst p.snd)=A at *
  generalize (P.any fun p=>!cM p)=B at *
  generalize W.any jI=C at *
  generalize N.length=ln at *
  generalize P.length=lp at *
  generalize W.length=lw at *
  generalize hq:okB ln lp lw A B C ex no th=q
  simp only[okB,mK]at *
  cases q<;>simp only[acG,acJ]<;>grind)
 all_goals
  refine ba (fun i=>([(1,.ptr 0 0 0 0),(3,af5 N.length),(4,af5 i)],⟨[.box [.ao 2 (dt N) f1,.ao 1 (cY P) f2,.ao 5 (eX W) f3,af5 ex,af5 no,af5 th]],[],0⟩))
   (fun i=>∀(j:Nat),j<i→(∀p,N[j]?=some p→bU p.1 p.2=true)∧(∀p,P[j]?=some p→cM p=true)) N.length ?_ (fun j h=>by omega) ?_
  ·simp only[go_sem,simprocAttr]
   rfl
  ·intro i hi hI
   have hlen:P.length=N.length:=by simp_all;omega
   rcases acz i N.length with hlt|hge
   ·obtain⟨p,hp⟩:=get_some hlt
    obtain⟨q,hq⟩:=get_some (l:=P) (i:=i) (by omega)
    have hlt2:i<P.length:=by omega
    have hs:=lE hlt hN
    cases h1:bU p.1 p.2 with
    |false=>simp only[go_sem,simprocAttr,hlt,hp,xQ,h1,yG (Hk hp h1)]
    |true=>
     cases h2:cM q with
     |false=>simp only[go_sem,simprocAttr,hlt,hlt2,hp,hq,xQ,I8,h1,h2,yG (Gr hq h2)]
     |true=>
      simp only[go_sem,simprocAttr,hlt,hlt2,hp,hq,xQ,I8,h1,h2,hs]
      refine⟨trivial,rfl,fun j hj=>?_⟩
      rcases acz j i with h3|h3
      ·exact hI j h3
      ·have:j=i:=by omega
       subst this
       exact⟨fun p' hp'=>by rw[hp]at hp';cases hp';exact h1,fun p' hp'=>by rw[hq]at hp';cases hp';exact h2⟩
   ·have hlt:¬i<N.length:=by omega
    simp only[go_sem,simprocAttr,hlt]
    refine ba (fun i=>([(1,.ptr 0 0 0 0),(5,af5 i)],⟨[.box [.ao 2 (dt N) f1,.ao 1 (cY P) f2,.ao 5 (eX W) f3,af5 ex,af5 no,af5 th]],[],0⟩))
     (fun i=>∀(j:Nat),j<i→(∀p,W[j]?=some p→jI p=false)) W.length ?_ (fun j h=>by omega) ?_
    ·simp only[go_sem,simprocAttr]
     rfl
    ·intro k hk hK
     rcases acz k W.length with hlt3|hge3
     ·obtain⟨w,hw⟩:=get_some hlt3
      have hs:=lE hlt3 hW
      cases h1:jI w with
      |true=>
       have hb:=h1
       simp only[jI]at hb
       have hch:=yG (N:=N) (P:=P) (ex:=ex) (no:=no) (th:=th) (Gn hw h1)
       simp only[go_sem,simprocAttr,hlt3,hw,xQ,hch]
       repeat' (with_reducible refine oO (fun _=>?_) (fun _=>?_)<;>simp only[*,go_sem,simprocAttr,xQ])
       all_goals (exfalso;simp_all)
      |false=>
       have hb:=h1
       simp only[jI,Bool.or_eq_false_iff]at hb
       obtain⟨⟨⟨b1,b2⟩,b3⟩,b4⟩:=hb
       simp only[go_sem,simprocAttr,hlt3,hw,xQ,b1,b2,b3,b4,hs]
       refine⟨trivial,rfl,fun j hj=>?_⟩
       rcases acz j k with h3|h3
       ·exact hK j h3
       ·have:j=k:=by omega
        subst this
        exact fun p' hp'=>by rw[hw]at hp';cases hp';exact h1
     ·have hlt3:¬k<W.length:=by omega
      have hA:(N.any fun p=>!bU p.1 p.2)=false:=yj (fun j p hj=>by
       have:=(hI j (by have:=(acm.1 hj).1;omega)).1 p hj
       simp[this])
      have hB:(P.any fun p=>!cM p)=false:=yj (fun j p hj=>by
       have:=(hI j (by have:=(acm.1 hj).1;omega)).2 p hj
       simp[this])
      have hC:W.any jI=false:=yj (fun j p hj=>hK j (by have:=(acm.1 hj).1;omega) p hj)
      have hok:gh N P W ex no th=true:=by
       simp only[gh,hA,hB,hC,okB,mK]at *
       simp_all
       omega
      simp only[go_sem,simprocAttr,hlt3,FC hok]
@[go_sem] theorem abR (N P W ex no th):decide (qL N P W ex no th=0)=gh N P W ex no th:=by
  unfold qL;cases gh N P W ex no th<;>rfl
def oK(a b p c d:Int):Bool:=bU a b&&bU c d&&cM p
def o5(v:Int)(ok arg:Bool):Int:=bif ok&&arg then v else 0
def vE(ok arg:Bool)(e:Int):Int:=bif ok then(bif arg then 0 else e)else 1
def pC(N:List (Int×Int))(x y:Int):Bool:=decide (0≤x)&&decide (x<N.length)&&decide (0≤y)&&decide (y<N.length)
def nd(N:List (Int×Int))(i:Nat):Int×Int:=N.getD i (0,0)
def p7(at1:Int→Int→Int→Int→Int→Int)(N:List (Int×Int))(P:List Int)(x y:Int):Int:=
 bif decide (x=y)then 0 else at1 (nd N x.toNat).1 (nd N x.toNat).2 (P.getD x.toNat 0) (nd N y.toNat).1 (nd N y.toNat).2
theorem uD{N:List (Int×Int)}{P:List Int}{W:List Wl}{ex no th:Int}(h:gh N P W ex no th=true):P.length=N.length∧N.length≤32∧W.length≤32∧2≤N.length:=by
 simp only[gh,okB,acw,acr]at h
 omega
theorem l5{N:List (Int×Int)}{x y:Int}:pC N x y=true↔(0≤x∧x<N.length)∧0≤y∧y<N.length:=by
 simp only[pC,acw,acr,and_assoc]
theorem j9{p:Int}:cM p=true↔0≤p∧p≤68719476736:=by simp only[cM,acw,acr]
theorem CH{p m:Int}(hp:cM p=true)(hm:100≤m):cM (bb ((bb (p*100)).tdiv m))=true∧bb ((bb (p*100)).tdiv m)=p*100/m:=by
 rw[j9]at hp
 have e1:bb (p*100)=p*100:=al (by omega) (by omega)
 have e2:(p*100).tdiv m=p*100/m:=ad4 (by omega)
 have h0:0≤p*100/m:=Int.ediv_nonneg (by omega) (by omega)
 have h1:p*100/m≤p:=Int.ediv_le_of_le_mul (by omega) (adQ hm hp.1)
 have e3:bb (p*100/m)=p*100/m:=al (by omega) (by omega)
 rw[e1,e2,e3]
 exact⟨j9.2 (by omega),rfl⟩
theorem HV(a b c d:Int):100≤mI a b c d:=Int.le_max_right _ _
theorem Bb{ex a b p c d:Int}(hp:cM p=true):cM (kU ex a b p c d)=true:=by
 have h1:=(CH hp (HV a b c d)).1
 have h2:=(CH h1 (HV a b c d)).1
 simp only[kU]
 split
 ·exact h2
 ·exact h1
theorem DZ{p f:Int}(hp:cM p=true)(h0:0≤f)(h1:f≤1000):bb ((bb (p*f)).tdiv 1000)=p*f/1000∧0≤p*f/1000∧p*f/1000≤p:=by
 rw[j9]at hp
 have k0:0≤p*f:=afQ hp.1 h0
 have k1:p*f≤p*1000:=adQ h1 hp.1
 have e1:bb (p*f)=p*f:=al (by omega) (by omega)
 rw[e1,ad4 k0]
 have e3:bb (p*f/1000)=p*f/1000:=al (by omega) (by omega)
 rw[e3]
 omega
theorem Eo{w:Wl}:jI w=false↔bU w.a w.b=true∧bU w.c w.d=true∧0≤w.f∧w.f≤1000:=by
 simp only[jI,Bool.or_eq_false_iff,aeY,acx,and_assoc,Int.not_lt]
theorem eE{a b:Int}(h:bU a b=true):kq a∧kq b:=by
 simp only[bU,acw,acr]at h
 unfold kq
 omega
theorem step_eq{a b c d p:Int}{w:Wl}(h1:bU a b=true)(h2:bU c d=true)(hp:cM p=true)(hw:jI w=false):my a b c d p w=jf a b c d p w∧cM (jf a b c d p w)=true∧jf a b c d p w≤p:=by
 obtain⟨k1,k2,k3,k4⟩:=Eo.1 hw
 have hc:=Cr (eE h1).1 (eE h1).2 (eE h2).1 (eE h2).2 (eE k1).1 (eE k1).2 (eE k2).1 (eE k2).2
 have hs:=DZ hp k3 k4
 have hok:yi p w.f=true:=by simp only[yi,hp,ac9,acw,acr];exact⟨k3,k4⟩
 unfold my jf
 rw[hc]
 split
 ·simp only[Jg,hok,if_true]
  rw[hs.1]
  rw[j9]at hp⊢
  exact⟨trivial,by omega,by omega⟩
 ·exact⟨rfl,hp,aeH _⟩
theorem fold_eq{a b c d:Int}(h1:bU a b=true)(h2:bU c d=true):∀(W:List Wl) (p:Int),cM p=true→W.any jI=false→W.foldl (my a b c d) p=W.foldl (jf a b c d) p∧cM (W.foldl (jf a b c d) p)=true∧W.foldl (jf a b c d) p≤p
 |[],p,hp,_=>⟨rfl,hp,aeH _⟩
 |w::W,p,hp,hW=>by
  simp only[afj,Bool.or_eq_false_iff]at hW
  obtain⟨e1,e2,e3⟩:=step_eq h1 h2 hp hW.1
  obtain⟨f1,f2,f3⟩:=fold_eq h1 h2 W _ e2 hW.2
  simp only[adB,e1]
  exact⟨f1,f2,by omega⟩
theorem vz{N:List (Int×Int)}{P:List Int}{W:List Wl}{ex no th:Int}(h:gh N P W ex no th=true):W.any jI=false∧(∀p∈N,bU p.1 p.2=true)∧(∀p∈P,cM p=true):=by
 simp only[gh,okB,acw,ac8]at h
 obtain⟨⟨⟨⟨⟨⟨⟨⟨_,_⟩,h1⟩,_⟩,h2⟩,_⟩,h3⟩,_⟩,_⟩:=h
 refine⟨h3,fun p hp=>?_,fun p hp=>?_⟩
 ·have:=List.any_eq_false.1 h1 p hp;simpa using this
 ·have:=List.any_eq_false.1 h2 p hp;simpa using this
theorem Dx{N:List (Int×Int)}{P:List Int}{W:List Wl}{ex no th a b p c d:Int}(h:gh N P W ex no th=true)(ha:oK a b p c d=true):E1 W ex a b p c d=atR W ex a b p c d∧cM (atR W ex a b p c d)=true:=by
 simp only[oK,acw]at ha
 obtain⟨⟨h1,h2⟩,h3⟩:=ha
 have:=fold_eq h1 h2 W _ (Bb (ex:=ex) (a:=a) (b:=b) (c:=c) (d:=d) h3) (vz h).1
 exact⟨this.1,this.2.1⟩
theorem Ke(N:List (Int×Int))(P:List Int)(W:List Wl)(ex no th a b p c d:Int):o5 (E1 W ex a b p c d) (gh N P W ex no th) (oK a b p c d)=o5 (atR W ex a b p c d) (gh N P W ex no th) (oK a b p c d):=by
 cases h:gh N P W ex no th with
 |false=>rfl
 |true=>
  cases h':oK a b p c d with
  |false=>rfl
  |true=>simp only[o5,ac9,acG,(Dx h h').1]
theorem uq{N:List (Int×Int)}{P:List Int}{W:List Wl}{ex no th x y:Int}(h:gh N P W ex no th=true)(hin:pC N x y=true):p7 (E1 W ex) N P x y=p7 (atR W ex) N P x y∧cM (p7 (atR W ex) N P x y)=true:=by
 have hl:=(uD h).1
 have hw:=vz h
 rw[l5]at hin
 obtain⟨p,hp⟩:=get_some (l:=N) (i:=x.toNat) (by omega)
 obtain⟨q,hq⟩:=get_some (l:=N) (i:=y.toNat) (by omega)
 obtain⟨r,hr⟩:=get_some (l:=P) (i:=x.toNat) (by omega)
 have harg:oK p.1 p.2 r q.1 q.2=true:=by
  simp only[oK,acw]
  exact⟨⟨hw.2.1 _ (acy hp),hw.2.1 _ (acy hq)⟩,hw.2.2 _ (acy hr)⟩
 have he:=Dx h harg
 simp only[p7,nd,adg,hp,hq,hr,ad3]
 cases decide (x=y)with
 |true=>exact⟨rfl,rfl⟩
 |false=>exact he
theorem Kd(N:List (Int×Int))(P:List Int)(W:List Wl)(ex no th x y:Int):o5 (p7 (E1 W ex) N P x y) (gh N P W ex no th) (pC N x y)=o5 (p7 (atR W ex) N P x y) (gh N P W ex no th) (pC N x y):=by
 cases h:gh N P W ex no th with
 |false=>rfl
 |true=>
  cases h':pC N x y with
  |false=>rfl
  |true=>simp only[o5,ac9,acG,(uq h h').1]
end G
namespace U
theorem Ru:T 158=some (jZ true 7):=Uz
theorem Zt:T 160=some (jZ true 6):=T5
theorem Zg:T 114=some (sW 158):=TC
theorem Ro:T 117=some (sW 160):=WS
def cr(c:Int):Bool:=decide (0≤c)&&decide (c<16)
theorem wg(n:Nat)(H:ab)(c:Int):aa T (n+1) (.fn 159) [af5 c] H=some (.bool (cr c),H):=by
 refine ae Wb (by rfl) ?_
 simp only[N8,ah,go_sem,simprocAttr]
 repeat' (with_reducible refine aD (fun _=>?_) (fun _=>?_)<;>simp only[*,go_sem,simprocAttr])
 all_goals (simp only[cr];refine congrArg some (congrArg SV.bool ?_);rw[adz];grind)
def JI(c:Int):Bool:=decide (0≤c)&&decide (c<32)
theorem Mg(n:Nat)(H:ab)(c:Int):aa T (n+1) (.fn 162) [af5 c] H=some (.bool (JI c),H):=by
 refine ae SK (by rfl) ?_
 simp only[Mn,ah,go_sem,simprocAttr]
 repeat' (with_reducible refine aD (fun _=>?_) (fun _=>?_)<;>simp only[*,go_sem,simprocAttr])
 all_goals (simp only[JI];refine congrArg some (congrArg SV.bool ?_);rw[adz];grind)
def Aj(c:Int):Bool:=decide (-1≤c)&&decide (c<32)
theorem MA(n:Nat)(H:ab)(c:Int):aa T (n+2) (.fn 161) [af5 c] H=some (.bool (Aj c),H):=by
 refine ae VC (by rfl) ?_
 simp only[M8,ah,go_sem,simprocAttr,Mg]
 repeat' (with_reducible refine aD (fun _=>?_) (fun _=>?_)<;>simp only[*,go_sem,simprocAttr,Mg])
 all_goals (simp only[Aj,JI];refine congrArg some (congrArg SV.bool ?_);rw[adz];grind)
def BY(a b:Int):Bool:=decide (0≤a)&&decide (a≤b)&&decide (b≤1099511627776)
theorem FT(n:Nat)(H:ab)(a b:Int):aa T (n+1) (.fn 163) [af5 a,af5 b] H=some (.bool (BY a b),H):=by
 refine ae UL (by rfl) ?_
 simp only[Ly,ah,go_sem,simprocAttr]
 repeat' (with_reducible refine aD (fun _=>?_) (fun _=>?_)<;>simp only[*,go_sem,simprocAttr])
 all_goals (simp only[BY];grind)
abbrev pt(a b:Int):SV:=.agg [af5 a,af5 b]
def bU(a b:Int):Bool:=decide (0≤a)&&decide (a≤10000)&&decide (0≤b)&&decide (b≤10000)
theorem xQ(n:Nat)(H:ab)(a b:Int):aa T (n+1) (.fn 129) [pt a b] H=some (.bool (bU a b),H):=by
 refine ae Np (by rfl) ?_
 simp only[Kj,ah,go_sem,simprocAttr]
 repeat' (with_reducible refine aD (fun _=>?_) (fun _=>?_)<;>simp only[*,go_sem,simprocAttr])
 all_goals (simp only[bU];grind)
def cM(n:Int):Bool:=decide (0≤n)&&decide (n≤68719476736)
theorem I8(n:Nat)(H:ab)(a:Int):aa T (n+1) (.fn 130) [af5 a] H=some (.bool (cM a),H):=by
 refine ae Qa (by rfl) ?_
 simp only[Jr,ah,go_sem,simprocAttr]
 repeat' (with_reducible refine aD (fun _=>?_) (fun _=>?_)<;>simp only[*,go_sem,simprocAttr])
 all_goals (simp only[cM];grind)
structure Fd where
 a:Int
 b:Int
 c:Int
 x:Int
 y:Int
 f:Int
abbrev Ie(w:Fd):List SV:=[af5 w.a,af5 w.b,af5 w.c,af5 w.x,af5 w.y,af5 w.f]
def BQ(w:Fd):Bool:=Aj w.a&&Aj w.b&&(decide (w.c= -1)||cr w.c)&&BY w.x w.y&&decide (0≤w.f)&&decide (w.f≤1000)
theorem VB(n:Nat)(H:ab)(w:Fd):aa T (n+3) (.fn 119) [.agg (Ie w)] H=some (.bool (BQ w),H):=by
 refine ae SC (by rfl) ?_
 simp only[Oy,ah,go_sem,simprocAttr,MA,wg,FT]
 repeat' (with_reducible refine aD (fun _=>?_) (fun _=>?_)<;>simp only[*,go_sem,simprocAttr,MA,wg,FT])
 all_goals (simp only[BQ];grind)
theorem Qd(n:Nat)(H:ab)(w:Fd):aa T (n+4) (.fn 118) [.agg (Ie w)] H=some (.bool (!BQ w),H):=by
 refine ae Wx (by rfl) ?_
 simp only[P6,ah,go_sem,simprocAttr,VB]
structure Src where
 a:Int
 b:Int
 p:Int
 C:List Int
 f:Bool
 kE:Int
 fr:Int
 to:Int
abbrev HT(s:Src):List SV:=[af5 s.a,af5 s.b,af5 s.p,.ao 1 (iS s.C) s.f,af5 s.kE,af5 s.fr,af5 s.to]
def eF(C:List Int)(i:Nat):Bool:=match C[i]? with
 |some c=>!cr c||(decide (0<(i:Int))&&match C[i-1]? with|some d=>decide (c≤d)|none=>false)
 |none=>false
theorem yR{C:List Int}{i:Nat}{c:Int}(h:C[i]?=some c)(hz:decide (0<(i:Int))=false):eF C i=!cr c:=by simp only[eF,h,hz,ac3,aer]
theorem Bp{C:List Int}{i k:Nat}{c d:Int}(h:C[i]?=some c)(hi:i=k+1)(hd:C[k]?=some d):eF C i=(!cr c||decide (c≤d)):=by
 have h1:decide (0<(i:Int))=true:=acp (by omega)
 have h2:i-1=k:=by omega
 simp only[eF,h,h1,h2,hd,ac9]
def yE(C:List Int):Bool:=!((List.range C.length).any (eF C))
theorem uc{C:List Int}{i:Nat}{c:Int}(h:C[i]?=some c)(hb:eF C i=true):yE C=false:=by
 have:(List.range C.length).any (eF C)=true:=adT.2 ⟨i,ac2.2 (acm.1 h).1,hb⟩
 simp[yE,this]
theorem EE{C:List Int}(h:∀j,j<C.length→eF C j=false):yE C=true:=by
 have:(List.range C.length).any (eF C)=false:=by
  rw[List.any_eq_false]
  intro j hj
  rw[h j (ac2.1 hj)];simp
 simp[yE,this]
def w9(kE fr to:Int):Bool:=decide (0≤fr)&&decide (fr≤to)&&decide (to≤kE)&&decide (1≤kE)&&decide (kE≤1000000000)
def vl(s:Src):Bool:=bU s.a s.b&&cM s.p&&yE s.C&&w9 s.kE s.fr s.to
theorem tX{s:Src}(h:yE s.C=false):vl s=false:=by simp[vl,h]
theorem IE{s:Src}(h:(bU s.a s.b&&cM s.p)=false):vl s=false:=by simp[vl,h]
theorem Hq{s:Src}(h:(bU s.a s.b&&cM s.p)=true)(hc:yE s.C=true):vl s=w9 s.kE s.fr s.to:=by simp[vl,h,hc]
theorem Vu(n:Nat)(H:ab)(s:Src)(hC:s.C.length≤maxLen):aa T (n+2) (.fn 116) [.agg (HT s)] H=some (.bool (vl s),H):=by
 refine ae V8 (by rfl) ?_
 simp only[P9,ah,go_sem,simprocAttr]
 repeat' (with_reducible refine aD (fun _=>?_) (fun _=>?_)<;>simp only[*,go_sem,simprocAttr])
 all_goals try (
  with_reducible refine congrArg some (congrArg SV.bool ?_)
  rw[IE (by rw[afs];simp only[bU,cM,ne_eq,acw,acr];grind)]
  done)
 have hpp:(bU s.a s.b&&cM s.p)=true:=by
  simp only[bU,cM,acw,acr];grind
 refine ba (fun i=>([(1,.ptr 0 0 0 0),(34,.ao 1 (iS s.C) s.f),(35,af5 s.C.length),(36,af5 i)],⟨[.box (HT s)],[],0⟩)) (fun i=>∀(j:Nat),j<i→eF s.C j=false) s.C.length ?_ (fun j h=>by omega) ?_
 ·simp only[go_sem,simprocAttr]<;>rfl
 ·intro i hi hP
  rcases acz i s.C.length with hlt|hge
  ·obtain⟨c,hc⟩:=bO hlt
   have hw:=bE hlt hC
   have hgo:eF s.C i=false→∀j,j<i+1→eF s.C j=false:=fun hb j hj=>by
    rcases acz j i with h3|h3
    ·exact hP j h3
    ·have:j=i:=by omega
     subst this
     exact hb
   cases hz:decide (0<(i:Int))with
   |false=>
    have hb:=yR hc hz
    cases hx:cr c with
    |false=>
     simp only[go_sem,simprocAttr,hlt,hc,wg,hx]
     rw[tX (uc hc (by rw[hb,hx];rfl))]
    |true=>
     simp only[go_sem,simprocAttr,hlt,hc,wg,hx,hw,hz]
     refine⟨by first|trivial|omega,by first|trivial|rfl,?_⟩
     exact hgo (by rw[hb,hx];rfl)
   |true=>
    obtain⟨k,hk⟩:∃k,i=k+1:=⟨i-1,by have:=acQ hz;omega⟩
    have hkl:k<s.C.length:=by omega
    obtain⟨d,hd⟩:=bO hkl
    have hb:=Bp hc hk hd
    have hsub:bb ((i:Int)-1)=(k:Int):=by
     have:((i:Int)-1)=((k:Nat):Int):=by omega
     rw[this];exact al (by omega) (by simp only[maxLen]at hC;omega)
    cases hx:cr c with
    |false=>
     simp only[go_sem,simprocAttr,hlt,hc,wg,hx]
     rw[tX (uc hc (by rw[hb,hx];rfl))]
    |true=>
     simp only[go_sem,simprocAttr,hlt,hc,wg,hx,hw,hsub,hz,hd,hkl]
     cases hm:decide (c≤d)with
     |true=>
      simp only[go_sem,simprocAttr]
      rw[tX (uc hc (by rw[hb,hm];simp))]
     |false=>
      simp only[go_sem,simprocAttr,hw]
      refine⟨by first|trivial|omega,by first|trivial|rfl,?_⟩
      exact hgo (by rw[hb,hx,hm];rfl)
  ·have hlt:¬i<s.C.length:=by omega
   have hd:=EE (C:=s.C) (fun j hj=>hP j (by omega))
   rw[Hq hpp hd]
   simp only[go_sem,simprocAttr,hlt]
   repeat' (with_reducible refine aD (fun _=>?_) (fun _=>?_)<;>simp only[*,go_sem,simprocAttr])
   all_goals (simp only[w9];refine congrArg some (congrArg SV.bool ?_);rw[adz];grind)
theorem Py(n:Nat)(H:ab)(s:Src)(hC:s.C.length≤maxLen):aa T (n+3) (.fn 115) [.agg (HT s)] H=some (.bool (!vl s),H):=by
 have h:=fun H=>Vu n H s hC
 refine ae Su (by rfl) ?_
 simp only[MC,ah,go_sem,simprocAttr,h]
def RH(s:Src)(x y:Int):Bool:=
 if x=y∨s.fr=s.to then false else
 (decide (x%s.kE<s.to)&&decide (s.fr<x%s.kE+y-x))||decide (s.fr+s.kE<x%s.kE+y-x)
theorem Gg{s:Src}(h:vl s=true):w9 s.kE s.fr s.to=true:=by
 simp only[vl,acw]at h;exact h.2
def dW(L:List Src):List (List SV):=L.map HT
def dP(L:List Fd):List (List SV):=L.map Ie
@[go_sem] theorem Oq {L:List Src}:(dW L).length=L.length:=by simp[dW]
@[go_sem] theorem Px {L:List Fd}:(dP L).length=L.length:=by simp[dP]
@[go_sem] theorem Pp {L:List Src}{i:Nat}:(dW L)[i]?=(L[i]?).map HT:=by simp[dW]
@[go_sem] theorem Mw {L:List Fd}{i:Nat}:(dP L)[i]?=(L[i]?).map Ie:=by simp[dP]
theorem As{L:List Src}:∀r∈dW L,r.length=7:=by
 intro r hr
 simp only[dW,adt]at hr
 obtain⟨h,_,rfl⟩:=hr
 rfl
theorem zL{L:List Fd}:∀r∈dP L,r.length=6:=by
 intro r hr
 simp only[dP,adt]at hr
 obtain⟨h,_,rfl⟩:=hr
 rfl
def toSr(r:List SV):Src:=match r with
 |[.int _ a,.int _ b,.int _ p,.ao _ L f,.int _ kE,.int _ fr,.int _ to]=>⟨a,b,p,L.map (fun c=>match c with|[.int _ x]=>x|_=>0),f,kE,fr,to⟩
 |_=>⟨0,0,0,[],true,0,0,0⟩
theorem toSr_of(s:Src):toSr (HT s)=s:=by
 obtain⟨a,b,p,C,f,kE,fr,to⟩:=s
 simp[toSr,iS,Function.comp_def]
def toFd(r:List SV):Fd:=match r with
 |[.int _ a,.int _ b,.int _ c,.int _ x,.int _ y,.int _ f]=>⟨a,b,c,x,y,f⟩
 |_=>⟨0,0,0,0,0,0⟩
theorem toFd_of(w:Fd):toFd (Ie w)=w:=rfl
theorem Ce(p:Src→Bool)(L:List Src):(dW L).any (fun r=>p (toSr r))=L.any p:=by
 simp only[dW,af1]
 congr 1
 funext h
 exact congrArg p (toSr_of h)
theorem DO(p:Fd→Bool)(L:List Fd):(dP L).any (fun r=>p (toFd r))=L.any p:=by
 simp only[dP,af1]
 rfl
abbrev sp(S:List Src)(f1:Bool)(F:List Fd)(f2:Bool):SV:=.agg [.ao 7 (dW S) f1,.ao 6 (dP F) f2]
def BH(S:List Src):Prop:=S.length≤maxLen∧∀s∈S,s.C.length≤maxLen
def pB(S:List Src)(F:List Fd):Bool:=decide (S.length≤16)&&decide (F.length≤64)&&!S.any (fun s=>!vl s)&&!F.any (fun w=>!BQ w)
def ck(S:List Src)(F:List Fd):Int:=bif pB S F then 0 else 1
theorem TK(n:Nat)(H:ab)(S F f1 f2)(z2:Nat)(hz:z2=6∨F=[])(hS:BH S)(hF:F.length≤maxLen):aa T (n+7) (.fn 62) [.agg [.ao 7 (dW S) f1,.ao z2 (dP F) f2]] H=some (af5 (ck S F),H):=by
 refine ae ZJ (by rfl) ?_
 have h33:=fun H=>iC (T:=T) (f:=114) (n:=n+4) (H:=H) (ag:=true) (z:=7) (id:=115) (caps:=[]) (v:=.ao 7 (dW S) f1) (L:=dW S) (p:=fun r=>!vl (toSr r)) Zg Ru (.ao 7 f1 (.inl rfl)) As (fun h=>by cases h) (by simpa[dW]using hS.1)
  (fun r hr bl ro _=>by
   simp only[dW,adt]at hr
   obtain⟨h,hh,rfl⟩:=hr
   simp only[toSr_of]
   exact Py (n+1) ⟨bl,[],ro⟩ h (hS.2 h hh)) (by simp[SV.refs.av])
 rw[Ce (fun s=>!vl s)]at h33
 have h36:=fun H=>iC (T:=T) (f:=117) (n:=n+4) (H:=H) (ag:=true) (z:=6) (id:=118) (caps:=[]) (v:=.ao z2 (dP F) f2) (L:=dP F) (p:=fun r=>!BQ (toFd r)) Ro Zt (.ao z2 f2 (hz.imp id (by rintro rfl;rfl))) zL (fun h=>by cases h) (by simpa[dP]using hF)
  (fun r hr bl ro _=>by
   simp only[dP,adt]at hr
   obtain⟨h,hh,rfl⟩:=hr
   simp only[toFd_of]
   exact Qd n ⟨bl,[],ro⟩ h) (by simp[SV.refs.av])
 rw[DO (fun s=>!BQ s)]at h36
 simp only[Yd,ah,go_sem,simprocAttr]
 repeat' (with_reducible refine aD (fun _=>?_) (fun _=>?_)<;>simp only[*,go_sem,simprocAttr,h33,h36])
 all_goals
  clear h33 h36
  refine congrArg some (congrArg (SV.int .i64) ?_)
  simp only[ck,pB]
  generalize (S.any fun s=>!vl s)=A at *
  generalize (F.any fun s=>!BQ s)=B at *
  generalize S.length=ls at *
  generalize F.length=lf at *
  cases A<;>cases B<;>simp only[adp,adU,aeq,adk,acJ,Bool.cond_eq_ite,acw,acr]<;>grind
theorem ZM(n:Nat)(H:ab)(S F f1 f2)(hS:BH S)(hF:F.length≤maxLen):aa T (n+7) (.fn 62) [sp S f1 F f2] H=some (af5 (ck S F),H):=TK n H S F f1 f2 6 (.inl rfl) hS hF
def ur(S:List Src)(F:List Fd):Bool:=decide (S.length≤20)&&decide (F.length≤70)&&!S.any (fun s=>decide (20<s.C.length))
theorem ID{S:List Src}{F:List Fd}{i:Nat}{s:Src}(h:S[i]?=some s)(hb:20<s.C.length):ur S F=false:=by
 have:S.any (fun s=>decide (20<s.C.length))=true:=adT.2 ⟨s,acy h,by simp[hb]⟩
 simp only[ur,this,adp,adk]
theorem JR{S:List Src}{F:List Fd}(h1:S.length≤20)(h2:F.length≤70)(hS:∀(j:Nat) s,S[j]?=some s→s.C.length≤20):ur S F=true:=by
 have a:S.any (fun s=>decide (20<s.C.length))=false:=by
  rw[List.any_eq_false];intro s hs
  obtain⟨j,hj⟩:=aeJ.1 hs
  have:=hS j s hj
  simp;omega
 simp only[ur,a,h1,h2,decide_true,adU,aeq]
theorem qw{S:List Src}{F:List Fd}(h:ur S F=true):S.length≤20∧F.length≤70∧∀s∈S,s.C.length≤20:=by
 simp only[ur,acw,acr,ac8,List.any_eq_false,Nat.not_lt]at h
 exact⟨h.1.1,h.1.2,h.2⟩
theorem s87(n:Nat)(H:ab)(S F f1 f2)(hS:S.length≤maxLen):aa T (n+2) (.fn 87) [sp S f1 F f2] H=some (.bool (ur S F),H):=by
 refine ae e87 (by rfl) ?_
 simp only[YO,ah,go_sem,simprocAttr]
 repeat' (with_reducible refine aD (fun _=>?_) (fun _=>?_)<;>simp only[*,go_sem,simprocAttr])
 all_goals try (
  with_reducible refine congrArg some (congrArg SV.bool ?_)
  simp only[acr]at *
  rw[eq_comm,afs]
  intro hq
  have:=qw hq
  omega)
 have hl1:S.length≤20:=by simp only[acx]at *;omega
 have hl2:F.length≤70:=by simp only[acx]at *;omega
 refine ba (fun i=>([(1,.ptr 0 0 0 0),(3,af5 i)],⟨[.box [.ao 7 (dW S) f1,.ao 6 (dP F) f2]],[],0⟩)) (fun i=>∀(j:Nat) s,j<i→S[j]?=some s→s.C.length≤20) S.length ?_ (fun j s h=>by omega) ?_
 ·simp only[go_sem,simprocAttr]<;>rfl
 ·intro i hi hP
  rcases acz i S.length with hlt|hge
  ·obtain⟨s,hs⟩:=bO hlt
   have hw:=bE hlt hS
   rcases acz 20 s.C.length with hb|hb
   ·have hb':decide (20<(s.C.length:Int))=true:=acp (by omega)
    simp only[go_sem,simprocAttr,hlt,hs,hb',ID hs hb]
   ·have hb':decide (20<(s.C.length:Int))=false:=acs (by omega)
    simp only[go_sem,simprocAttr,hlt,hs,hb',hw]
    refine⟨by first|trivial|omega,by first|trivial|rfl,?_⟩
    intro j s' hj hs'
    rcases acz j i with h3|h3
    ·exact hP j s' h3 hs'
    ·have:j=i:=by omega
     subst this
     rw[hs]at hs';cases hs'
     exact hb
  ·have hlt:¬i<S.length:=by omega
   have hfo:=JR hl1 hl2 (fun j s hj=>hP j s (by have:=(acm.1 hj).1;omega) hj)
   simp only[go_sem,simprocAttr,hlt,hfo]
theorem x48:T 192=some qD:=Oj
theorem ZY:T 165=some (uF 192):=Pe
theorem VV(n:Nat)(H:ab)(C:List Int)(f:Bool)(c:Int)(hC:C.length≤maxLen):aa T (n+2) (.fn 165) [.ao 1 (iS C) f,af5 c] H=some (.bool (decide (c∈C)),H):=
 tf ZY x48 (.ao 1 f (.inl rfl)) hC
def PR(c x y:Int)(s:Src):Bool:=decide (c∈s.C)&&RH s x y
def rL{A:Type}(u:A→Src→A)(c x y:Int)(v:A)(s:Src):A:=if PR c x y s=true then u v s else v
theorem ij{A B:Type}(f:A→B→A)(z:A){l:List B}{i:Nat}{x:B}(h:l[i]?=some x):(l.take (i+1)).foldl f z=f ((l.take i).foldl f z) x:=by
 rw[adP,h];simp
@[go_sem] theorem ck0 (S F):decide (ck S F=0)=pB S F:=by unfold ck;cases pB S F<;>rfl
def V3(a b c:Bool)(v:Int):Int:=bif a&&b&&c then v else 0
def E3(a b c:Bool):Int:=bif a then(bif b then(bif c then 0 else 2)else 7)else 1
def eA(n:Nat)(a:Int):Bool:=decide (0≤a)&&decide (a<n)
theorem Jn{n:Nat}{a:Int}:eA n a=true↔∃k:Nat,a=k∧k<n:=by
 unfold eA
 rw[acw,acr,acr]
 constructor
 ·rintro⟨h1,h2⟩;exact⟨a.toNat,by omega,by omega⟩
 ·rintro⟨k,rfl,h⟩;omega
theorem HW{n:Nat}{a:Int}(h:eA n a=false):decide (a<0)=true∨(decide (a<0)=false∧decide ((n:Int)≤a)=true):=by
 unfold eA at h
 simp only[aec,acx,acr]at *
 omega
theorem Jt{n k:Nat}(h:k<n):decide ((k:Int)<0)=false∧decide ((n:Int)≤(k:Int))=false:=by
 simp only[acx];omega
theorem G9{S F}(h:pB S F=true):∀s∈S,vl s=true:=by
 intro s hs
 simp only[pB,acw,ac8]at h
 have:=List.any_eq_false.1 h.1.2 s hs
 simpa using this
def Ft(N:List (Int×Int))(P:List Int)(W:List G.Wl)(ex no th:Int)(k:Nat)(s:Src):Int:=
 G.o5 (G.E1 W ex s.a s.b s.p (G.nd N k).1 (G.nd N k).2) (G.gh N P W ex no th) (G.oK s.a s.b s.p (G.nd N k).1 (G.nd N k).2)
def FA(N:List (Int×Int))(P:List Int)(W:List G.Wl)(ex no th:Int)(k:Nat)(s:Src):Int:=
 G.o5 (G.atR W ex s.a s.b s.p (G.nd N k).1 (G.nd N k).2) (G.gh N P W ex no th) (G.oK s.a s.b s.p (G.nd N k).1 (G.nd N k).2)
def EP(f:Src→Int)(S:List Src)(c x y:Int):Int:=S.foldl (rL (fun v s=>bb (v+f s)) c x y) 0
abbrev N0(z1:Nat)(S:List Src)(f1:Bool)(z2:Nat)(F:List Fd)(f2:Bool):SV:=.agg [.ao z1 (dW S) f1,.ao z2 (dP F) f2]
theorem H7(n:Nat)(H:ab)(S F f1 f2)(z1 z2:Nat)(hz1:z1=7∨S=[])(hz:z2=6∨F=[])(hS:BH S)(hF:F.length≤maxLen):aa T (n+7) (.fn 62) [N0 z1 S f1 z2 F f2] H=some (af5 (ck S F),H):=by
 refine ae ZJ (by rfl) ?_
 have h33:=fun H=>iC (T:=T) (f:=114) (n:=n+4) (H:=H) (ag:=true) (z:=7) (id:=115) (caps:=[]) (v:=.ao z1 (dW S) f1) (L:=dW S) (p:=fun r=>!vl (toSr r)) Zg Ru (.ao z1 f1 (hz1.imp id (by rintro rfl;rfl))) As (fun h=>by cases h) (by simpa[dW]using hS.1)
  (fun r hr bl ro _=>by
   simp only[dW,adt]at hr
   obtain⟨h,hh,rfl⟩:=hr
   simp only[toSr_of]
   exact Py (n+1) ⟨bl,[],ro⟩ h (hS.2 h hh)) (by simp[SV.refs.av])
 rw[Ce (fun s=>!vl s)]at h33
 have h36:=fun H=>iC (T:=T) (f:=117) (n:=n+4) (H:=H) (ag:=true) (z:=6) (id:=118) (caps:=[]) (v:=.ao z2 (dP F) f2) (L:=dP F) (p:=fun r=>!BQ (toFd r)) Ro Zt (.ao z2 f2 (hz.imp id (by rintro rfl;rfl))) zL (fun h=>by cases h) (by simpa[dP]using hF)
  (fun r hr bl ro _=>by
   simp only[dP,adt]at hr
   obtain⟨h,hh,rfl⟩:=hr
   simp only[toFd_of]
   exact Qd n ⟨bl,[],ro⟩ h) (by simp[SV.refs.av])
 rw[DO (fun s=>!BQ s)]at h36
 simp only[Yd,ah,go_sem,simprocAttr]
 repeat' (with_reducible refine aD (fun _=>?_) (fun _=>?_)<;>simp only[*,go_sem,simprocAttr,h33,h36])
 all_goals
  clear h33 h36
  refine congrArg some (congrArg (SV.int .i64) ?_)
  simp only[ck,pB]
  generalize (S.any fun s=>!vl s)=A at *
  generalize (F.any fun s=>!BQ s)=B at *
  generalize S.length=ls at *
  generalize F.length=lf at *
  cases A<;>cases B<;>simp only[adp,adU,aeq,adk,acJ,Bool.cond_eq_ite,acw,acr]<;>grind
def Xt(a b:Int)(w:Fd):Bool:=(decide (w.a= -1)||decide (w.a=a))&&(decide (w.b= -1)||decide (w.b=b))
def z7(a b c t:Int)(w:Fd):Bool:=Xt a b w&&(decide (w.c= -1)||decide (w.c=c))&&decide (w.x≤t)&&decide (t<w.y)
def GX(p:Fd→Bool)(v:Int)(w:Fd):Int:=if p w=true then min v w.f else v
def Bc(p:Fd→Bool)(F:List Fd):Int:=F.foldl (GX p) 1000
def BT(t:Int):Bool:=decide (0≤t)&&decide (t≤1099511627776)
def Ca(p f:Int):Int:=bb ((bb (p*f)).tdiv 1000)
theorem D3{F:List Fd}(p:Fd→Bool)(h:∀w∈F,0≤w.f):0≤Bc p F∧Bc p F≤1000:=by
 have key:∀(F:List Fd) (v:Int),(∀w∈F,0≤w.f)→0≤v→v≤1000→0≤F.foldl (GX p) v∧F.foldl (GX p) v≤1000:=by
  intro F
  induction F with
  |nil=>intro v _ h1 h2;exact⟨h1,h2⟩
  |cons w F ih=>
   intro v hw h1 h2
   have hf:=hw w (by simp)
   refine ih _ (fun w' hw'=>hw w' (by simp[hw'])) ?_ ?_
   ·unfold GX;split<;>omega
   ·unfold GX;split<;>omega
 exact key F 1000 h (by omega) (by omega)
theorem Kk{S F}(h:pB S F=true):∀w∈F,BQ w=true:=by
 intro w hw
 simp only[pB,acw,ac8]at h
 have:=List.any_eq_false.1 h.2 w hw
 simpa using this
theorem Cw{S F}(h:pB S F=true):∀w∈F,0≤w.f:=fun w hw=>by
 have:=Kk h w hw
 simp only[BQ,acw,acr]at this
 exact this.1.2
theorem sO(a b c:Bool)(v:Int):V3 a b c v=bif a then(bif b then(bif c then v else 0)else 0)else 0:=by cases a<;>cases b<;>cases c<;>rfl
theorem Mv{t:Int}(h:BT t=false):decide (t<0)=true∨(decide (t<0)=false∧decide (1099511627776<t)=true):=by
 simp only[BT,aec,acx,acr]at *;omega
theorem I2{t:Int}(h:BT t=true):decide (t<0)=false∧decide (1099511627776<t)=false:=by
 simp only[BT,acw,acr,acx]at *;omega
end U
namespace fN
theorem Ro:T 192=some qD:=Oj
theorem x13:T 165=some (uF 192):=Pe
theorem lvI{bl:List aC}{C:List Int}{f:Bool}:LV bl 1 (iS C) (.ao 1 (iS C) f):=.ao 1 f (.inl rfl)
def cr(c:Int):Bool:=decide (0≤c)&&decide (c<16)
theorem PB(n:Nat)(H:ab)(c:Int):aa T (n+1) (.fn 164) [af5 c] H=some (.bool (cr c),H):=by
 refine ae VX (by rfl) ?_
 simp only[Pu,ah,go_sem,simprocAttr]
 repeat' (with_reducible refine aD (fun _=>?_) (fun _=>?_)<;>simp only[*,go_sem,simprocAttr])
 all_goals (simp only[cr];refine congrArg some (congrArg SV.bool ?_);rw[adz];grind)
theorem NH(n:Nat)(H:ab)(c:Int):aa T (n+1) (.fn 172) [af5 c] H=some (.bool (cr c),H):=by
 refine ae Wq (by rfl) ?_
 simp only[PN,ah,go_sem,simprocAttr]
 repeat' (with_reducible refine aD (fun _=>?_) (fun _=>?_)<;>simp only[*,go_sem,simprocAttr])
 all_goals (simp only[cr];refine congrArg some (congrArg SV.bool ?_);rw[adz];grind)
def eF(C:List Int)(i:Nat):Bool:=match C[i]? with
 |some c=>!cr c||decide (c∈C.take i)
 |none=>false
theorem jO{C:List Int}{i:Nat}{c:Int}(h:C[i]?=some c):eF C i=(!cr c||decide (c∈C.take i)):=by simp[eF,h]
def mm(C:List Int):Bool:=!((List.range C.length).any (eF C))&&decide (0<C.length)
theorem nB{C:List Int}{i:Nat}{c:Int}(h:C[i]?=some c)(hb:eF C i=true):mm C=false:=by
 have:(List.range C.length).any (eF C)=true:=adT.2 ⟨i,ac2.2 (acm.1 h).1,hb⟩
 simp[mm,this]
theorem tC{C:List Int}(h:∀j,j<C.length→eF C j=false):mm C=decide (0<C.length):=by
 have:(List.range C.length).any (eF C)=false:=by
  rw[List.any_eq_false]
  intro j hj
  rw[h j (ac2.1 hj)];simp
 simp[mm,this]
theorem TV(n:Nat)(H:ab)(C:List Int)(f:Bool)(hC:C.length≤maxLen):aa T (n+3) (.fn 121) [.ao 1 (iS C) f] H=some (.bool (mm C),H):=by
 refine ae Uk (by rfl) ?_
 simp only[P1,ah,go_sem,simprocAttr]
 refine ba (fun i=>([(0,.ao 1 (iS C) f),(5,.ao 1 (iS C) f),(6,af5 C.length),(7,af5 i)],⟨[],[],0⟩)) (fun i=>∀(j:Nat),j<i→eF C j=false) C.length ?_ (fun j h=>by omega) ?_
 ·simp only[go_sem,simprocAttr]<;>rfl
 ·intro i hi hP
  rcases acz i C.length with hlt|hge
  ·obtain⟨c,hc⟩:=bO hlt
   have hw:=bE hlt hC
   have hb:=jO hc
   have hle:decide ((i:Int)≤(C.length:Int))=true:=acp (by omega)
   have h13:=fun H=>tf (n:=n) (H:=H) (v:=.ao 1 (iS (C.take i)) (f&&i==C.length)) (M:=C.take i) (x:=c) x13 Ro (lvI) (by simp;omega)
   cases hx:cr c with
   |false=>
    simp only[go_sem,simprocAttr,hlt,hc,PB,hx]
    rw[nB hc (by rw[hb,hx];rfl)]
   |true=>
    simp only[go_sem,simprocAttr,hlt,hc,PB,hx,hle,zY,h13]
    cases hm:decide (c∈C.take i)with
    |true=>
     simp only[go_sem,simprocAttr]
     rw[nB hc (by rw[hb,hm];simp)]
    |false=>
     simp only[go_sem,simprocAttr,hw]
     refine⟨by first|trivial|omega,by first|trivial|rfl,?_⟩
     intro j hj
     rcases acz j i with h3|h3
     ·exact hP j h3
     ·have:j=i:=by omega
      subst this
      rw[hb,hx,hm];rfl
  ·have hlt:¬i<C.length:=by omega
   have hd:=tC (C:=C) (fun j hj=>hP j (by omega))
   simp only[go_sem,simprocAttr,hlt,hd]
   refine congrArg some (congrArg SV.bool ?_)
   rw[adz,acr,acr];omega
theorem WC(n:Nat)(H:ab)(C:List Int)(f:Bool)(z:Nat)(c:Int)(hz:z=1∨C=[])(hC:C.length≤maxLen):aa T (n+1) (.fn 173) [.ao z (iS C) f,af5 c] H=some (.bool (decide (c∈C)),H):=by
 refine ae S0 (by rfl) ?_
 simp only[Qg,ah,go_sem,simprocAttr]
 refine ba (fun i=>([(0,.ao z (iS C) f),(1,af5 c),(5,af5 i)],⟨[],[],0⟩)) (fun i=>∀(j:Nat) y,j<i→C[j]?=some y→y≠c) C.length ?_ (fun j y h=>by omega) ?_
 ·simp only[go_sem,simprocAttr]<;>rfl
 ·intro i hi hP
  rcases acz i C.length with hlt|hge
  ·obtain⟨y,hy⟩:=bO hlt
   have hw:=bE hlt hC
   obtain rfl:z=1:=hz.resolve_right (by rintro rfl;simp at hlt)
   simp only[go_sem,simprocAttr,hlt,hy]
   cases hd:decide (y=c)with
   |true=>
    simp only[acr]at hd
    subst hd
    simp only[go_sem,simprocAttr,acy hy]
   |false=>
    simp only[acx]at hd
    simp only[go_sem,simprocAttr,hw]
    refine⟨by first|trivial|omega,by first|trivial|rfl,?_⟩
    intro j y' hj hy'
    rcases acz j i with h3|h3
    ·exact hP j y' h3 hy'
    ·have:j=i:=by omega
     subst this
     rw[hy]at hy';cases hy'
     exact hd
  ·have hlt:¬i<C.length:=by omega
   have hn:¬c∈C:=fun h=>by
    obtain⟨j,hj⟩:=aeJ.1 h
    exact hP j c (by have:=(acm.1 hj).1;omega) hj rfl
   simp only[go_sem,simprocAttr,hlt,hn]
theorem Ui(n:Nat)(H:ab)(C:List Int)(f:Bool)(hC:C.length≤maxLen):aa T (n+2) (.fn 127) [.ao 1 (iS C) f] H=some (.bool (mm C),H):=by
 refine ae SB (by rfl) ?_
 simp only[NP,ah,go_sem,simprocAttr]
 refine ba (fun i=>([(0,.ao 1 (iS C) f),(3,af5 i)],⟨[],[],0⟩)) (fun i=>∀(j:Nat),j<i→eF C j=false) C.length ?_ (fun j h=>by omega) ?_
 ·simp only[go_sem,simprocAttr]<;>rfl
 ·intro i hi hP
  rcases acz i C.length with hlt|hge
  ·obtain⟨c,hc⟩:=bO hlt
   have hw:=bE hlt hC
   have hb:=jO hc
   have hle:decide ((i:Int)≤(C.length:Int))=true:=acp (by omega)
   have h45:=fun H=>WC n H (C.take i) (f&&i==C.length) 1 c (.inl rfl) (by simp;omega)
   cases hx:cr c with
   |false=>
    simp only[go_sem,simprocAttr,hlt,hc,NH,hx]
    rw[nB hc (by rw[hb,hx];rfl)]
   |true=>
    simp only[go_sem,simprocAttr,hlt,hc,NH,hx,hle,zY,h45]
    cases hm:decide (c∈C.take i)with
    |true=>
     simp only[go_sem,simprocAttr]
     rw[nB hc (by rw[hb,hm];simp)]
    |false=>
     simp only[go_sem,simprocAttr,hw]
     refine⟨by first|trivial|omega,by first|trivial|rfl,?_⟩
     intro j hj
     rcases acz j i with h3|h3
     ·exact hP j h3
     ·have:j=i:=by omega
      subst this
      rw[hb,hx,hm];rfl
  ·have hlt:¬i<C.length:=by omega
   have hd:=tC (C:=C) (fun j hj=>hP j (by omega))
   simp only[go_sem,simprocAttr,hlt,hd]
   refine congrArg some (congrArg SV.bool ?_)
   rw[adz,acr,acr];omega
abbrev hl(v a b:Int)(z:Nat)(C:List Int)(f:Bool):SV:=.agg [af5 v,af5 a,af5 b,.ao z (iS C) f]
def At(v a b:Int)(C:List Int):Bool:=decide (0≤v)&&decide (v≤255)&&decide (0≤a)&&decide (a<b)&&decide (b≤109951163)&&mm C
def Gv(v a b:Int)(C:List Int):Int:=bif At v a b C then 0 else 1
theorem zE{v a b:Int}{C:List Int}(h:At v a b C=true):Gv v a b C=0:=by simp[Gv,h]
theorem CN{v a b:Int}{C:List Int}(h:At v a b C=false):Gv v a b C=1:=by simp[Gv,h]
theorem YN(n:Nat)(H:ab)(v a b:Int)(C:List Int)(f:Bool)(hC:C.length≤maxLen):aa T (n+4) (.fn 64) [hl v a b 1 C f] H=some (af5 (Gv v a b C),H):=by
 refine ae e64 (by rfl) ?_
 have h37:=fun H=>TV n H C f hC
 simp only[YY,ah,go_sem,simprocAttr,h37]
 repeat' (with_reducible refine aD (fun _=>?_) (fun _=>?_)<;>simp only[*,go_sem,simprocAttr,h37])
 all_goals
  clear h37
  refine congrArg some (congrArg (SV.int .i64) ?_)
  simp only[Gv]
  generalize hq:At v a b C=q
  simp only[At]at hq
  generalize mm C=D at *
  cases q<;>simp only[acG,acJ]<;>grind
theorem s72(n:Nat)(H:ab)(v a b:Int)(C:List Int)(f:Bool)(hC:C.length≤maxLen):aa T (n+3) (.fn 72) [hl v a b 1 C f] H=some (af5 (Gv v a b C),H):=by
 refine ae e72 (by rfl) ?_
 have h43:=fun H=>Ui n H C f hC
 simp only[YI,ah,go_sem,simprocAttr,h43]
 repeat' (with_reducible refine aD (fun _=>?_) (fun _=>?_)<;>simp only[*,go_sem,simprocAttr,h43])
 all_goals
  clear h43
  refine congrArg some (congrArg (SV.int .i64) ?_)
  simp only[Gv]
  generalize hq:At v a b C=q
  simp only[At]at hq
  generalize mm C=D at *
  cases q<;>simp only[acG,acJ]<;>grind
def vP(C:List Int)(s o:Int):Int:=C.getD ((s+o)%(C.length:Int)).toNat 0
def xH(v a b:Int)(C:List Int)(s o:Int):Int:=bif At v a b C then(bif decide (a≤s)&&decide (s<b)then(bif decide (0≤o)&&decide (o<(C.length:Int))then 0 else 2)else 12)else 1
def lK(v a b:Int)(C:List Int)(s o:Int):Int:=bif decide (xH v a b C s o=0)then vP C s o else 0
theorem jJ{v a b:Int}{C:List Int}(h:At v a b C=true):(0≤v∧v≤255)∧0≤a∧a<b∧b≤109951163∧mm C=true:=by
 simp only[At,acw,acr]at h
 exact⟨⟨h.1.1.1.1.1,h.1.1.1.1.2⟩,h.1.1.1.2,h.1.1.2,h.1.2,h.2⟩
theorem rI{C:List Int}(h:mm C=true):0<C.length:=by
 simp only[mm,acw,acr]at h
 exact h.2
theorem s29(n:Nat)(H:ab)(v a b:Int)(C:List Int)(f:Bool)(s o:Int)(hC:C.length≤1000):aa T (n+4) (.fn 29) [hl v a b 1 C f,af5 s,af5 o] H=some (.bc [af5 (lK v a b C s o),af5 (xH v a b C s o)],H):=by
 refine ae e29 (by rfl) ?_
 have h25:=fun H=>s72 n H v a b C f (ac7 hC (by decide))
 cases hok:At v a b C with
 |false=>
  rw[CN hok]at h25
  simp only[XE,ah,go_sem,simprocAttr,h25,lK,xH,hok]
 |true=>
  rw[zE hok]at h25
  obtain⟨hv,ha,hab,hb,hd⟩:=jJ hok
  have hpos:=rI hd
  simp only[XE,ah,go_sem,simprocAttr,h25,lK,xH,hok]
  by_cases h1:s<a
  ·have e1:decide (s<a)=true:=acp h1
   have e2:decide (a≤s)=false:=acs (by omega)
   simp only[e1,e2,go_sem,simprocAttr]
  ·have e1:decide (s<a)=false:=acs h1
   have e2:decide (a≤s)=true:=acp (by omega)
   by_cases h2:b≤s
   ·have e3:decide (b≤s)=true:=acp h2
    have e4:decide (s<b)=false:=acs (by omega)
    simp only[e1,e2,e3,e4,go_sem,simprocAttr]
   ·have e3:decide (b≤s)=false:=acs h2
    have e4:decide (s<b)=true:=acp (by omega)
    by_cases h3:o<0
    ·have e5:decide (o<0)=true:=acp h3
     have e6:decide (0≤o)=false:=acs (by omega)
     simp only[e1,e2,e3,e4,e5,e6,go_sem,simprocAttr]
    ·have e5:decide (o<0)=false:=acs h3
     have e6:decide (0≤o)=true:=acp (by omega)
     by_cases h4:(C.length:Int)≤o
     ·have e7:decide ((C.length:Int)≤o)=true:=acp h4
      have e8:decide (o<(C.length:Int))=false:=acs (by omega)
      simp only[e1,e2,e3,e4,e5,e6,e7,e8,go_sem,simprocAttr]
     ·have e7:decide ((C.length:Int)≤o)=false:=acs h4
      have e8:decide (o<(C.length:Int))=true:=acp (by omega)
      have hw:bb (s+o)=s+o:=al (by omega) (by omega)
      have hn0:decide ((C.length:Int)=0)=false:=acs (by omega)
      have htm:(s+o).tmod (C.length:Int)=(s+o)%(C.length:Int):=adY (by omega)
      have hm0:0≤(s+o)%(C.length:Int):=ae3 _ (by omega)
      have hm1:(s+o)%(C.length:Int)<C.length:=aeN _ (by omega)
      have e9:decide (0≤(s+o)%(C.length:Int))=true:=acp hm0
      have eZq:decide ((s+o)%(C.length:Int)<C.length)=true:=acp hm1
      obtain⟨c,hc⟩:=bO (l:=C) (i:=((s+o)%(C.length:Int)).toNat) (by omega)
      simp only[e1,e2,e3,e4,e5,e6,e7,e8,hw,hn0,htm,e9,eZq,hc,go_sem,simprocAttr,vP,adg,ad3]
theorem WV(n:Nat)(bl es ro)(C:List Int)(f:Bool)(x:Int):aa T (n+1) (.se 154) [.ao 1 (iS C) f,af5 x] ⟨bl,es,ro⟩=
 some (.fn 191 [.ptr bl.length 0 0 0,.ptr (bl.length+1) 0 0 0],⟨bl++[.box [.ao 1 (iS C) f],.box [af5 x]],es,ro⟩):=by
 refine eJ XF ?_
 simp only[Mp,go_sem,simprocAttr,aco,acn]
def HG(C:List Int)(s:Int)(i:Nat):Int:=C.getD ((s+i)%(C.length:Int)).toNat 0
theorem WW(n o:Nat)(q:fj)(X0:aC)(X1 X2:Nat→aC)(C:List Int)(f:Bool)(s:Int)(hs:0≤s)(hs1:s<C.length)(ho:o<C.length)(hC:C.length≤1000)
 (hy:∀i,i<o→aa T n (.fP 5) [af5 (HG C s i)] ⟨[X0,X1 i,X2 i,.box [.ao 1 (iS C) f],.box [af5 s],.loop q .ready .normal],[],0⟩=
  some (.bool true,⟨[X0,X1 (i+1),X2 (i+1),.box [.ao 1 (iS C) f],.box [af5 s],.loop q .ready .normal],[],0⟩))
 (Y1 Y2:aC) (st:LoopState) (pe:mA)
 (hyE:aa T n (.fP 5) [af5 (HG C s o)] ⟨[X0,X1 o,X2 o,.box [.ao 1 (iS C) f],.box [af5 s],.loop q .ready .normal],[],0⟩=
  some (.bool false,⟨[X0,Y1,Y2,.box [.ao 1 (iS C) f],.box [af5 s],.loop q st pe],[],0⟩)) :
 aa T (n+1) (.fn 191) [.fP 5,.ptr 3 0 0 0,.ptr 4 0 0 0] ⟨[X0,X1 0,X2 0,.box [.ao 1 (iS C) f],.box [af5 s],.loop q .ready .normal],[],0⟩=
  some (.bc [],⟨[X0,Y1,Y2,.box [.ao 1 (iS C) f],.box [af5 s],.loop q st pe],[],0⟩):=by
 refine bm UA (by rfl) ?_
 simp only[OV,go_sem,simprocAttr]
 refine ba (fun i=>([(0,.fP 5),(1,.ptr 3 0 0 0),(2,.ptr 4 0 0 0),(6,af5 C.length),(7,af5 i)],⟨[X0,X1 i,X2 i,.box [.ao 1 (iS C) f],.box [af5 s],.loop q .ready .normal],[],0⟩)) (fun _=>True) o ?_ trivial ?_
 ·simp only[go_sem,simprocAttr]<;>rfl
 ·intro i hi _
  have hlt:i<C.length:=by omega
  have hw:bb (s+i)=s+i:=al (by omega) (by omega)
  have hw1:=bE hlt (ac7 hC (by decide))
  have hn0:decide ((C.length:Int)=0)=false:=acs (by omega)
  have htm:(s+i).tmod (C.length:Int)=(s+i)%(C.length:Int):=adY (by omega)
  have hm0:0≤(s+i)%(C.length:Int):=ae3 _ (by omega)
  have hm1:(s+i)%(C.length:Int)<C.length:=aeN _ (by omega)
  have e9:decide (0≤(s+i)%(C.length:Int))=true:=acp hm0
  have eZq:decide ((s+i)%(C.length:Int)<C.length)=true:=acp hm1
  have hc:C[((s+i)%(C.length:Int)).toNat]?=some (HG C s i):=by
   rw[HG,adg,acK (by omega)];rfl
  rcases acz i o with hio|hio
  ·simp only[go_sem,simprocAttr,hlt,hw,hn0,htm,e9,eZq,hc,hy i hio,hw1]
   refine⟨by first|trivial|omega,by first|trivial|rfl,?_⟩
   trivial
  ·obtain rfl:i=o:=by omega
   simp only[go_sem,simprocAttr,hlt,hw,hn0,htm,e9,eZq,hc,hyE]
def M6(C:List Int)(s:Int):Nat→Int
 |0=>0
 |i+1=>HG C s i
def w7(o:Nat):Nat→Int
 |0=>(o:Int)
 |i+1=>(o:Int)-((i+1:Nat):Int)
theorem nQ(o i:Nat):w7 o i=(o:Int)-i:=by
 cases i with
 |zero=>simp[w7]
 |succ i=>rfl
theorem jn{A R:Type}{v:Option A}{f:A→Option R}{t:oH f}{r:Option R}(o:A)(h:v=some o)(k:f o=r):aN v f t=r:=by rw[h];exact k
theorem XG(n:Nat)(H:ab)(v a b:Int)(C:List Int)(f:Bool)(s o:Int)(hC:C.length≤1000):aa T (n+5) (.fn 105) [hl v a b 1 C f,af5 s,af5 o] H=some (.bc [af5 (lK v a b C s o),af5 (xH v a b C s o)],H):=by
 refine ae WZ (by rfl) ?_
 have h24:=fun H=>YN n H v a b C f (ac7 hC (by decide))
 cases hok:At v a b C with
 |false=>
  rw[CN hok]at h24
  simp only[IQ,ah,go_sem,simprocAttr,h24,lK,xH,hok]
 |true=>
  rw[zE hok]at h24
  obtain⟨hv,ha,hab,hb,hd⟩:=jJ hok
  have hpos:=rI hd
  simp only[IQ,ah,go_sem,simprocAttr,h24,lK,xH,hok]
  by_cases h1:s<a
  ·have e1:decide (s<a)=true:=acp h1
   have e2:decide (a≤s)=false:=acs (by omega)
   simp only[e1,e2,go_sem,simprocAttr]
  ·have e1:decide (s<a)=false:=acs h1
   have e2:decide (a≤s)=true:=acp (by omega)
   by_cases h2:b≤s
   ·have e3:decide (b≤s)=true:=acp h2
    have e4:decide (s<b)=false:=acs (by omega)
    simp only[e1,e2,e3,e4,go_sem,simprocAttr]
   ·have e3:decide (b≤s)=false:=acs h2
    have e4:decide (s<b)=true:=acp (by omega)
    by_cases h3:o<0
    ·have e5:decide (o<0)=true:=acp h3
     have e6:decide (0≤o)=false:=acs (by omega)
     simp only[e1,e2,e3,e4,e5,e6,go_sem,simprocAttr]
    ·have e5:decide (o<0)=false:=acs h3
     have e6:decide (0≤o)=true:=acp (by omega)
     by_cases h4:(C.length:Int)≤o
     ·have e7:decide ((C.length:Int)≤o)=true:=acp h4
      have e8:decide (o<(C.length:Int))=false:=acs (by omega)
      simp only[e1,e2,e3,e4,e5,e6,e7,e8,go_sem,simprocAttr]
     ·have e7:decide ((C.length:Int)≤o)=false:=acs h4
      have e8:decide (o<(C.length:Int))=true:=acp (by omega)
      have hn0:decide ((C.length:Int)=0)=false:=acs (by omega)
      have htm:s.tmod (C.length:Int)=s%(C.length:Int):=adY (by omega)
      obtain⟨o',rfl⟩:=aed (show 0≤o by omega)
      have hm0:0≤s%(C.length:Int):=ae3 _ (by omega)
      have hm1:s%(C.length:Int)<C.length:=aeN _ (by omega)
      simp only[e1,e2,e3,e4,e5,e6,e7,e8,hn0,htm,go_sem,simprocAttr,WV]
      refine jn _ (WW (n+3) o' _ _ (fun i=>.box [af5 (w7 o' i)]) (fun i=>.box [af5 (M6 C (s%(C.length:Int)) i)]) C f (s%(C.length:Int)) hm0 hm1 (by omega) hC ?_
       (.box [af6]) (.box [af5 (HG C (s%(C.length:Int)) o')]) .done (.exit 1) ?_) ?_
      ·intro i hi
       refine pd rfl rfl ?_
       have g1:decide (w7 o' i=0)=false:=acs (by rw[nQ];omega)
       have g2:bb (w7 o' i-1)=w7 o' (i+1):=by rw[nQ,nQ,al (by omega) (by omega)];omega
       simp only[go_sem,simprocAttr,fJ,g1,g2,M6]
      ·refine pd rfl rfl ?_
       have g1:decide (w7 o' o'=0)=true:=acp (by rw[nQ];omega)
       have g0:w7 o' o'=0:=by rw[nQ];omega
       simp only[go_sem,simprocAttr,fJ,g1,g0]
      ·have hfin:vP C s o'=HG C (s%(C.length:Int)) o':=by
        unfold vP HG
        rw[Int.emod_add_emod]
       simp only[go_sem,simprocAttr,hfin]
end fN
namespace ft
abbrev fr(k s d q o c m e t u v:Int)(x:ByteArray):List SV:=[af5 k,af5 s,af5 d,af5 q,af5 o,af5 c,af5 m,af5 e,af5 t,af5 u,af5 v,.str x]
def eA(x h:Int):Bool:=decide (0≤x)&&decide (x≤h)
def Ee(x:Int):Bool:=decide (-32768≤x)&&decide (x≤32767)
theorem gQ(n:Nat)(H:ab)(x h:Int):aa T (n+1) (.fn 196) [af5 x,af5 h] H=some (.bool (eA x h),H):=by
 refine ae Tb (by rfl) ?_
 simp only[Oa,ah,go_sem,simprocAttr,eA]
 repeat' (with_reducible refine aD (fun _=>?_) (fun _=>?_)<;>simp only[*,go_sem,simprocAttr,eA])
theorem ud(n:Nat)(H:ab)(x h:Int):aa T (n+1) (.fn 142) [af5 x,af5 h] H=some (.bool (eA x h),H):=by
 refine ae Vd (by rfl) ?_
 simp only[LO,ah,go_sem,simprocAttr,eA]
 repeat' (with_reducible refine aD (fun _=>?_) (fun _=>?_)<;>simp only[*,go_sem,simprocAttr,eA])
theorem tW(n:Nat)(H:ab)(x:Int):aa T (n+1) (.fn 214) [af5 x] H=some (.bool (Ee x),H):=by
 refine ae Wg (by rfl) ?_
 simp only[LJ,ah,go_sem,simprocAttr,Ee]
 repeat' (with_reducible refine aD (fun _=>?_) (fun _=>?_)<;>simp only[*,go_sem,simprocAttr,Ee])
def vm(s d:Int):Bool:=eA d 31&&!decide (d=s)
theorem um(n:Nat)(H:ab)(k s d q o c m e t u v:Int)(x:ByteArray):aa T (n+2) (.fn 213) [.agg (fr k s d q o c m e t u v x)] H=some (.bool (vm s d),H):=by
 refine ae Sp (by rfl) ?_
 simp only[MY,ah,go_sem,simprocAttr,vm,gQ]
 cases eA d 31<;>simp only[go_sem,simprocAttr,gQ]
def J6(k s d q o c m e t u v:Int)(x:ByteArray):SV:=
 bif decide (k=1)then .bc [.agg (fr k s d q o 0 0 e t u v ⟨#[]⟩),.bool (vm s d&&eA c 255&&eA m 65535)]
 else bif decide (k=2)then .bc [.agg (fr k s d q o c m 0 t u v x),.bool (vm s d&&Ee e)]
 else bif decide (k=3)then .bc [.agg (fr k s d q o c m e 0 0 0 ⟨#[]⟩),.bool (decide (d= -1)&&eA t 109951162&&eA u 65535&&eA v 65535)]
 else bif decide (k=4)then .bc [.agg (fr k s d q o c m e t u v ⟨#[]⟩),.bool (decide (d= -1)||vm s d)]
 else .bc [.agg (fr k s d q o c m e t u v x),.bool false]
theorem Xn(n:Nat)(H:ab)(k s d q o c m e t u v:Int)(x:ByteArray):aa T (n+3) (.fn 195) [.agg (fr k s d q o c m e t u v x)] H=some (J6 k s d q o c m e t u v x,H):=by
 refine ae Vw (by rfl) ?_
 simp only[P2,ah,go_sem,simprocAttr,gQ,tW,um]
 cases h1:decide (k=1)with
 |true=>
  simp only[go_sem,simprocAttr,gQ,tW,um,J6,h1]
  cases h5:vm s d<;>cases h6:eA c 255<;>simp only[go_sem,simprocAttr,gQ,tW,um,h5,h6]
 |false=>
  cases h2:decide (k=2)with
  |true=>
   simp only[go_sem,simprocAttr,gQ,tW,um,J6,h1,h2]
   cases h5:vm s d<;>simp only[go_sem,simprocAttr,gQ,tW,um,h5]
  |false=>
   cases h3:decide (k=3)with
   |true=>
    simp only[go_sem,simprocAttr,gQ,tW,um,J6,h1,h2,h3]
    cases h5:decide (d= -1)<;>cases h6:eA t 109951162<;>cases h7:eA u 65535<;>simp only[go_sem,simprocAttr,gQ,tW,um,h5,h6,h7]
   |false=>
    cases h4:decide (k=4)with
    |true=>
     simp only[go_sem,simprocAttr,gQ,tW,um,J6,h1,h2,h3,h4]
     cases h5:decide (d= -1)<;>simp only[go_sem,simprocAttr,gQ,tW,um,h5]
    |false=>simp only[go_sem,simprocAttr,J6,h1,h2,h3,h4]
def z0(c:Int):Bool:=decide (c=0)
def mn(k s d q o c m e t u v:Int)(x:ByteArray):Bool:=
 (bif decide (k=1)then(vm s d&&eA c 255&&eA m 65535)&&(decide (e=0)&&(decide (t=0)&&(decide (u=0)&&decide (v=0))))
 else bif decide (k=2)then(vm s d&&Ee e)&&(decide (c=0)&&(decide (m=0)&&(decide (t=0)&&(decide (u=0)&&(decide (v=0)&&decide (x=⟨#[]⟩))))))
 else bif decide (k=3)then(decide (d= -1)&&eA t 109951162&&eA u 65535&&eA v 65535)&&(decide (c=0)&&(decide (m=0)&&decide (e=0)))
 else bif decide (k=4)then(decide (d= -1)||vm s d)&&(decide (c=0)&&(decide (m=0)&&(decide (e=0)&&(decide (t=0)&&(decide (u=0)&&decide (v=0))))))
 else false)&&(eA s 31&&(eA q 255&&eA o 255))
theorem Yg(n:Nat)(H:ab)(k s d q o c m e t u v:Int)(x:ByteArray):aa T (n+4) (.fn 174) [.agg (fr k s d q o c m e t u v x)] H=some (af5 (bif mn k s d q o c m e t u v x then 0 else 1),H):=by
 refine ae T4 (by rfl) ?_
 simp only[Qw,ah,go_sem,simprocAttr,Xn,gQ]
 unfold J6 mn
 cases h1:decide (k=1)with
 |true=>
  cases h5:(vm s d&&eA c 255&&eA m 65535)with
  |false=>simp only[go_sem,simprocAttr,gQ,h1,h5]
  |true=>
   cases h6:(decide (e=0)&&(decide (t=0)&&(decide (u=0)&&decide (v=0))))<;>simp only[go_sem,simprocAttr,gQ,h1,h5,h6]
   cases h7:eA s 31<;>cases h8:eA q 255<;>cases h9:eA o 255<;>simp only[go_sem,simprocAttr,gQ,h7,h8,h9]
 |false=>
  cases h2:decide (k=2)with
  |true=>
   cases h5:(vm s d&&Ee e)with
   |false=>simp only[go_sem,simprocAttr,gQ,h1,h2,h5]
   |true=>
    cases h6:(decide (c=0)&&(decide (m=0)&&(decide (t=0)&&(decide (u=0)&&(decide (v=0)&&decide (x=⟨#[]⟩))))))<;>simp only[go_sem,simprocAttr,gQ,h1,h2,h5,h6]
    cases h7:eA s 31<;>cases h8:eA q 255<;>cases h9:eA o 255<;>simp only[go_sem,simprocAttr,gQ,h7,h8,h9]
  |false=>
   cases h3:decide (k=3)with
   |true=>
    cases h5:(decide (d= -1)&&eA t 109951162&&eA u 65535&&eA v 65535)with
    |false=>simp only[go_sem,simprocAttr,gQ,h1,h2,h3,h5]
    |true=>
     cases h6:(decide (c=0)&&(decide (m=0)&&decide (e=0)))<;>simp only[go_sem,simprocAttr,gQ,h1,h2,h3,h5,h6]
     cases h7:eA s 31<;>cases h8:eA q 255<;>cases h9:eA o 255<;>simp only[go_sem,simprocAttr,gQ,h7,h8,h9]
   |false=>
    cases h4:decide (k=4)with
    |true=>
     cases h5:(decide (d= -1)||vm s d)with
     |false=>simp only[go_sem,simprocAttr,gQ,h1,h2,h3,h4,h5]
     |true=>
      cases h6:(decide (c=0)&&(decide (m=0)&&(decide (e=0)&&(decide (t=0)&&(decide (u=0)&&decide (v=0))))))<;>simp only[go_sem,simprocAttr,gQ,h1,h2,h3,h4,h5,h6]
      cases h7:eA s 31<;>cases h8:eA q 255<;>cases h9:eA o 255<;>simp only[go_sem,simprocAttr,gQ,h7,h8,h9]
    |false=>simp only[go_sem,simprocAttr,gQ,h1,h2,h3,h4]
end ft
namespace ft
def bt(b:Bool):Nat:=bif b then 1 else 0
theorem xn(b:Bool):bt b≤1:=by cases b<;>decide
def db(bs:List Bool)(i:Nat):Nat:=bt ((bs[i]?).getD false)
theorem iT(bs:List Bool)(i:Nat):db bs i≤1:=xn _
theorem nS{bs:List Bool}{i:Nat}(h:bs.length≤i):db bs i=0:=by
 unfold db;rw[adS h];rfl
theorem vL(bs:List Bool)(b:Bool)(i:Nat):db (bs++[b]) i=db bs i+(if i=bs.length then bt b else 0):=by
 by_cases h:i=bs.length
 ·subst h
  rw[if_pos rfl,nS (acH _)]
  simp[db]
 ·rw[if_neg h]
  by_cases h2:i<bs.length
  ·simp[db,acF h2]
  ·rw[nS (bs:=bs) (by omega),nS (by simp;omega)]
def dC(bs:List Bool)(j:Nat):Nat:=
 db bs (8*j)*128+db bs (8*j+1)*64+db bs (8*j+2)*32+db bs (8*j+3)*16+db bs (8*j+4)*8+db bs (8*j+5)*4+db bs (8*j+6)*2+db bs (8*j+7)
theorem nM(bs:List Bool)(j:Nat):dC bs j<256:=by
 have:=iT bs (8*j);have:=iT bs (8*j+1);have:=iT bs (8*j+2);have:=iT bs (8*j+3)
 have:=iT bs (8*j+4);have:=iT bs (8*j+5);have:=iT bs (8*j+6);have:=iT bs (8*j+7)
 unfold dC;omega
theorem m8(n:Nat):n%8=0∨n%8=1∨n%8=2∨n%8=3∨n%8=4∨n%8=5∨n%8=6∨n%8=7:=by omega
theorem rQ{bs:List Bool}{b:Bool}{j:Nat}(h:j≠bs.length/8):dC (bs++[b]) j=dC bs j:=by
 unfold dC
 simp only[vL]
 rw[if_neg (by omega),if_neg (by omega),if_neg (by omega),if_neg (by omega),if_neg (by omega),if_neg (by omega),if_neg (by omega),if_neg (by omega)]
 simp only[ad9]
theorem Ed(bs:List Bool)(b:Bool):dC (bs++[b]) (bs.length/8)=dC bs (bs.length/8)+bt b*2 ^ (7-bs.length%8):=by
 unfold dC
 simp only[vL]
 rcases m8 bs.length with h|h|h|h|h|h|h|h<;>rw[h]
 ·rw[if_pos (by omega),if_neg (by omega),if_neg (by omega),if_neg (by omega),if_neg (by omega),if_neg (by omega),if_neg (by omega),if_neg (by omega)];omega
 ·rw[if_neg (by omega),if_pos (by omega),if_neg (by omega),if_neg (by omega),if_neg (by omega),if_neg (by omega),if_neg (by omega),if_neg (by omega)];omega
 ·rw[if_neg (by omega),if_neg (by omega),if_pos (by omega),if_neg (by omega),if_neg (by omega),if_neg (by omega),if_neg (by omega),if_neg (by omega)];omega
 ·rw[if_neg (by omega),if_neg (by omega),if_neg (by omega),if_pos (by omega),if_neg (by omega),if_neg (by omega),if_neg (by omega),if_neg (by omega)];omega
 ·rw[if_neg (by omega),if_neg (by omega),if_neg (by omega),if_neg (by omega),if_pos (by omega),if_neg (by omega),if_neg (by omega),if_neg (by omega)];omega
 ·rw[if_neg (by omega),if_neg (by omega),if_neg (by omega),if_neg (by omega),if_neg (by omega),if_pos (by omega),if_neg (by omega),if_neg (by omega)];omega
 ·rw[if_neg (by omega),if_neg (by omega),if_neg (by omega),if_neg (by omega),if_neg (by omega),if_neg (by omega),if_pos (by omega),if_neg (by omega)];omega
 ·rw[if_neg (by omega),if_neg (by omega),if_neg (by omega),if_neg (by omega),if_neg (by omega),if_neg (by omega),if_neg (by omega),if_pos (by omega)];omega
theorem AV(bs:List Bool):∃a,dC bs (bs.length/8)=2 ^ (8-bs.length%8)*a:=by
 have z:∀k,bs.length%8≤k→db bs (8*(bs.length/8)+k)=0:=fun k hk=>nS (by omega)
 unfold dC
 rcases m8 bs.length with h|h|h|h|h|h|h|h<;>rw[h]at z⊢
 ·rw[z 1 (by omega),z 2 (by omega),z 3 (by omega),z 4 (by omega),z 5 (by omega),z 6 (by omega),z 7 (by omega),show db bs (8*(bs.length/8))=0 from z 0 (by omega)];exact⟨0,by omega⟩
 ·rw[z 1 (by omega),z 2 (by omega),z 3 (by omega),z 4 (by omega),z 5 (by omega),z 6 (by omega),z 7 (by omega)];exact⟨db bs (8*(bs.length/8)),by omega⟩
 ·rw[z 2 (by omega),z 3 (by omega),z 4 (by omega),z 5 (by omega),z 6 (by omega),z 7 (by omega)];exact⟨db bs (8*(bs.length/8))*2+db bs (8*(bs.length/8)+1),by omega⟩
 ·rw[z 3 (by omega),z 4 (by omega),z 5 (by omega),z 6 (by omega),z 7 (by omega)];exact⟨db bs (8*(bs.length/8))*4+db bs (8*(bs.length/8)+1)*2+db bs (8*(bs.length/8)+2),by omega⟩
 ·rw[z 4 (by omega),z 5 (by omega),z 6 (by omega),z 7 (by omega)];exact⟨db bs (8*(bs.length/8))*8+db bs (8*(bs.length/8)+1)*4+db bs (8*(bs.length/8)+2)*2+db bs (8*(bs.length/8)+3),by omega⟩
 ·rw[z 5 (by omega),z 6 (by omega),z 7 (by omega)];exact⟨db bs (8*(bs.length/8))*16+db bs (8*(bs.length/8)+1)*8+db bs (8*(bs.length/8)+2)*4+db bs (8*(bs.length/8)+3)*2+db bs (8*(bs.length/8)+4),by omega⟩
 ·rw[z 6 (by omega),z 7 (by omega)];exact⟨db bs (8*(bs.length/8))*32+db bs (8*(bs.length/8)+1)*16+db bs (8*(bs.length/8)+2)*8+db bs (8*(bs.length/8)+3)*4+db bs (8*(bs.length/8)+4)*2+db bs (8*(bs.length/8)+5),by omega⟩
 ·rw[z 7 (by omega)];exact⟨db bs (8*(bs.length/8))*64+db bs (8*(bs.length/8)+1)*32+db bs (8*(bs.length/8)+2)*16+db bs (8*(bs.length/8)+3)*8+db bs (8*(bs.length/8)+4)*4+db bs (8*(bs.length/8)+5)*2+db bs (8*(bs.length/8)+6),by omega⟩
theorem yP(b:Bool)(r:Nat)(h:r<8):bt b*2 ^ (7-r)<2 ^ (8-r):=by
 have:2 ^ (8-r)=2*2 ^ (7-r):=by rw[show 8-r=(7-r)+1 by omega,Nat.pow_succ,afx]
 have hp:0<2 ^ (7-r):=Nat.pow_pos (by decide)
 cases b<;>simp[bt]<;>omega
theorem wq(bs:List Bool)(b:Bool):(dC bs (bs.length/8)|||bt b*2 ^ (7-bs.length%8))=dC (bs++[b]) (bs.length/8):=by
 rw[Ed]
 obtain⟨a,ha⟩:=AV bs
 rw[ha]
 exact(Nat.two_pow_add_eq_or_of_lt (yP b _ (afo _ (by decide))) a).symm
def nb(n:Nat):Nat:=(n+7)/8
def sm(bs:List Bool):List (List SV):=(List.range (nb bs.length)).map fun j=>[.int .u8 (dC bs j:Nat)]
@[go_sem] theorem eT {bs:List Bool}:(sm bs).length=nb bs.length:=by simp[sm]
theorem ow{bs:List Bool}{j:Nat}(h:j<nb bs.length):(sm bs)[j]?=some [.int .u8 (dC bs j:Nat)]:=by simp[sm,h]
theorem Gp{bs:List Bool}{b:Bool}(h:bs.length%8≠0):(sm bs).set (bs.length/8) [.int .u8 (dC (bs++[b]) (bs.length/8):Nat)]=sm (bs++[b]):=by
 have e:nb (bs.length+1)=nb bs.length:=by unfold nb;omega
 apply aen
 intro j
 rw[ae6]
 by_cases hj:j<nb bs.length
 ·rw[ow (bs:=bs++[b]) (by simp[e,hj])]
  by_cases h2:bs.length/8=j
  ·subst h2
   rw[if_pos rfl,if_pos (by rw[eT];exact hj)]
  ·rw[if_neg h2,ow hj,rQ (fun h=>h2 h.symm)]
 ·rw[if_neg (show ¬bs.length/8=j by unfold nb at hj;omega),adS (by rw[eT];omega),adS (by rw[eT,acn];simp[e];omega)]
theorem Ho{bs:List Bool}{b:Bool}(h:bs.length%8=0):(sm bs++[[SV.int .u8 0]]).set (bs.length/8) [.int .u8 (dC (bs++[b]) (bs.length/8):Nat)]=sm (bs++[b]):=by
 have e:nb (bs.length+1)=nb bs.length+1:=by unfold nb;omega
 have e2:nb bs.length=bs.length/8:=by unfold nb;omega
 apply aen
 intro j
 rw[ae6]
 by_cases hj:j<nb bs.length+1
 ·rw[ow (bs:=bs++[b]) (by simp[e,hj])]
  by_cases h2:bs.length/8=j
  ·subst h2
   rw[if_pos rfl,if_pos (by rw[acn,eT];simp;omega)]
  ·rw[if_neg h2,acF (by rw[eT];omega),ow (by omega),rQ (fun h=>h2 h.symm)]
 ·rw[if_neg (show ¬bs.length/8=j by omega),adS (by rw[acn,eT];simp;omega),adS (by rw[eT,acn];simp[e];omega)]
theorem E6{bs:List Bool}(h:bs.length%8=0):(sm bs++[[SV.int .u8 0]])[bs.length/8]?=some [.int .u8 (dC bs (bs.length/8):Nat)]:=by
 have e2:nb bs.length=bs.length/8:=by unfold nb;omega
 have z:∀k,db bs (8*(bs.length/8)+k)=0:=fun k=>nS (by omega)
 have hb:dC bs (bs.length/8)=0:=by
  unfold dC
  rw[z 1,z 2,z 3,z 4,z 5,z 6,z 7,show db bs (8*(bs.length/8))=0 from z 0]
 rw[hb,←e2,←eT (bs:=bs),adf (acH _)]
 simp
theorem C3{bs:List Bool}(h:bs.length%8≠0):(sm bs)[bs.length/8]?=some [.int .u8 (dC bs (bs.length/8):Nat)]:=ow (by unfold nb;omega)
def bits(w v:Nat):List Bool:=(List.range w).map fun i=>v.testBit (w-1-i)
theorem aq(w v:Nat):(bits w v).length=w:=by simp[bits]
theorem sx{w v j:Nat}(h:j<w):(bits w v).take (j+1)=(bits w v).take j++[v.testBit (w-1-j)]:=by
 rw[adP]
 simp[bits,h]
end ft
namespace ft
abbrev wB(bs:List Bool):aC:=.box [.bn 2 (nb bs.length) 0 (nb bs.length),af5 bs.length,af6]
abbrev wA(bs:List Bool):aC:=.arr (nb bs.length) 1 (sm bs) false
@[go_sem] theorem tm8 (n:Nat):(n:Int).tmod 8=((n%8:Nat):Int):=by rw[adY (by omega)];rfl
@[go_sem] theorem td8 (n:Nat):(n:Int).tdiv 8=((n/8:Nat):Int):=by rw[ad4 (by omega)];rfl
theorem mG{n:Int}(h0:0≤n)(h1:n≤255):IntKind.u8.wrap n=n:=by
 have e:IntKind.u8.wrap n=n%256:=by simp[IntKind.wrap,IntKind.bits,IntKind.signed]
 rw[e];omega
theorem nz{n:Int}(h0:0≤n)(h1:n<2 ^ 64):IntKind.u64.wrap n=n:=by
 have e:IntKind.u64.wrap n=n%18446744073709551616:=by simp[IntKind.wrap,IntKind.bits,IntKind.signed]
 rw[e];omega
theorem gJ(B j:Nat):((B:Int).fdiv (2 ^ j))=((B/2 ^ j:Nat):Int):=by
 have h:((2:Int) ^ j)=((2 ^ j:Nat):Int):=by rw[afl];rfl
 rw[h,aeI _ (Int.natCast_nonneg _),Int.natCast_ediv]
theorem AH(a:Nat)(h:a<2 ^ 64):(BitVec.ofInt 64 (a:Int)).toNat=a:=by
 rw[afm]
 omega
theorem iH(a:Nat)(h:a<256):(BitVec.ofInt 8 (a:Int)).toNat=a:=by
 rw[afm]
 omega
theorem zb(v i:Nat):bt (v.testBit i)=v/2 ^ i%2:=by
 rw[Nat.testBit_eq_decide_div_mod_eq]
 unfold bt
 rcases Nat.mod_two_eq_zero_or_one (v/2 ^ i)with h|h<;>rw[h]<;>rfl
theorem JG{v i:Nat}(hv:v<2 ^ 64)(hi:i<64):IntKind.u64.wrap ((BitVec.ofInt 64 ((v:Int).fdiv (2 ^ min i 64))&&&BitVec.ofInt 64 1).toNat:Nat)=(bt (v.testBit i):Nat):=by
 have h2:v/2 ^ i≤v:=Nat.div_le_self _ _
 have h3:(BitVec.ofInt 64 1).toNat=1:=by decide
 rw[adM (by omega),gJ,afW,AH _ (by omega),h3,Nat.and_one_is_mod,zb]
 exact nz (by omega) (by omega)
theorem GI{v i:Nat}(B:List Bool)(hv:v<2 ^ 64)(hi:i<64):IntKind.u8.wrap ((BitVec.ofInt 8 (dC B (B.length/8):Nat)|||BitVec.ofInt 8 (IntKind.u8.wrap (IntKind.u8.wrap (IntKind.u64.wrap ((BitVec.ofInt 64 ((v:Int).fdiv (2 ^ min i 64))&&&BitVec.ofInt 64 1).toNat:Nat))*2 ^ min (7-B.length%8) 8))).toNat:Nat)=(dC (B++[v.testBit i]) (B.length/8):Nat):=by
 have hb:=xn (v.testBit i)
 have h1:=yP (v.testBit i) (B.length%8) (afo _ (by decide))
 have h2:2 ^ (8-B.length%8)≤2 ^ 8:=aeR (by decide) (by omega)
 have h3:bt (v.testBit i)*2 ^ (7-B.length%8)<256:=by omega
 have h4:=nM B (B.length/8)
 have h5:=nM (B++[v.testBit i]) (B.length/8)
 have h6:((bt (v.testBit i):Nat):Int)*2 ^ (7-B.length%8)=((bt (v.testBit i)*2 ^ (7-B.length%8):Nat):Int):=by rw[af2,afl];rfl
 rw[JG hv hi,mG (n:=((bt (v.testBit i):Nat):Int)) (by omega) (by omega),adM (by omega),h6,mG (n:=((bt (v.testBit i)*2 ^ (7-B.length%8):Nat):Int)) (by omega) (by omega),BitVec.toNat_or,iH _ h4,iH _ h3,wq]
 exact mG (by omega) (by omega)
theorem Jf(n:Nat)(b0:aC)(tl:List aC)(es:List (Nat×Nat))(bs:List Bool)(w v:Nat)(hw:w≤63)(hv:v<2 ^ 64)(hb:bs.length+w≤600000) :
 aa T (n+1) (.fn 241) [.ptr 1 0 0 0,af5 w,.int .u64 v] ⟨b0::wB bs::wA bs::tl,es,0⟩=
  some (.bc [],⟨b0::wB (bs++bits w v)::wA (bs++bits w v)::tl,es++List.replicate (nb (bs.length+w)-nb bs.length) (1,3),0⟩):=by
 refine bm VU (by rfl) ?_
 simp only[OR,go_sem,simprocAttr]
 have hw1:bb ((w:Int)-1)=(w:Int)-1:=al (by omega) (by omega)
 have hN:decide (max 2 0≤tl.length+1+1+1)=true:=acp (by omega)
 have l0:decide (0<tl.length+1+1+1)=true:=acp (by omega)
 have l1:decide (1<tl.length+1+1+1)=true:=acp (by omega)
 have l2:decide (2<tl.length+1+1+1)=true:=acp (by omega)
 have l3':decide (tl.length+1+1+1<3)=false:=acs (by omega)
 have l3:decide (3≤tl.length+1+1+1)=true:=acp (by omega)
 refine ba (fun j=>([(0,.ptr 1 0 0 0),(2,.int .u64 v),(6,af5 ((w:Int)-1-(j:Int)))],⟨b0::wB (bs++(bits w v).take j)::wA (bs++(bits w v).take j)::tl,List.replicate (nb (bs.length+j)-nb bs.length) (1,3),0⟩)) (fun _=>True) w ?_ trivial ?_
 ·simp only[go_sem,simprocAttr,hw1,aeV,adn,afe,aej,ad9,Int.sub_zero,hN,afX,Int.ofNat_zero]
  try rfl
 ·intro j hj _
  rcases acz j w with hlt|hge
  ·have hx:decide ((0:Int)≤(w:Int)-1-j)=true:=acp (by omega)
   have hs:bb ((w:Int)-1-j-1)=(w:Int)-1-(j+1:Nat):=by rw[al (by omega) (by omega)];omega
   have hB:(bs++(bits w v).take j).length=bs.length+j:=by rw[acn,adA,aq];omega
   have hB':bs++(bits w v).take (j+1)=(bs++(bits w v).take j)++[v.testBit (w-1-j)]:=by rw[sx hlt,aco]
   obtain⟨b,hb'⟩:∃b,v.testBit (w-1-j)=b:=⟨_,rfl⟩
   obtain⟨B,hBd⟩:∃B,bs++(bits w v).take j=B:=⟨_,rfl⟩
   rw[hb',hBd]at hB'
   rw[hBd]at hB
   have gb:=fun H=>gH 1 H 2 (nb B.length) (nb B.length) [[.int .u8 0]] (sm B) eT
   have hw8:bb ((B.length/8:Nat):Int)=((B.length/8:Nat):Int):=al (by omega) (by omega)
   have hw7:bb (7-((B.length%8:Nat):Int))=((7-B.length%8:Nat):Int):=by rw[al (by omega) (by omega)];omega
   have hnn:∀n:Nat,decide ((n:Int)<0)=false:=fun n=>acs (by omega)
   have hi:((w:Int)-1-j).toNat=w-1-j:=by omega
   have hE:=GI (v:=v) (i:=w-1-j) B hv (by omega)
   rw[hb']at hE
   have hw1':bb ((B.length:Int)+1)=((B.length+1:Nat):Int):=by rw[al (by omega) (by omega)];omega
   have hl1:(B++[b]).length=B.length+1:=by simp
   by_cases h8:B.length%8=0
   ·have hq:decide (((B.length%8:Nat):Int)=0)=true:=acp (by omega)
    have hr:decide ((nb B.length+1)*1≤bV)=true:=acp (ac7 (show(nb B.length+1)*1≤1000000 by unfold nb;omega) (by decide))
    have e1:nb (B.length+1)=nb B.length+1:=by unfold nb;omega
    have e2:nb (bs.length+(j+1))-nb bs.length=nb (bs.length+j)-nb bs.length+1:=by unfold nb;omega
    have g0:=E6 h8
    have hlt1:decide (B.length/8<nb B.length+1)=true:=acp (by unfold nb;omega)
    simp only[go_sem,simprocAttr,hw8,hw7,g0,hlt1,adl,hx,hq,hBd,gb,hr,l0,l1,l2,l3,l3',hN,hi,hE,hw1',hs,hB',hl1,e1,e2,aek,acI,acP,ite_self,if_true]
    refine⟨hlt,?_,trivial⟩
    erw [hE,Ho h8]
    simp only[wB,wA,hl1,e1]
   ·have hq:decide (((B.length%8:Nat):Int)=0)=false:=acs (by omega)
    have e1:nb (B.length+1)=nb B.length:=by unfold nb;omega
    have e2:nb (bs.length+(j+1))-nb bs.length=nb (bs.length+j)-nb bs.length:=by unfold nb;omega
    have g0:=C3 h8
    have hlt1:decide (B.length/8<nb B.length)=true:=acp (by unfold nb;omega)
    simp only[go_sem,simprocAttr,hw8,hw7,g0,hlt1,adl,hx,hq,hBd,l0,l1,l2,l3,l3',hN,hi,hE,hw1',hs,hB',hl1,e1,e2,acI,acP,ite_self,if_true]
    refine⟨hlt,?_,trivial⟩
    erw [hE,Gp h8]
    simp only[wB,wA,hl1,e1]
  ·obtain rfl:j=w:=by omega
   have hx:decide ((0:Int)≤(j:Int)-1-j)=false:=acs (by omega)
   have ht:(bits j v).take j=bits j v:=ac1 (by rw[aq];exact acH _)
   simp only[go_sem,simprocAttr,hx,ht,hN,l0,l1,l2,l3,l3',acI,acP,ite_self,if_true]
end ft
namespace ft
def cc(x:Nat):Nat:=if x=0 then 0 else x.log2+1
theorem cQ{x w:Nat}:cc x≤w↔x<2 ^ w:=by
 unfold cc
 by_cases h:x=0
 ·subst h;simp;exact Nat.pow_pos (by decide)
 ·rw[if_neg h,Nat.succ_le_iff,Nat.log2_lt h]
theorem iG{x k:Nat}(h:2 ^ k≤x):cc (x/2 ^ k)+k=cc x:=by
 have key:∀w,cc (x/2 ^ k)+k≤w↔cc x≤w:=fun w=>by
  by_cases hw:k≤w
  ·obtain⟨d,rfl⟩:=Nat.exists_eq_add_of_le hw
   rw[show(cc (x/2 ^ k)+k≤k+d)↔cc (x/2 ^ k)≤d by omega,cQ,cQ,Nat.pow_add,Nat.div_lt_iff_lt_mul (Nat.pow_pos (by decide)),afx]
  ·rw[cQ]
   have h2:2 ^ w≤2 ^ k:=aeR (by decide) (by omega)
   omega
 exact Nat.le_antisymm ((key _).2 (acH _)) ((key _).1 (acH _))
def fO:ByteArray:=⟨⟨[0,1,2,2,3,3,3,3,4,4,4,4,4,4,4,4,5,5,5,5,5,5,5,5,5,5,5,5,5,5,5,5,6,6,6,6,6,6,6,6,6,6,6,6,6,6,6,6,6,6,6,6,6,6,6,6,6,6,6,6,6,6,6,6,7,7,7,7,7,7,7,7,7,7,7,7,7,7,7,7,7,7,7,7,7,7,7,7,7,7,7,7,7,7,7,7,7,7,7,7,7,7,7,7,7,7,7,7,7,7,7,7,7,7,7,7,7,7,7,7,7,7,7,7,7,7,7,7,8,8,8,8,8,8,8,8,8,8,8,8,8,8,8,8,8,8,8,8,8,8,8,8,8,8,8,8,8,8,8,8,8,8,8,8,8,8,8,8,8,8,8,8,8,8,8,8,8,8,8,8,8,8,8,8,8,8,8,8,8,8,8,8,8,8,8,8,8,8,8,8,8,8,8,8,8,8,8,8,8,8,8,8,8,8,8,8,8,8,8,8,8,8,8,8,8,8,8,8,8,8,8,8,8,8,8,8,8,8,8,8,8,8,8,8,8,8,8,8,8,8,8,8,8,8,8,8]⟩⟩
theorem CQ:∀i:Fin 256,fO.data[(i:Nat)]?=some (UInt8.ofNat (cc i)):=by decide
theorem GY(x:Nat):(x:Int).fdiv (2 ^ min 32 64)=((x/2 ^ 32:Nat):Int):=by rw[show min 32 64=32 from rfl,gJ]
theorem Gk(x:Nat):(x:Int).fdiv (2 ^ min 16 64)=((x/2 ^ 16:Nat):Int):=by rw[show min 16 64=16 from rfl,gJ]
theorem Ry(x:Nat):(x:Int).fdiv (2 ^ min 8 64)=((x/2 ^ 8:Nat):Int):=by rw[show min 8 64=8 from rfl,gJ]
theorem HU{x:Nat}(h:x<256):IntKind.u8.wrap (x:Int)=x:=mG (by omega) (by omega)
theorem iU{x:Nat}(h:x<256):fO.data[x]?=some (UInt8.ofNat (cc x)):=CQ ⟨x,h⟩
theorem ofNat_toNat{a:Nat}(h:a<256):(UInt8.ofNat a).toNat=a:=by
 simp[UInt8.toNat_ofNat,afV h]
theorem Ip:bb (32+16)=48:=by decide
theorem It:bb (48+8)=56:=by decide
theorem HJ:bb (0+16)=16:=by decide
theorem Is:bb (16+8)=24:=by decide
theorem HY:bb (32+8)=40:=by decide
theorem Io:bb (0+8)=8:=by decide
theorem fx:fO.size=256:=by rfl
theorem WD(n:Nat)(H:ab)(x:Nat)(h:x<2 ^ 64):aa T (n+1) (.fn 246) [.int .u64 x] H=some (af5 (cc x),H):=by
 refine ae XS (by rfl) ?_
 simp only[Mo,ah,go_sem,Int.reduceToNat,Nat.reduceAdd,Nat.reduceBEq,Nat.reduceLeDiff,Nat.reduceLT,Nat.reduceMul,Nat.reduceSub,Int.reduceEq,Int.reduceLT,Int.reduceLE,Int.reduceNeg]
 rw[←fO]
 by_cases h32:4294967296≤x
 ·have hd32:decide ((4294967296:Int)≤(x:Int))=true:=acp (by omega)
  have hl32:=iG (x:=x) (k:=32) (by omega)
  obtain⟨y32,hy32⟩:∃z,x/2 ^ 32=z:=⟨_,rfl⟩
  rw[hy32]at hl32
  have hb32:y32<4294967296:=by omega
  by_cases h16:65536≤y32
  ·have hd16:decide ((65536:Int)≤(y32:Int))=true:=acp (by omega)
   have hl16:=iG (x:=y32) (k:=16) (by omega)
   obtain⟨y16,hy16⟩:∃z,y32/2 ^ 16=z:=⟨_,rfl⟩
   rw[hy16]at hl16
   have hb16:y16<65536:=by omega
   by_cases h8:256≤y16
   ·have hd8:decide ((256:Int)≤(y16:Int))=true:=acp (by omega)
    have hl8:=iG (x:=y16) (k:=8) (by omega)
    obtain⟨y8,hy8⟩:∃z,y16/2 ^ 8=z:=⟨_,rfl⟩
    rw[hy8]at hl8
    have hb8:y8<256:=by omega
    have hu:=HU (x:=y8) (by omega)
    have hg:=iU (x:=y8) (by omega)
    have hn:(UInt8.ofNat (cc y8)).toNat=cc y8:=by have:=(cQ (x:=y8) (w:=8)).2 (by omega);exact ofNat_toNat (by omega)
    have hn2:cc y8≤8:=(cQ (x:=y8) (w:=8)).2 (by omega)
    have hz:decide ((y8:Int)<256)=true:=acp (by omega)
    have hz0:decide ((0:Int)≤(y8:Int))=true:=acp (by omega)
    have hw1:bb ((cc y8:Nat):Int)=(cc y8:Nat):=al (by omega) (by omega)
    have hw2:bb (56+((cc y8:Nat):Int))=(cc x:Nat):=by rw[al (by omega) (by omega)];omega
    simp only[go_sem,Int.reduceToNat,Nat.reduceAdd,Nat.reduceBEq,Nat.reduceLeDiff,Nat.reduceLT,Nat.reduceMul,Nat.reduceSub,Int.reduceEq,Int.reduceLT,Int.reduceLE,Int.reduceNeg,hd32,GY,hy32,hd16,Gk,hy16,hd8,Ry,hy8,hu,hg,hn,hz,hz0,hw1,hw2,fx,adl,Ip,It,HJ,Is,HY,Io]
    try rfl
   ·have hd8:decide ((256:Int)≤(y16:Int))=false:=acs (by omega)
    have hu:=HU (x:=y16) (by omega)
    have hg:=iU (x:=y16) (by omega)
    have hn:(UInt8.ofNat (cc y16)).toNat=cc y16:=by have:=(cQ (x:=y16) (w:=8)).2 (by omega);exact ofNat_toNat (by omega)
    have hn2:cc y16≤8:=(cQ (x:=y16) (w:=8)).2 (by omega)
    have hz:decide ((y16:Int)<256)=true:=acp (by omega)
    have hz0:decide ((0:Int)≤(y16:Int))=true:=acp (by omega)
    have hw1:bb ((cc y16:Nat):Int)=(cc y16:Nat):=al (by omega) (by omega)
    have hw2:bb (48+((cc y16:Nat):Int))=(cc x:Nat):=by rw[al (by omega) (by omega)];omega
    simp only[go_sem,Int.reduceToNat,Nat.reduceAdd,Nat.reduceBEq,Nat.reduceLeDiff,Nat.reduceLT,Nat.reduceMul,Nat.reduceSub,Int.reduceEq,Int.reduceLT,Int.reduceLE,Int.reduceNeg,hd32,GY,hy32,hd16,Gk,hy16,hd8,hu,hg,hn,hz,hz0,hw1,hw2,fx,adl,Ip,It,HJ,Is,HY,Io]
    try rfl
  ·have hd16:decide ((65536:Int)≤(y32:Int))=false:=acs (by omega)
   by_cases h8:256≤y32
   ·have hd8:decide ((256:Int)≤(y32:Int))=true:=acp (by omega)
    have hl8:=iG (x:=y32) (k:=8) (by omega)
    obtain⟨y8,hy8⟩:∃z,y32/2 ^ 8=z:=⟨_,rfl⟩
    rw[hy8]at hl8
    have hb8:y8<256:=by omega
    have hu:=HU (x:=y8) (by omega)
    have hg:=iU (x:=y8) (by omega)
    have hn:(UInt8.ofNat (cc y8)).toNat=cc y8:=by have:=(cQ (x:=y8) (w:=8)).2 (by omega);exact ofNat_toNat (by omega)
    have hn2:cc y8≤8:=(cQ (x:=y8) (w:=8)).2 (by omega)
    have hz:decide ((y8:Int)<256)=true:=acp (by omega)
    have hz0:decide ((0:Int)≤(y8:Int))=true:=acp (by omega)
    have hw1:bb ((cc y8:Nat):Int)=(cc y8:Nat):=al (by omega) (by omega)
    have hw2:bb (40+((cc y8:Nat):Int))=(cc x:Nat):=by rw[al (by omega) (by omega)];omega
    simp only[go_sem,Int.reduceToNat,Nat.reduceAdd,Nat.reduceBEq,Nat.reduceLeDiff,Nat.reduceLT,Nat.reduceMul,Nat.reduceSub,Int.reduceEq,Int.reduceLT,Int.reduceLE,Int.reduceNeg,hd32,GY,hy32,hd16,hd8,Ry,hy8,hu,hg,hn,hz,hz0,hw1,hw2,fx,adl,Ip,It,HJ,Is,HY,Io]
    try rfl
   ·have hd8:decide ((256:Int)≤(y32:Int))=false:=acs (by omega)
    have hu:=HU (x:=y32) (by omega)
    have hg:=iU (x:=y32) (by omega)
    have hn:(UInt8.ofNat (cc y32)).toNat=cc y32:=by have:=(cQ (x:=y32) (w:=8)).2 (by omega);exact ofNat_toNat (by omega)
    have hn2:cc y32≤8:=(cQ (x:=y32) (w:=8)).2 (by omega)
    have hz:decide ((y32:Int)<256)=true:=acp (by omega)
    have hz0:decide ((0:Int)≤(y32:Int))=true:=acp (by omega)
    have hw1:bb ((cc y32:Nat):Int)=(cc y32:Nat):=al (by omega) (by omega)
    have hw2:bb (32+((cc y32:Nat):Int))=(cc x:Nat):=by rw[al (by omega) (by omega)];omega
    simp only[go_sem,Int.reduceToNat,Nat.reduceAdd,Nat.reduceBEq,Nat.reduceLeDiff,Nat.reduceLT,Nat.reduceMul,Nat.reduceSub,Int.reduceEq,Int.reduceLT,Int.reduceLE,Int.reduceNeg,hd32,GY,hy32,hd16,hd8,hu,hg,hn,hz,hz0,hw1,hw2,fx,adl,Ip,It,HJ,Is,HY,Io]
    try rfl
 ·have hd32:decide ((4294967296:Int)≤(x:Int))=false:=acs (by omega)
  by_cases h16:65536≤x
  ·have hd16:decide ((65536:Int)≤(x:Int))=true:=acp (by omega)
   have hl16:=iG (x:=x) (k:=16) (by omega)
   obtain⟨y16,hy16⟩:∃z,x/2 ^ 16=z:=⟨_,rfl⟩
   rw[hy16]at hl16
   have hb16:y16<65536:=by omega
   by_cases h8:256≤y16
   ·have hd8:decide ((256:Int)≤(y16:Int))=true:=acp (by omega)
    have hl8:=iG (x:=y16) (k:=8) (by omega)
    obtain⟨y8,hy8⟩:∃z,y16/2 ^ 8=z:=⟨_,rfl⟩
    rw[hy8]at hl8
    have hb8:y8<256:=by omega
    have hu:=HU (x:=y8) (by omega)
    have hg:=iU (x:=y8) (by omega)
    have hn:(UInt8.ofNat (cc y8)).toNat=cc y8:=by have:=(cQ (x:=y8) (w:=8)).2 (by omega);exact ofNat_toNat (by omega)
    have hn2:cc y8≤8:=(cQ (x:=y8) (w:=8)).2 (by omega)
    have hz:decide ((y8:Int)<256)=true:=acp (by omega)
    have hz0:decide ((0:Int)≤(y8:Int))=true:=acp (by omega)
    have hw1:bb ((cc y8:Nat):Int)=(cc y8:Nat):=al (by omega) (by omega)
    have hw2:bb (24+((cc y8:Nat):Int))=(cc x:Nat):=by rw[al (by omega) (by omega)];omega
    simp only[go_sem,Int.reduceToNat,Nat.reduceAdd,Nat.reduceBEq,Nat.reduceLeDiff,Nat.reduceLT,Nat.reduceMul,Nat.reduceSub,Int.reduceEq,Int.reduceLT,Int.reduceLE,Int.reduceNeg,hd32,hd16,Gk,hy16,hd8,Ry,hy8,hu,hg,hn,hz,hz0,hw1,hw2,fx,adl,Ip,It,HJ,Is,HY,Io]
    try rfl
   ·have hd8:decide ((256:Int)≤(y16:Int))=false:=acs (by omega)
    have hu:=HU (x:=y16) (by omega)
    have hg:=iU (x:=y16) (by omega)
    have hn:(UInt8.ofNat (cc y16)).toNat=cc y16:=by have:=(cQ (x:=y16) (w:=8)).2 (by omega);exact ofNat_toNat (by omega)
    have hn2:cc y16≤8:=(cQ (x:=y16) (w:=8)).2 (by omega)
    have hz:decide ((y16:Int)<256)=true:=acp (by omega)
    have hz0:decide ((0:Int)≤(y16:Int))=true:=acp (by omega)
    have hw1:bb ((cc y16:Nat):Int)=(cc y16:Nat):=al (by omega) (by omega)
    have hw2:bb (16+((cc y16:Nat):Int))=(cc x:Nat):=by rw[al (by omega) (by omega)];omega
    simp only[go_sem,Int.reduceToNat,Nat.reduceAdd,Nat.reduceBEq,Nat.reduceLeDiff,Nat.reduceLT,Nat.reduceMul,Nat.reduceSub,Int.reduceEq,Int.reduceLT,Int.reduceLE,Int.reduceNeg,hd32,hd16,Gk,hy16,hd8,hu,hg,hn,hz,hz0,hw1,hw2,fx,adl,Ip,It,HJ,Is,HY,Io]
    try rfl
  ·have hd16:decide ((65536:Int)≤(x:Int))=false:=acs (by omega)
   by_cases h8:256≤x
   ·have hd8:decide ((256:Int)≤(x:Int))=true:=acp (by omega)
    have hl8:=iG (x:=x) (k:=8) (by omega)
    obtain⟨y8,hy8⟩:∃z,x/2 ^ 8=z:=⟨_,rfl⟩
    rw[hy8]at hl8
    have hb8:y8<256:=by omega
    have hu:=HU (x:=y8) (by omega)
    have hg:=iU (x:=y8) (by omega)
    have hn:(UInt8.ofNat (cc y8)).toNat=cc y8:=by have:=(cQ (x:=y8) (w:=8)).2 (by omega);exact ofNat_toNat (by omega)
    have hn2:cc y8≤8:=(cQ (x:=y8) (w:=8)).2 (by omega)
    have hz:decide ((y8:Int)<256)=true:=acp (by omega)
    have hz0:decide ((0:Int)≤(y8:Int))=true:=acp (by omega)
    have hw1:bb ((cc y8:Nat):Int)=(cc y8:Nat):=al (by omega) (by omega)
    have hw2:bb (8+((cc y8:Nat):Int))=(cc x:Nat):=by rw[al (by omega) (by omega)];omega
    simp only[go_sem,Int.reduceToNat,Nat.reduceAdd,Nat.reduceBEq,Nat.reduceLeDiff,Nat.reduceLT,Nat.reduceMul,Nat.reduceSub,Int.reduceEq,Int.reduceLT,Int.reduceLE,Int.reduceNeg,hd32,hd16,hd8,Ry,hy8,hu,hg,hn,hz,hz0,hw1,hw2,fx,adl,Ip,It,HJ,Is,HY,Io]
    try rfl
   ·have hd8:decide ((256:Int)≤(x:Int))=false:=acs (by omega)
    have hu:=HU (x:=x) (by omega)
    have hg:=iU (x:=x) (by omega)
    have hn:(UInt8.ofNat (cc x)).toNat=cc x:=by have:=(cQ (x:=x) (w:=8)).2 (by omega);exact ofNat_toNat (by omega)
    have hn2:cc x≤8:=(cQ (x:=x) (w:=8)).2 (by omega)
    have hz:decide ((x:Int)<256)=true:=acp (by omega)
    have hz0:decide ((0:Int)≤(x:Int))=true:=acp (by omega)
    have hw1:bb ((cc x:Nat):Int)=(cc x:Nat):=al (by omega) (by omega)
    have hw2:bb (0+((cc x:Nat):Int))=(cc x:Nat):=by rw[al (by omega) (by omega)];omega
    simp only[go_sem,Int.reduceToNat,Nat.reduceAdd,Nat.reduceBEq,Nat.reduceLeDiff,Nat.reduceLT,Nat.reduceMul,Nat.reduceSub,Int.reduceEq,Int.reduceLT,Int.reduceLE,Int.reduceNeg,hd32,hd16,hd8,hu,hg,hn,hz,hz0,hw1,hw2,fx,adl,Ip,It,HJ,Is,HY,Io]
    try rfl
end ft
section
namespace ft
abbrev wH(b0:aC)(bs:List Bool)(tl:List aC)(es:List (Nat×Nat)):ab:=⟨b0::wB bs::wA bs::tl,es,0⟩
abbrev ek(bs:List Bool)(w:Nat):List (Nat×Nat):=List.replicate (nb (bs.length+w)-nb bs.length) (1,3)
theorem Oz(n:Nat)(H:ab)(x:Nat)(h:x<2 ^ 64):aa T (n+2) (.fn 233) [.int .u64 x] H=some (af5 (cc x),H):=by
 refine ae Yl (by rfl) ?_
 simp only[Lw,ah,go_sem,simprocAttr,WD _ _ _ h]
theorem PY(n:Nat)(H:ab)(x:Int):aa T (n+1) (.fn 239) [af5 x] H=some (.bool (decide (1≤x)&&decide (x≤4095)),H):=by
 refine ae UP (by rfl) ?_
 simp only[Qb,ah,go_sem,simprocAttr]
 repeat' (with_reducible refine aD (fun _=>?_) (fun _=>?_)<;>simp only[*,go_sem,simprocAttr])
theorem U2(n:Nat)(H:ab):aa T (n+3) (.fn 240) [af5 127] H=some (af5 7,H):=by
 refine ae SW (by rfl) ?_
 have h:∀H,aa T (n+2) (.fn 233) [.int .u64 127] H=some (af5 7,H):=fun H=>Oz n H 127 (by decide)
 have e:IntKind.u64.wrap 127=127:=by decide
 have e3:max (1:Int) 7=7:=by decide
 simp only[NM,ah,go_sem,simprocAttr,e,h,e3]
section
variable(b0:aC)(tl:List aC)(es:List (Nat×Nat))(bs:List Bool)
theorem JE(n:Nat)(w v:Nat)(v':Int)(hw:w≤63)(hv:v<2 ^ 64)(hv':IntKind.u64.wrap v'=v)(hb:bs.length+w≤524288) :
 aa T (n+2) (.fn 231) [.ptr 1 0 0 0,.bool true,.bool true,af5 w,af5 v'] (wH b0 bs tl es)=some (.bc [],wH b0 (bs++bits w v) tl (es++ek bs w)):=by
 refine bm Xo (by rfl) ?_
 have h:=fun es=>Jf n b0 tl es bs w v hw hv (by omega)
 have hx:decide (((bs.length:Int))+w>524288)=false:=acs (by omega)
 have hx2:decide ((524288:Int)<(bs.length:Int)+w)=false:=acs (by omega)
 have hs:bb ((bs.length:Int)+w)=bs.length+w:=al (by omega) (by omega)
 have l0:decide (0<tl.length+1+1+1)=true:=acp (by omega)
 have l1:decide (1<tl.length+1+1+1)=true:=acp (by omega)
 have l2:decide (2<tl.length+1+1+1)=true:=acp (by omega)
 have l3':decide (tl.length+1+1+1<3)=false:=acs (by omega)
 have l3:decide (3≤tl.length+1+1+1)=true:=acp (by omega)
 simp only[Mr,go_sem,simprocAttr,hs,hx,hx2,hv',h,l0,l1,l2,l3,l3',acI,acP,ite_self,if_true]
theorem Ta(n:Nat)(f:Bool)(hb:bs.length+1≤524288) :
 aa T (n+3) (.fn 220) [.ptr 1 0 0 0,.bool f] (wH b0 bs tl es)=some (.bc [],wH b0 (bs++bits 1 (bt f)) tl (es++ek bs 1)):=by
 refine bm Sm (by rfl) ?_
 have h:=fun es=>JE b0 tl es bs n 1 (bt f) (bt f) (by omega) (by have:=xn f;omega) (by have:=xn f;exact nz (by omega) (by omega)) hb
 have l1:decide (1<tl.length+1+1+1)=true:=acp (by omega)
 have l3':decide (tl.length+1+1+1<3)=false:=acs (by omega)
 have l3:decide (3≤tl.length+1+1+1)=true:=acp (by omega)
 cases f with
 |false=>
  have h:∀es,aa T (n+2) (.fn 231) [.ptr 1 0 0 0,.bool true,.bool true,af5 1,af6] (wH b0 bs tl es)=some (.bc [],wH b0 (bs++bits 1 0) tl (es++ek bs 1)):=h
  simp only[I4,bt,go_sem,simprocAttr,h,l1,l3,l3',acI,acP,ite_self,if_true]
 |true=>
  have h:∀es,aa T (n+2) (.fn 231) [.ptr 1 0 0 0,.bool true,.bool true,af5 1,af5 1] (wH b0 bs tl es)=some (.bc [],wH b0 (bs++bits 1 1) tl (es++ek bs 1)):=h
  simp only[I4,bt,go_sem,simprocAttr,h,l1,l3,l3',acI,acP,ite_self,if_true]
theorem LA(n:Nat)(w v:Nat)(h1:1≤w)(hw:w≤62)(hv:v<2 ^ w)(hb:bs.length+w≤524288) :
 aa T (n+3) (.fn 218) [.ptr 1 0 0 0,af5 w,af5 v] (wH b0 bs tl es)=some (.bc [],wH b0 (bs++bits w v) tl (es++ek bs w)):=by
 refine bm XL (by rfl) ?_
 have h63:2 ^ w≤2 ^ 62:=aeR (by decide) hw
 have hv':IntKind.u64.wrap (v:Int)=v:=nz (by omega) (by omega)
 have h:=fun es=>JE b0 tl es bs n w v v (by omega) (by omega) hv' hb
 have h97:=fun H=>Oz n H v (by omega)
 have hl:=(cQ (x:=v) (w:=w)).2 hv
 have x1:decide ((1:Int)≤w)=true:=acp (by omega)
 have x2:decide ((w:Int)≤63)=true:=acp (by omega)
 have x3:decide (((cc v:Nat):Int)≤w)=true:=acp (by omega)
 have l1:decide (1<tl.length+1+1+1)=true:=acp (by omega)
 have l3':decide (tl.length+1+1+1<3)=false:=acs (by omega)
 have l3:decide (3≤tl.length+1+1+1)=true:=acp (by omega)
 simp only[Nn,go_sem,simprocAttr,h,h97,hv',x1,x2,x3,l1,l3,l3',acI,acP,ite_self,if_true]
end
end ft
end
section
namespace ft
def xj(x:Int):Nat:=(x%18446744073709551616).toNat
theorem I1(x:Int):xj x<2 ^ 64:=by unfold xj;omega
theorem DQ(x:Int):IntKind.u64.wrap x=(xj x:Nat):=by
 have e:IntKind.u64.wrap x=x%18446744073709551616:=by simp[IntKind.wrap,IntKind.bits,IntKind.signed]
 unfold xj;rw[e];omega
theorem cn{bs bs':List Bool}{a b:Nat}(h:bs'.length=bs.length+a):ek bs a++ek bs' b=ek bs (a+b):=by
 unfold ek
 rw[List.replicate_append_replicate,h]
 congr 1
 unfold nb;omega
section
variable(b0:aC)(tl:List aC)(es:List (Nat×Nat))(bs:List Bool)
theorem V6(n:Nat)(x:Int)(h0: -32768≤x)(h1:x≤32767)(hb:bs.length+16≤524288) :
 aa T (n+3) (.fn 216) [.ptr 1 0 0 0,af5 16,af5 x] (wH b0 bs tl es)=some (.bc [],wH b0 (bs++bits 16 (xj x)) tl (es++ek bs 16)):=by
 refine bm Vj (by rfl) ?_
 have h:∀es,aa T (n+2) (.fn 231) [.ptr 1 0 0 0,.bool true,.bool true,af5 16,af5 x] (wH b0 bs tl es)=some (.bc [],wH b0 (bs++bits 16 (xj x)) tl (es++ek bs 16)):=fun es=>JE b0 tl es bs n 16 (xj x) x (by omega) (I1 x) (DQ x) hb
 have x1:decide (-32768≤x)=true:=acp h0
 have x2:decide (x≤32767)=true:=acp h1
 have m1:max (16:Int) 1=16:=by decide
 have m2:bb (16-1)=15:=by decide
 have m3:bb (-1*2 ^ min 15 64)= -32768:=by decide
 have m4:bb (1*2 ^ min 15 64)=32768:=by decide
 have m5:bb (32768-1)=32767:=by decide
 have l1:decide (1<tl.length+1+1+1)=true:=acp (by omega)
 have l3':decide (tl.length+1+1+1<3)=false:=acs (by omega)
 have l3:decide (3≤tl.length+1+1+1)=true:=acp (by omega)
 simp only[Qt,go_sem,Int.reduceToNat,Nat.reduceAdd,Nat.reduceBEq,Nat.reduceLeDiff,Nat.reduceLT,Nat.reduceMul,Nat.reduceSub,Int.reduceEq,Int.reduceLT,Int.reduceLE,Int.reduceNeg,h,x1,x2,m1,m2,m3,m4,m5,l1,l3,l3',acI,acP,ite_self,if_true]
def iK(x:ByteArray):Nat→List Bool
 |0=>[]
 |i+1=>iK x i++bits 8 ((x.data[i]?).getD 0).toNat
theorem gW(x:ByteArray):∀i,(iK x i).length=8*i
 |0=>rfl
 |i+1=>by simp only[iK,acn,gW x i,aq];omega
theorem Xh(n:Nat)(x:ByteArray)(hx:x.size≤127)(hb:bs.length≤1000) :
 aa T (n+4) (.fn 229) [.ptr 1 0 0 0,af5 127,.str x] (wH b0 bs tl es)=some (.bc [],wH b0 (bs++bits 7 x.size++iK x x.size) tl (es++ek bs (7+8*x.size))):=by
 refine bm NF (by rfl) ?_
 have h101:=fun H=>PY (n+2) H 127
 have h102:=fun H=>U2 n H
 have x1:decide ((127:Int)<(x.size:Int))=false:=acs (by omega)
 have w1:bb ((bs.length:Int)+7)=(bs.length:Int)+7:=al (by omega) (by omega)
 have w2:bb (8*(x.size:Int))=8*(x.size:Int):=al (by omega) (by omega)
 have w3:bb ((bs.length:Int)+7+8*(x.size:Int))=(bs.length:Int)+7+8*(x.size:Int):=al (by omega) (by omega)
 have x2:decide ((524288:Int)<(bs.length:Int)+7+8*(x.size:Int))=false:=acs (by omega)
 have hu:IntKind.u64.wrap (x.size:Int)=(x.size:Nat):=nz (by omega) (by omega)
 have h103:∀es,aa T (n+3) (.fn 241) [.ptr 1 0 0 0,af5 7,.int .u64 x.size] (wH b0 bs tl es)=some (.bc [],wH b0 (bs++bits 7 x.size) tl (es++ek bs 7)):=fun es=>Jf (n+2) b0 tl es bs 7 x.size (by omega) (by omega) (by omega)
 have l0:decide (0<tl.length+1+1+1)=true:=acp (by omega)
 have l1:decide (1<tl.length+1+1+1)=true:=acp (by omega)
 have l2:decide (2<tl.length+1+1+1)=true:=acp (by omega)
 have l3':decide (tl.length+1+1+1<3)=false:=acs (by omega)
 have l3:decide (3≤tl.length+1+1+1)=true:=acp (by omega)
 have hN:decide (max 2 0≤tl.length+1+1+1)=true:=acp (by omega)
 simp only[J7,go_sem,Int.reduceToNat,Nat.reduceAdd,Nat.reduceBEq,Nat.reduceLeDiff,Nat.reduceLT,Nat.reduceMul,Nat.reduceSub,Int.reduceEq,Int.reduceLT,Int.reduceLE,Int.reduceNeg,h101,h102,x1,w1,w2,w3,x2,hu,h103,l0,l1,l2,l3,l3',acI,acP,ite_self,if_true]
 have hP:(bs++bits 7 x.size).length=bs.length+7:=by rw[acn,aq]
 obtain⟨P,hPd⟩:∃P,bs++bits 7 x.size=P:=⟨_,rfl⟩
 rw[hPd]at hP⊢
 rw[←cn (bs':=P) (by omega),←aco]
 have hx2:x.size≤maxLen:=ac7 hx (by decide)
 refine ba (fun i=>([(0,.ptr 1 0 0 0),(2,.str x),(15,af5 x.size),(16,af5 i)],⟨b0::wB (P++iK x i)::wA (P++iK x i)::tl,ek P (8*i),0⟩)) (fun _=>True) x.size ?_ trivial ?_
 ·simp only[go_sem,Int.reduceToNat,Nat.reduceAdd,Nat.reduceBEq,Nat.reduceLeDiff,Nat.reduceLT,Nat.reduceMul,Nat.reduceSub,Int.reduceEq,Int.reduceLT,Int.reduceLE,Int.reduceNeg,hN,l0,l1,l2,l3,l3',iK,adn,Nat.mul_zero,ad9,afe,aej]
  rw[show ek P 0=[] by simp[ek]]
 ·intro i hi _
  rcases acz i x.size with hlt|hge
  ·have hs:=bE hlt hx2
   have hd:x.data[i]?=some x.data[i]:=adD (by exact hlt)
   have hv:=afR x.data[i]
   have hu8:IntKind.u64.wrap ((x.data[i].toNat:Nat):Int)=(x.data[i].toNat:Nat):=nz (by omega) (by omega)
   have h1:∀es,aa T (n+3) (.fn 241) [.ptr 1 0 0 0,af5 8,.int .u64 (x.data[i].toNat:Nat)] (wH b0 (P++iK x i) tl es)=some (.bc [],wH b0 (P++iK x i++bits 8 x.data[i].toNat) tl (es++ek (P++iK x i) 8)):=
    fun es=>Jf (n+2) b0 tl es (P++iK x i) 8 x.data[i].toNat (by omega) (by omega) (by rw[acn,gW];omega)
   have hB:P++iK x i++bits 8 x.data[i].toNat=P++iK x (i+1):=by simp only[iK,hd,ad3,aco]
   have hE:ek P (8*i)++ek (P++iK x i) 8=ek P (8*(i+1)):=by rw[cn (by rw[acn,gW])];rfl
   rw[hB]at h1
   simp only[go_sem,Int.reduceToNat,Nat.reduceAdd,Nat.reduceBEq,Nat.reduceLeDiff,Nat.reduceLT,Nat.reduceMul,Nat.reduceSub,Int.reduceEq,Int.reduceLT,Int.reduceLE,Int.reduceNeg,hlt,hd,hu8,h1,hE,hs,hN,l0,l1,l2,l3,l3',acI,acP,ite_self,if_true]
   refine⟨by first|trivial|omega,by first|trivial|rfl,trivial⟩
  ·obtain rfl:i=x.size:=by omega
   have hd:decide (x.size<x.size)=false:=acs (by omega)
   simp only[go_sem,Int.reduceToNat,Nat.reduceAdd,Nat.reduceBEq,Nat.reduceLeDiff,Nat.reduceLT,Nat.reduceMul,Nat.reduceSub,Int.reduceEq,Int.reduceLT,Int.reduceLE,Int.reduceNeg,hd,hN,l0,l1,l2,l3,l3',acI,acP,acO,adb,ite_self,if_true,acW,aco]
end
end ft
end
section
namespace ft
abbrev pW:SV:=.agg [.ptr 1 0 0 0,.dj]
section
variable(n:Nat)(cs:List SV)(t1 t2 t3:aC)(es:List (Nat×Nat))(bs:List Bool)
theorem fQ(w v j:Nat)(hj:cs[j]?=some (af5 v))(h1:1≤w)(hw:w≤62)(hv:v<2 ^ w)(hb:bs.length+w≤524288) :
 aa T (n+4) (.fn 201) [pW,af5 w,.ptr 0 0 0 j] (wH (.box cs) bs [t1,t2] es)=some (.bc [],wH (.box cs) (bs++bits w v) [t1,t2] (es++ek bs w)):=by
 refine bm NU (by rfl) ?_
 have h:=fun t es=>LA (.box cs) [t1,t2,t] es bs n w v h1 hw hv hb
 simp only[Kl,go_sem,simprocAttr,h,hj,acR,acV,acI,acP,ite_self,if_true]
theorem qX(w v j:Nat)(hj:cs[j]?=some (af5 v))(h1:1≤w)(hw:w≤62)(hv:v<2 ^ w)(hb:bs.length+w≤524288) :
 aa T (n+4) (.fn 201) [pW,af5 w,.ptr 0 0 0 j] (wH (.box cs) bs [t1,t2,t3] es)=some (.bc [],wH (.box cs) (bs++bits w v) [t1,t2,t3] (es++ek bs w)):=by
 refine bm NU (by rfl) ?_
 have h:=fun t es=>LA (.box cs) [t1,t2,t3,t] es bs n w v h1 hw hv hb
 simp only[Kl,go_sem,simprocAttr,h,hj,acR,acV,acI,acP,acO,adb,acW,aco,ite_self,if_true]
theorem JH(x:ByteArray)(j:Nat)(hj:cs[j]?=some (.str x))(hx:x.size≤127)(hb:bs.length≤1000) :
 aa T (n+5) (.fn 215) [pW,.ptr 0 0 0 j] (wH (.box cs) bs [t1,t2,t3] es)=some (.bc [],wH (.box cs) (bs++bits 7 x.size++iK x x.size) [t1,t2,t3] (es++ek bs (7+8*x.size))):=by
 refine bm ME (by rfl) ?_
 have h:=fun t es=>Xh (.box cs) [t1,t2,t3,t] es bs n x hx hb
 simp only[Jy,go_sem,simprocAttr,h,hj,acR,acV,acI,acP,acO,adb,acW,aco,ite_self,if_true]
def an(d:Int):List Bool:=bits 1 (bt (decide (0≤d)))++bif decide (0≤d)then bits 5 d.toNat else[]
def bF(d:Int):Nat:=1+bif decide (0≤d)then 5 else 0
theorem bu(d:Int):(an d).length=bF d:=by
 unfold an bF;cases decide (0≤d)<;>simp[aq]
section
variable(k s d q o c m e t u v:Int)(x:ByteArray)
theorem yg(hd:d<32)(hd0:d<0→d= -1)(hb:bs.length≤1000) :
 aa T (n+6) (.fn 202) [pW,.ptr 0 0 0 2] (wH (aC.box (fr k s d q o c m e t u v x)) bs [t1,t2] es)=some (.bc [],wH (aC.box (fr k s d q o c m e t u v x)) (bs++an d) [t1,t2] (es++ek bs (bF d))):=by
 refine bm WT (by rfl) ?_
 have h87:=fun tt es f=>Ta (aC.box (fr k s d q o c m e t u v x)) [t1,t2,tt] es bs (n+2) f (by omega)
 cases hf:decide (0≤d)with
 |false=>
  have h87:=fun tt es=>h87 tt es false
  have hd1:d= -1:=by simp only[acx]at hf;omega
  subst hd1
  simp only[J2,go_sem,simprocAttr,h87,hf,an,bF,acR,acV,acI,acP,acO,adb,acW,aco,ite_self,if_true]
 |true=>
  have h87:=fun tt es=>h87 tt es true
  simp only[acr]at hf
  have h61:∀tt es,aa T (n+5) (.fn 201) [pW,af5 5,.ptr 0 0 0 2] (wH (aC.box (fr k s d q o c m e t u v x)) (bs++bits 1 (bt true)) [t1,t2,tt] es)=some (.bc [],wH (aC.box (fr k s d q o c m e t u v x)) (bs++bits 1 (bt true)++bits 5 d.toNat) [t1,t2,tt] (es++ek (bs++bits 1 (bt true)) 5)):=
   fun t' es=>qX (n+1) _ t1 t2 t' es (bs++bits 1 (bt true)) 5 d.toNat 2 (by rw[acL hf];rfl) (by omega) (by omega) (by omega) (by rw[acn,aq];omega)
  have hf2:decide (0≤d)=true:=acp hf
  have hk:ek bs 6=ek bs 1++ek (bs++bits 1 (bt true)) 5:=(cn (bs:=bs) (bs':=bs++bits 1 (bt true)) (a:=1) (b:=5) (by rw[acn,aq])).symm
  simp only[J2,go_sem,simprocAttr,h87,h61,hf2,an,bF,hk,acR,acV,acI,acP,acO,adb,acW,aco,ite_self,if_true]
theorem Up(hc:0≤c∧c≤255)(hm:0≤m∧m≤65535)(hx:x.size≤127)(hb:bs.length≤900) :
 aa T (n+6) (.fn 197) [pW,.ptr 0 0 0 0] (wH (aC.box (fr k s d q o c m e t u v x)) bs [t1,t2] es)=some (.bc [],wH (aC.box (fr k s d q o c m e t u v x)) (bs++(bits 8 c.toNat++(bits 16 m.toNat++(bits 7 x.size++(iK x x.size))))) [t1,t2] (es++ek bs (24+(7+8*x.size)))):=by
 refine bm Ps (by rfl) ?_
 have h0:∀t' es,aa T (n+5) (.fn 201) [pW,af5 8,.ptr 0 0 0 5] (wH (aC.box (fr k s d q o c m e t u v x)) bs [t1,t2,t'] es)=some (.bc [],wH (aC.box (fr k s d q o c m e t u v x)) (bs++(bits 8 c.toNat)) [t1,t2,t'] (es++ek bs 8)):=fun t' es=>by
  have:=qX (n+1) _ t1 t2 t' es bs 8 c.toNat 5 (show(fr k s d q o c m e t u v x)[5]?=_ by rw[acL hc.1];rfl) (by omega) (by omega) (by omega) (by omega)
  try simp only[aco]at this
  exact this
 have l0:(bs++(bits 8 c.toNat)).length=bs.length+8:=by simp only[acn,aq]<;>omega
 have h1:∀t' es,aa T (n+5) (.fn 201) [pW,af5 16,.ptr 0 0 0 6] (wH (aC.box (fr k s d q o c m e t u v x)) (bs++(bits 8 c.toNat)) [t1,t2,t'] es)=some (.bc [],wH (aC.box (fr k s d q o c m e t u v x)) (bs++(bits 8 c.toNat++(bits 16 m.toNat))) [t1,t2,t'] (es++ek (bs++(bits 8 c.toNat)) 16)):=fun t' es=>by
  have:=qX (n+1) _ t1 t2 t' es (bs++(bits 8 c.toNat)) 16 m.toNat 6 (show(fr k s d q o c m e t u v x)[6]?=_ by rw[acL hm.1];rfl) (by omega) (by omega) (by omega) (by rw[l0];omega)
  try simp only[aco]at this
  exact this
 have l1:(bs++(bits 8 c.toNat++(bits 16 m.toNat))).length=bs.length+24:=by simp only[acn,aq]<;>omega
 have ht:∀t' es,aa T (n+5) (.fn 215) [pW,.ptr 0 0 0 11] (wH (aC.box (fr k s d q o c m e t u v x)) (bs++(bits 8 c.toNat++(bits 16 m.toNat))) [t1,t2,t'] es)=some (.bc [],wH (aC.box (fr k s d q o c m e t u v x)) (bs++(bits 8 c.toNat++(bits 16 m.toNat++(bits 7 x.size++(iK x x.size))))) [t1,t2,t'] (es++ek (bs++(bits 8 c.toNat++(bits 16 m.toNat))) (7+8*x.size))):=fun t' es=>by
  have:=JH n _ t1 t2 t' es (bs++(bits 8 c.toNat++(bits 16 m.toNat))) x 11 (show(fr k s d q o c m e t u v x)[11]?=some (.str x)from rfl) hx (by rw[l1];omega)
  try simp only[aco]at this
  exact this
 have hk:ek bs (24+(7+8*x.size))=ek bs 8++ek (bs++(bits 8 c.toNat)) 16++ek (bs++(bits 8 c.toNat++(bits 16 m.toNat))) (7+8*x.size):=by rw[cn l0,cn l1]
 simp only[aco]at hk
 rw[hk]
 simp only[Kr,go_sem,simprocAttr,h0,h1,ht,acR,acV,acI,acP,acO,adb,acW,aco,ite_self,if_true]
theorem S2(ht:0≤t∧t≤109951162)(hu:0≤u∧u≤65535)(hv:0≤v∧v≤65535)(hx:x.size≤127)(hb:bs.length≤900) :
 aa T (n+6) (.fn 199) [pW,.ptr 0 0 0 0] (wH (aC.box (fr k s d q o c m e t u v x)) bs [t1,t2] es)=some (.bc [],wH (aC.box (fr k s d q o c m e t u v x)) (bs++(bits 27 t.toNat++(bits 16 u.toNat++(bits 16 v.toNat++(bits 7 x.size++(iK x x.size)))))) [t1,t2] (es++ek bs (59+(7+8*x.size)))):=by
 refine bm PV (by rfl) ?_
 have h0:∀t' es,aa T (n+5) (.fn 201) [pW,af5 27,.ptr 0 0 0 8] (wH (aC.box (fr k s d q o c m e t u v x)) bs [t1,t2,t'] es)=some (.bc [],wH (aC.box (fr k s d q o c m e t u v x)) (bs++(bits 27 t.toNat)) [t1,t2,t'] (es++ek bs 27)):=fun t' es=>by
  have:=qX (n+1) _ t1 t2 t' es bs 27 t.toNat 8 (show(fr k s d q o c m e t u v x)[8]?=_ by rw[acL ht.1];rfl) (by omega) (by omega) (by omega) (by omega)
  try simp only[aco]at this
  exact this
 have l0:(bs++(bits 27 t.toNat)).length=bs.length+27:=by simp only[acn,aq]<;>omega
 have h1:∀t' es,aa T (n+5) (.fn 201) [pW,af5 16,.ptr 0 0 0 9] (wH (aC.box (fr k s d q o c m e t u v x)) (bs++(bits 27 t.toNat)) [t1,t2,t'] es)=some (.bc [],wH (aC.box (fr k s d q o c m e t u v x)) (bs++(bits 27 t.toNat++(bits 16 u.toNat))) [t1,t2,t'] (es++ek (bs++(bits 27 t.toNat)) 16)):=fun t' es=>by
  have:=qX (n+1) _ t1 t2 t' es (bs++(bits 27 t.toNat)) 16 u.toNat 9 (show(fr k s d q o c m e t u v x)[9]?=_ by rw[acL hu.1];rfl) (by omega) (by omega) (by omega) (by rw[l0];omega)
  try simp only[aco]at this
  exact this
 have l1:(bs++(bits 27 t.toNat++(bits 16 u.toNat))).length=bs.length+43:=by simp only[acn,aq]<;>omega
 have h2:∀t' es,aa T (n+5) (.fn 201) [pW,af5 16,.ptr 0 0 0 10] (wH (aC.box (fr k s d q o c m e t u v x)) (bs++(bits 27 t.toNat++(bits 16 u.toNat))) [t1,t2,t'] es)=some (.bc [],wH (aC.box (fr k s d q o c m e t u v x)) (bs++(bits 27 t.toNat++(bits 16 u.toNat++(bits 16 v.toNat)))) [t1,t2,t'] (es++ek (bs++(bits 27 t.toNat++(bits 16 u.toNat))) 16)):=fun t' es=>by
  have:=qX (n+1) _ t1 t2 t' es (bs++(bits 27 t.toNat++(bits 16 u.toNat))) 16 v.toNat 10 (show(fr k s d q o c m e t u v x)[10]?=_ by rw[acL hv.1];rfl) (by omega) (by omega) (by omega) (by rw[l1];omega)
  try simp only[aco]at this
  exact this
 have l2:(bs++(bits 27 t.toNat++(bits 16 u.toNat++(bits 16 v.toNat)))).length=bs.length+59:=by simp only[acn,aq]<;>omega
 have hT:∀t' es,aa T (n+5) (.fn 215) [pW,.ptr 0 0 0 11] (wH (aC.box (fr k s d q o c m e t u v x)) (bs++(bits 27 t.toNat++(bits 16 u.toNat++(bits 16 v.toNat)))) [t1,t2,t'] es)=some (.bc [],wH (aC.box (fr k s d q o c m e t u v x)) (bs++(bits 27 t.toNat++(bits 16 u.toNat++(bits 16 v.toNat++(bits 7 x.size++(iK x x.size)))))) [t1,t2,t'] (es++ek (bs++(bits 27 t.toNat++(bits 16 u.toNat++(bits 16 v.toNat)))) (7+8*x.size))):=fun t' es=>by
  have:=JH n _ t1 t2 t' es (bs++(bits 27 t.toNat++(bits 16 u.toNat++(bits 16 v.toNat)))) x 11 (show(fr k s d q o c m e t u v x)[11]?=some (.str x)from rfl) hx (by rw[l2];omega)
  try simp only[aco]at this
  exact this
 have hk:ek bs (59+(7+8*x.size))=ek bs 27++ek (bs++(bits 27 t.toNat)) 16++ek (bs++(bits 27 t.toNat++(bits 16 u.toNat))) 16++ek (bs++(bits 27 t.toNat++(bits 16 u.toNat++(bits 16 v.toNat)))) (7+8*x.size):=by rw[cn l0,cn l1,cn l2]
 simp only[aco]at hk
 rw[hk]
 simp only[Iz,go_sem,simprocAttr,h0,h1,h2,hT,acR,acV,acI,acP,acO,adb,acW,aco,ite_self,if_true]
theorem Yi(hx:x.size≤127)(hb:bs.length≤900) :
 aa T (n+6) (.fn 200) [pW,.ptr 0 0 0 0] (wH (aC.box (fr k s d q o c m e t u v x)) bs [t1,t2] es)=some (.bc [],wH (aC.box (fr k s d q o c m e t u v x)) (bs++(bits 7 x.size++(iK x x.size))) [t1,t2] (es++ek bs (7+8*x.size))):=by
 refine bm PW (by rfl) ?_
 have ht:∀t' es,aa T (n+5) (.fn 215) [pW,.ptr 0 0 0 11] (wH (aC.box (fr k s d q o c m e t u v x)) bs [t1,t2,t'] es)=some (.bc [],wH (aC.box (fr k s d q o c m e t u v x)) (bs++(bits 7 x.size++(iK x x.size))) [t1,t2,t'] (es++ek bs (7+8*x.size))):=fun t' es=>by
  have:=JH n _ t1 t2 t' es bs x 11 (show(fr k s d q o c m e t u v x)[11]?=some (.str x)from rfl) hx (by omega)
  try simp only[aco]at this
  exact this
 simp only[IT,go_sem,simprocAttr,ht,acR,acV,acI,acP,acO,adb,acW,aco,ite_self,if_true]
theorem Wt(h0: -32768≤e)(h1:e≤32767)(hb:bs.length≤900) :
 aa T (n+4) (.fn 198) [pW,.ptr 0 0 0 0] (wH (aC.box (fr k s d q o c m e t u v x)) bs [t1,t2] es)=some (.bc [],wH (aC.box (fr k s d q o c m e t u v x)) (bs++bits 16 (xj e)) [t1,t2] (es++ek bs 16)):=by
 refine bm Wm (by rfl) ?_
 have h:=fun t' es=>V6 (aC.box (fr k s d q o c m e t u v x)) [t1,t2,t'] es bs n e h0 h1 (by omega)
 simp only[Mq,go_sem,simprocAttr,h,acR,acV,acI,acP,acO,adb,acW,aco,ite_self,if_true]
end
end
end ft
end
section
namespace ft
theorem fD(d:Int):bF d≤6:=by unfold bF;cases decide (0≤d)<;>simp
section
variable(n:Nat)(es:List (Nat×Nat))(bs:List Bool)
theorem Nr(s d q o c m e t u v:Int)(x:ByteArray)(hs:0≤s∧s≤31)(hd:d<32)(hd0:d<0→d= -1)(hq:0≤q∧q≤255)(ho:0≤o∧o≤255)(hc:0≤c∧c≤255)(hm:0≤m∧m≤65535)(hx:x.size≤127)(hb:bs.length≤100) :
 aa T (n+7) (.fn 176) [pW,.ptr 0 0 0 0] (wH (.box (fr 1 s d q o c m e t u v x)) bs [] es)=some (.bool true,wH (.box (fr 1 s d q o c m e t u v x)) (bs++(bits 3 1++(bits 5 s.toNat++(an d++(bits 8 q.toNat++(bits 8 o.toNat++(bits 8 c.toNat++(bits 16 m.toNat++(bits 7 x.size++(iK x x.size)))))))))) [] (es++ek bs ((24+bF d)+(24+(7+8*x.size))))):=by
 refine bm zk (by rfl) ?_
 have h0:∀t1 t2 es,aa T (n+6) (.fn 201) [pW,af5 3,.ptr 0 0 0 0] (wH (.box (fr 1 s d q o c m e t u v x)) bs [t1,t2] es)=some (.bc [],wH (.box (fr 1 s d q o c m e t u v x)) (bs++(bits 3 1)) [t1,t2] (es++ek bs 3)):=fun t1 t2 es=>by
  have:=fQ (n+2) (fr 1 s d q o c m e t u v x) t1 t2 es bs 3 1 0 rfl (by omega) (by omega) (by omega) (by omega)
  try simp only[aco]at this
  exact this
 have l0:(bs++(bits 3 1)).length=bs.length+(3):=by simp only[acn,aq,bu]<;>omega
 have h1:∀t1 t2 es,aa T (n+6) (.fn 201) [pW,af5 5,.ptr 0 0 0 1] (wH (.box (fr 1 s d q o c m e t u v x)) (bs++(bits 3 1)) [t1,t2] es)=some (.bc [],wH (.box (fr 1 s d q o c m e t u v x)) (bs++(bits 3 1++(bits 5 s.toNat))) [t1,t2] (es++ek (bs++(bits 3 1)) 5)):=fun t1 t2 es=>by
  have:=fQ (n+2) (fr 1 s d q o c m e t u v x) t1 t2 es (bs++(bits 3 1)) 5 s.toNat 1 (show(fr 1 s d q o c m e t u v x)[1]?=_ by rw[acL hs.1];rfl) (by omega) (by omega) (by omega) (by have:=fD d;rw[l0];omega)
  try simp only[aco]at this
  exact this
 have l1:(bs++(bits 3 1++(bits 5 s.toNat))).length=bs.length+(8):=by simp only[acn,aq,bu]<;>omega
 have h2:∀t1 t2 es,aa T (n+6) (.fn 202) [pW,.ptr 0 0 0 2] (wH (.box (fr 1 s d q o c m e t u v x)) (bs++(bits 3 1++(bits 5 s.toNat))) [t1,t2] es)=some (.bc [],wH (.box (fr 1 s d q o c m e t u v x)) (bs++(bits 3 1++(bits 5 s.toNat++(an d)))) [t1,t2] (es++ek (bs++(bits 3 1++(bits 5 s.toNat))) (bF d))):=fun t1 t2 es=>by
  have:=yg n t1 t2 es (bs++(bits 3 1++(bits 5 s.toNat))) 1 s d q o c m e t u v x hd hd0 (by rw[l1];omega)
  try simp only[aco]at this
  exact this
 have l2:(bs++(bits 3 1++(bits 5 s.toNat++(an d)))).length=bs.length+(8+bF d):=by simp only[acn,aq,bu]<;>omega
 have h3:∀t1 t2 es,aa T (n+6) (.fn 201) [pW,af5 8,.ptr 0 0 0 3] (wH (.box (fr 1 s d q o c m e t u v x)) (bs++(bits 3 1++(bits 5 s.toNat++(an d)))) [t1,t2] es)=some (.bc [],wH (.box (fr 1 s d q o c m e t u v x)) (bs++(bits 3 1++(bits 5 s.toNat++(an d++(bits 8 q.toNat))))) [t1,t2] (es++ek (bs++(bits 3 1++(bits 5 s.toNat++(an d)))) 8)):=fun t1 t2 es=>by
  have:=fQ (n+2) (fr 1 s d q o c m e t u v x) t1 t2 es (bs++(bits 3 1++(bits 5 s.toNat++(an d)))) 8 q.toNat 3 (show(fr 1 s d q o c m e t u v x)[3]?=_ by rw[acL hq.1];rfl) (by omega) (by omega) (by omega) (by have:=fD d;rw[l2];omega)
  try simp only[aco]at this
  exact this
 have l3:(bs++(bits 3 1++(bits 5 s.toNat++(an d++(bits 8 q.toNat))))).length=bs.length+(16+bF d):=by simp only[acn,aq,bu]<;>omega
 have h4:∀t1 t2 es,aa T (n+6) (.fn 201) [pW,af5 8,.ptr 0 0 0 4] (wH (.box (fr 1 s d q o c m e t u v x)) (bs++(bits 3 1++(bits 5 s.toNat++(an d++(bits 8 q.toNat))))) [t1,t2] es)=some (.bc [],wH (.box (fr 1 s d q o c m e t u v x)) (bs++(bits 3 1++(bits 5 s.toNat++(an d++(bits 8 q.toNat++(bits 8 o.toNat)))))) [t1,t2] (es++ek (bs++(bits 3 1++(bits 5 s.toNat++(an d++(bits 8 q.toNat))))) 8)):=fun t1 t2 es=>by
  have:=fQ (n+2) (fr 1 s d q o c m e t u v x) t1 t2 es (bs++(bits 3 1++(bits 5 s.toNat++(an d++(bits 8 q.toNat))))) 8 o.toNat 4 (show(fr 1 s d q o c m e t u v x)[4]?=_ by rw[acL ho.1];rfl) (by omega) (by omega) (by omega) (by have:=fD d;rw[l3];omega)
  try simp only[aco]at this
  exact this
 have l4:(bs++(bits 3 1++(bits 5 s.toNat++(an d++(bits 8 q.toNat++(bits 8 o.toNat)))))).length=bs.length+(24+bF d):=by simp only[acn,aq,bu]<;>omega
 have hb1:∀t1 t2 es,aa T (n+6) (.fn 197) [pW,.ptr 0 0 0 0] (wH (.box (fr 1 s d q o c m e t u v x)) (bs++(bits 3 1++(bits 5 s.toNat++(an d++(bits 8 q.toNat++(bits 8 o.toNat)))))) [t1,t2] es)=some (.bc [],wH (.box (fr 1 s d q o c m e t u v x)) (bs++(bits 3 1++(bits 5 s.toNat++(an d++(bits 8 q.toNat++(bits 8 o.toNat++(bits 8 c.toNat++(bits 16 m.toNat++(bits 7 x.size++(iK x x.size)))))))))) [t1,t2] (es++ek (bs++(bits 3 1++(bits 5 s.toNat++(an d++(bits 8 q.toNat++(bits 8 o.toNat)))))) (24+(7+8*x.size)))):=fun t1 t2 es=>by
  have:=Up n t1 t2 es (bs++(bits 3 1++(bits 5 s.toNat++(an d++(bits 8 q.toNat++(bits 8 o.toNat)))))) 1 s d q o c m e t u v x hc hm hx (by have:=fD d;rw[l4];omega)
  try simp only[aco]at this
  exact this
 have hk:ek bs ((24+bF d)+(24+(7+8*x.size)))=ek bs 3++ek (bs++(bits 3 1)) 5++ek (bs++(bits 3 1++(bits 5 s.toNat))) (bF d)++ek (bs++(bits 3 1++(bits 5 s.toNat++(an d)))) 8++ek (bs++(bits 3 1++(bits 5 s.toNat++(an d++(bits 8 q.toNat))))) 8++ek (bs++(bits 3 1++(bits 5 s.toNat++(an d++(bits 8 q.toNat++(bits 8 o.toNat)))))) (24+(7+8*x.size)):=by
  rw[cn (bs:=bs) (a:=3) l0,cn (a:=3+5) (by rw[l1]),cn (a:=3+5+bF d) (by rw[l2]),cn (a:=3+5+bF d+8) (by rw[l3];omega),cn (a:=3+5+bF d+8+8) (by rw[l4];omega)]
  congr 1;omega
 simp only[aco]at hk
 rw[hk]
 simp only[vA,go_sem,simprocAttr,h0,h1,h2,h3,h4,hb1,acR,acV,acI,acP,acO,adb,acW,aco,ite_self,if_true]
theorem Qh(s d q o c m e t u v:Int)(x:ByteArray)(hs:0≤s∧s≤31)(hd:d<32)(hd0:d<0→d= -1)(hq:0≤q∧q≤255)(ho:0≤o∧o≤255)(he: -32768≤e∧e≤32767)(hb:bs.length≤100) :
 aa T (n+7) (.fn 176) [pW,.ptr 0 0 0 0] (wH (.box (fr 2 s d q o c m e t u v x)) bs [] es)=some (.bool true,wH (.box (fr 2 s d q o c m e t u v x)) (bs++(bits 3 2++(bits 5 s.toNat++(an d++(bits 8 q.toNat++(bits 8 o.toNat++(bits 16 (xj e)))))))) [] (es++ek bs ((24+bF d)+(16)))):=by
 refine bm zk (by rfl) ?_
 have h0:∀t1 t2 es,aa T (n+6) (.fn 201) [pW,af5 3,.ptr 0 0 0 0] (wH (.box (fr 2 s d q o c m e t u v x)) bs [t1,t2] es)=some (.bc [],wH (.box (fr 2 s d q o c m e t u v x)) (bs++(bits 3 2)) [t1,t2] (es++ek bs 3)):=fun t1 t2 es=>by
  have:=fQ (n+2) (fr 2 s d q o c m e t u v x) t1 t2 es bs 3 2 0 rfl (by omega) (by omega) (by omega) (by omega)
  try simp only[aco]at this
  exact this
 have l0:(bs++(bits 3 2)).length=bs.length+(3):=by simp only[acn,aq,bu]<;>omega
 have h1:∀t1 t2 es,aa T (n+6) (.fn 201) [pW,af5 5,.ptr 0 0 0 1] (wH (.box (fr 2 s d q o c m e t u v x)) (bs++(bits 3 2)) [t1,t2] es)=some (.bc [],wH (.box (fr 2 s d q o c m e t u v x)) (bs++(bits 3 2++(bits 5 s.toNat))) [t1,t2] (es++ek (bs++(bits 3 2)) 5)):=fun t1 t2 es=>by
  have:=fQ (n+2) (fr 2 s d q o c m e t u v x) t1 t2 es (bs++(bits 3 2)) 5 s.toNat 1 (show(fr 2 s d q o c m e t u v x)[1]?=_ by rw[acL hs.1];rfl) (by omega) (by omega) (by omega) (by have:=fD d;rw[l0];omega)
  try simp only[aco]at this
  exact this
 have l1:(bs++(bits 3 2++(bits 5 s.toNat))).length=bs.length+(8):=by simp only[acn,aq,bu]<;>omega
 have h2:∀t1 t2 es,aa T (n+6) (.fn 202) [pW,.ptr 0 0 0 2] (wH (.box (fr 2 s d q o c m e t u v x)) (bs++(bits 3 2++(bits 5 s.toNat))) [t1,t2] es)=some (.bc [],wH (.box (fr 2 s d q o c m e t u v x)) (bs++(bits 3 2++(bits 5 s.toNat++(an d)))) [t1,t2] (es++ek (bs++(bits 3 2++(bits 5 s.toNat))) (bF d))):=fun t1 t2 es=>by
  have:=yg n t1 t2 es (bs++(bits 3 2++(bits 5 s.toNat))) 2 s d q o c m e t u v x hd hd0 (by rw[l1];omega)
  try simp only[aco]at this
  exact this
 have l2:(bs++(bits 3 2++(bits 5 s.toNat++(an d)))).length=bs.length+(8+bF d):=by simp only[acn,aq,bu]<;>omega
 have h3:∀t1 t2 es,aa T (n+6) (.fn 201) [pW,af5 8,.ptr 0 0 0 3] (wH (.box (fr 2 s d q o c m e t u v x)) (bs++(bits 3 2++(bits 5 s.toNat++(an d)))) [t1,t2] es)=some (.bc [],wH (.box (fr 2 s d q o c m e t u v x)) (bs++(bits 3 2++(bits 5 s.toNat++(an d++(bits 8 q.toNat))))) [t1,t2] (es++ek (bs++(bits 3 2++(bits 5 s.toNat++(an d)))) 8)):=fun t1 t2 es=>by
  have:=fQ (n+2) (fr 2 s d q o c m e t u v x) t1 t2 es (bs++(bits 3 2++(bits 5 s.toNat++(an d)))) 8 q.toNat 3 (show(fr 2 s d q o c m e t u v x)[3]?=_ by rw[acL hq.1];rfl) (by omega) (by omega) (by omega) (by have:=fD d;rw[l2];omega)
  try simp only[aco]at this
  exact this
 have l3:(bs++(bits 3 2++(bits 5 s.toNat++(an d++(bits 8 q.toNat))))).length=bs.length+(16+bF d):=by simp only[acn,aq,bu]<;>omega
 have h4:∀t1 t2 es,aa T (n+6) (.fn 201) [pW,af5 8,.ptr 0 0 0 4] (wH (.box (fr 2 s d q o c m e t u v x)) (bs++(bits 3 2++(bits 5 s.toNat++(an d++(bits 8 q.toNat))))) [t1,t2] es)=some (.bc [],wH (.box (fr 2 s d q o c m e t u v x)) (bs++(bits 3 2++(bits 5 s.toNat++(an d++(bits 8 q.toNat++(bits 8 o.toNat)))))) [t1,t2] (es++ek (bs++(bits 3 2++(bits 5 s.toNat++(an d++(bits 8 q.toNat))))) 8)):=fun t1 t2 es=>by
  have:=fQ (n+2) (fr 2 s d q o c m e t u v x) t1 t2 es (bs++(bits 3 2++(bits 5 s.toNat++(an d++(bits 8 q.toNat))))) 8 o.toNat 4 (show(fr 2 s d q o c m e t u v x)[4]?=_ by rw[acL ho.1];rfl) (by omega) (by omega) (by omega) (by have:=fD d;rw[l3];omega)
  try simp only[aco]at this
  exact this
 have l4:(bs++(bits 3 2++(bits 5 s.toNat++(an d++(bits 8 q.toNat++(bits 8 o.toNat)))))).length=bs.length+(24+bF d):=by simp only[acn,aq,bu]<;>omega
 have hb1:∀t1 t2 es,aa T (n+6) (.fn 198) [pW,.ptr 0 0 0 0] (wH (.box (fr 2 s d q o c m e t u v x)) (bs++(bits 3 2++(bits 5 s.toNat++(an d++(bits 8 q.toNat++(bits 8 o.toNat)))))) [t1,t2] es)=some (.bc [],wH (.box (fr 2 s d q o c m e t u v x)) (bs++(bits 3 2++(bits 5 s.toNat++(an d++(bits 8 q.toNat++(bits 8 o.toNat++(bits 16 (xj e)))))))) [t1,t2] (es++ek (bs++(bits 3 2++(bits 5 s.toNat++(an d++(bits 8 q.toNat++(bits 8 o.toNat)))))) (16))):=fun t1 t2 es=>by
  have:=Wt (n+2) t1 t2 es (bs++(bits 3 2++(bits 5 s.toNat++(an d++(bits 8 q.toNat++(bits 8 o.toNat)))))) 2 s d q o c m e t u v x he.1 he.2 (by have:=fD d;rw[l4];omega)
  try simp only[aco]at this
  exact this
 have hk:ek bs ((24+bF d)+(16))=ek bs 3++ek (bs++(bits 3 2)) 5++ek (bs++(bits 3 2++(bits 5 s.toNat))) (bF d)++ek (bs++(bits 3 2++(bits 5 s.toNat++(an d)))) 8++ek (bs++(bits 3 2++(bits 5 s.toNat++(an d++(bits 8 q.toNat))))) 8++ek (bs++(bits 3 2++(bits 5 s.toNat++(an d++(bits 8 q.toNat++(bits 8 o.toNat)))))) (16):=by
  rw[cn (bs:=bs) (a:=3) l0,cn (a:=3+5) (by rw[l1]),cn (a:=3+5+bF d) (by rw[l2]),cn (a:=3+5+bF d+8) (by rw[l3];omega),cn (a:=3+5+bF d+8+8) (by rw[l4];omega)]
  congr 1;omega
 simp only[aco]at hk
 rw[hk]
 simp only[vA,go_sem,simprocAttr,h0,h1,h2,h3,h4,hb1,acR,acV,acI,acP,acO,adb,acW,aco,ite_self,if_true]
theorem M7(s d q o c m e t u v:Int)(x:ByteArray)(hs:0≤s∧s≤31)(hd:d<32)(hd0:d<0→d= -1)(hq:0≤q∧q≤255)(ho:0≤o∧o≤255)(ht:0≤t∧t≤109951162)(hu:0≤u∧u≤65535)(hv:0≤v∧v≤65535)(hx:x.size≤127)(hb:bs.length≤100) :
 aa T (n+7) (.fn 176) [pW,.ptr 0 0 0 0] (wH (.box (fr 3 s d q o c m e t u v x)) bs [] es)=some (.bool true,wH (.box (fr 3 s d q o c m e t u v x)) (bs++(bits 3 3++(bits 5 s.toNat++(an d++(bits 8 q.toNat++(bits 8 o.toNat++(bits 27 t.toNat++(bits 16 u.toNat++(bits 16 v.toNat++(bits 7 x.size++(iK x x.size))))))))))) [] (es++ek bs ((24+bF d)+(59+(7+8*x.size))))):=by
 refine bm zk (by rfl) ?_
 have h0:∀t1 t2 es,aa T (n+6) (.fn 201) [pW,af5 3,.ptr 0 0 0 0] (wH (.box (fr 3 s d q o c m e t u v x)) bs [t1,t2] es)=some (.bc [],wH (.box (fr 3 s d q o c m e t u v x)) (bs++(bits 3 3)) [t1,t2] (es++ek bs 3)):=fun t1 t2 es=>by
  have:=fQ (n+2) (fr 3 s d q o c m e t u v x) t1 t2 es bs 3 3 0 rfl (by omega) (by omega) (by omega) (by omega)
  try simp only[aco]at this
  exact this
 have l0:(bs++(bits 3 3)).length=bs.length+(3):=by simp only[acn,aq,bu]<;>omega
 have h1:∀t1 t2 es,aa T (n+6) (.fn 201) [pW,af5 5,.ptr 0 0 0 1] (wH (.box (fr 3 s d q o c m e t u v x)) (bs++(bits 3 3)) [t1,t2] es)=some (.bc [],wH (.box (fr 3 s d q o c m e t u v x)) (bs++(bits 3 3++(bits 5 s.toNat))) [t1,t2] (es++ek (bs++(bits 3 3)) 5)):=fun t1 t2 es=>by
  have:=fQ (n+2) (fr 3 s d q o c m e t u v x) t1 t2 es (bs++(bits 3 3)) 5 s.toNat 1 (show(fr 3 s d q o c m e t u v x)[1]?=_ by rw[acL hs.1];rfl) (by omega) (by omega) (by omega) (by have:=fD d;rw[l0];omega)
  try simp only[aco]at this
  exact this
 have l1:(bs++(bits 3 3++(bits 5 s.toNat))).length=bs.length+(8):=by simp only[acn,aq,bu]<;>omega
 have h2:∀t1 t2 es,aa T (n+6) (.fn 202) [pW,.ptr 0 0 0 2] (wH (.box (fr 3 s d q o c m e t u v x)) (bs++(bits 3 3++(bits 5 s.toNat))) [t1,t2] es)=some (.bc [],wH (.box (fr 3 s d q o c m e t u v x)) (bs++(bits 3 3++(bits 5 s.toNat++(an d)))) [t1,t2] (es++ek (bs++(bits 3 3++(bits 5 s.toNat))) (bF d))):=fun t1 t2 es=>by
  have:=yg n t1 t2 es (bs++(bits 3 3++(bits 5 s.toNat))) 3 s d q o c m e t u v x hd hd0 (by rw[l1];omega)
  try simp only[aco]at this
  exact this
 have l2:(bs++(bits 3 3++(bits 5 s.toNat++(an d)))).length=bs.length+(8+bF d):=by simp only[acn,aq,bu]<;>omega
 have h3:∀t1 t2 es,aa T (n+6) (.fn 201) [pW,af5 8,.ptr 0 0 0 3] (wH (.box (fr 3 s d q o c m e t u v x)) (bs++(bits 3 3++(bits 5 s.toNat++(an d)))) [t1,t2] es)=some (.bc [],wH (.box (fr 3 s d q o c m e t u v x)) (bs++(bits 3 3++(bits 5 s.toNat++(an d++(bits 8 q.toNat))))) [t1,t2] (es++ek (bs++(bits 3 3++(bits 5 s.toNat++(an d)))) 8)):=fun t1 t2 es=>by
  have:=fQ (n+2) (fr 3 s d q o c m e t u v x) t1 t2 es (bs++(bits 3 3++(bits 5 s.toNat++(an d)))) 8 q.toNat 3 (show(fr 3 s d q o c m e t u v x)[3]?=_ by rw[acL hq.1];rfl) (by omega) (by omega) (by omega) (by have:=fD d;rw[l2];omega)
  try simp only[aco]at this
  exact this
 have l3:(bs++(bits 3 3++(bits 5 s.toNat++(an d++(bits 8 q.toNat))))).length=bs.length+(16+bF d):=by simp only[acn,aq,bu]<;>omega
 have h4:∀t1 t2 es,aa T (n+6) (.fn 201) [pW,af5 8,.ptr 0 0 0 4] (wH (.box (fr 3 s d q o c m e t u v x)) (bs++(bits 3 3++(bits 5 s.toNat++(an d++(bits 8 q.toNat))))) [t1,t2] es)=some (.bc [],wH (.box (fr 3 s d q o c m e t u v x)) (bs++(bits 3 3++(bits 5 s.toNat++(an d++(bits 8 q.toNat++(bits 8 o.toNat)))))) [t1,t2] (es++ek (bs++(bits 3 3++(bits 5 s.toNat++(an d++(bits 8 q.toNat))))) 8)):=fun t1 t2 es=>by
  have:=fQ (n+2) (fr 3 s d q o c m e t u v x) t1 t2 es (bs++(bits 3 3++(bits 5 s.toNat++(an d++(bits 8 q.toNat))))) 8 o.toNat 4 (show(fr 3 s d q o c m e t u v x)[4]?=_ by rw[acL ho.1];rfl) (by omega) (by omega) (by omega) (by have:=fD d;rw[l3];omega)
  try simp only[aco]at this
  exact this
 have l4:(bs++(bits 3 3++(bits 5 s.toNat++(an d++(bits 8 q.toNat++(bits 8 o.toNat)))))).length=bs.length+(24+bF d):=by simp only[acn,aq,bu]<;>omega
 have hb1:∀t1 t2 es,aa T (n+6) (.fn 199) [pW,.ptr 0 0 0 0] (wH (.box (fr 3 s d q o c m e t u v x)) (bs++(bits 3 3++(bits 5 s.toNat++(an d++(bits 8 q.toNat++(bits 8 o.toNat)))))) [t1,t2] es)=some (.bc [],wH (.box (fr 3 s d q o c m e t u v x)) (bs++(bits 3 3++(bits 5 s.toNat++(an d++(bits 8 q.toNat++(bits 8 o.toNat++(bits 27 t.toNat++(bits 16 u.toNat++(bits 16 v.toNat++(bits 7 x.size++(iK x x.size))))))))))) [t1,t2] (es++ek (bs++(bits 3 3++(bits 5 s.toNat++(an d++(bits 8 q.toNat++(bits 8 o.toNat)))))) (59+(7+8*x.size)))):=fun t1 t2 es=>by
  have:=S2 n t1 t2 es (bs++(bits 3 3++(bits 5 s.toNat++(an d++(bits 8 q.toNat++(bits 8 o.toNat)))))) 3 s d q o c m e t u v x ht hu hv hx (by have:=fD d;rw[l4];omega)
  try simp only[aco]at this
  exact this
 have hk:ek bs ((24+bF d)+(59+(7+8*x.size)))=ek bs 3++ek (bs++(bits 3 3)) 5++ek (bs++(bits 3 3++(bits 5 s.toNat))) (bF d)++ek (bs++(bits 3 3++(bits 5 s.toNat++(an d)))) 8++ek (bs++(bits 3 3++(bits 5 s.toNat++(an d++(bits 8 q.toNat))))) 8++ek (bs++(bits 3 3++(bits 5 s.toNat++(an d++(bits 8 q.toNat++(bits 8 o.toNat)))))) (59+(7+8*x.size)):=by
  rw[cn (bs:=bs) (a:=3) l0,cn (a:=3+5) (by rw[l1]),cn (a:=3+5+bF d) (by rw[l2]),cn (a:=3+5+bF d+8) (by rw[l3];omega),cn (a:=3+5+bF d+8+8) (by rw[l4];omega)]
  congr 1;omega
 simp only[aco]at hk
 rw[hk]
 simp only[vA,go_sem,simprocAttr,h0,h1,h2,h3,h4,hb1,acR,acV,acI,acP,acO,adb,acW,aco,ite_self,if_true]
theorem Me(s d q o c m e t u v:Int)(x:ByteArray)(hs:0≤s∧s≤31)(hd:d<32)(hd0:d<0→d= -1)(hq:0≤q∧q≤255)(ho:0≤o∧o≤255)(hx:x.size≤127)(hb:bs.length≤100) :
 aa T (n+7) (.fn 176) [pW,.ptr 0 0 0 0] (wH (.box (fr 4 s d q o c m e t u v x)) bs [] es)=some (.bool true,wH (.box (fr 4 s d q o c m e t u v x)) (bs++(bits 3 4++(bits 5 s.toNat++(an d++(bits 8 q.toNat++(bits 8 o.toNat++(bits 7 x.size++(iK x x.size)))))))) [] (es++ek bs ((24+bF d)+(7+8*x.size)))):=by
 refine bm zk (by rfl) ?_
 have h0:∀t1 t2 es,aa T (n+6) (.fn 201) [pW,af5 3,.ptr 0 0 0 0] (wH (.box (fr 4 s d q o c m e t u v x)) bs [t1,t2] es)=some (.bc [],wH (.box (fr 4 s d q o c m e t u v x)) (bs++(bits 3 4)) [t1,t2] (es++ek bs 3)):=fun t1 t2 es=>by
  have:=fQ (n+2) (fr 4 s d q o c m e t u v x) t1 t2 es bs 3 4 0 rfl (by omega) (by omega) (by omega) (by omega)
  try simp only[aco]at this
  exact this
 have l0:(bs++(bits 3 4)).length=bs.length+(3):=by simp only[acn,aq,bu]<;>omega
 have h1:∀t1 t2 es,aa T (n+6) (.fn 201) [pW,af5 5,.ptr 0 0 0 1] (wH (.box (fr 4 s d q o c m e t u v x)) (bs++(bits 3 4)) [t1,t2] es)=some (.bc [],wH (.box (fr 4 s d q o c m e t u v x)) (bs++(bits 3 4++(bits 5 s.toNat))) [t1,t2] (es++ek (bs++(bits 3 4)) 5)):=fun t1 t2 es=>by
  have:=fQ (n+2) (fr 4 s d q o c m e t u v x) t1 t2 es (bs++(bits 3 4)) 5 s.toNat 1 (show(fr 4 s d q o c m e t u v x)[1]?=_ by rw[acL hs.1];rfl) (by omega) (by omega) (by omega) (by have:=fD d;rw[l0];omega)
  try simp only[aco]at this
  exact this
 have l1:(bs++(bits 3 4++(bits 5 s.toNat))).length=bs.length+(8):=by simp only[acn,aq,bu]<;>omega
 have h2:∀t1 t2 es,aa T (n+6) (.fn 202) [pW,.ptr 0 0 0 2] (wH (.box (fr 4 s d q o c m e t u v x)) (bs++(bits 3 4++(bits 5 s.toNat))) [t1,t2] es)=some (.bc [],wH (.box (fr 4 s d q o c m e t u v x)) (bs++(bits 3 4++(bits 5 s.toNat++(an d)))) [t1,t2] (es++ek (bs++(bits 3 4++(bits 5 s.toNat))) (bF d))):=fun t1 t2 es=>by
  have:=yg n t1 t2 es (bs++(bits 3 4++(bits 5 s.toNat))) 4 s d q o c m e t u v x hd hd0 (by rw[l1];omega)
  try simp only[aco]at this
  exact this
 have l2:(bs++(bits 3 4++(bits 5 s.toNat++(an d)))).length=bs.length+(8+bF d):=by simp only[acn,aq,bu]<;>omega
 have h3:∀t1 t2 es,aa T (n+6) (.fn 201) [pW,af5 8,.ptr 0 0 0 3] (wH (.box (fr 4 s d q o c m e t u v x)) (bs++(bits 3 4++(bits 5 s.toNat++(an d)))) [t1,t2] es)=some (.bc [],wH (.box (fr 4 s d q o c m e t u v x)) (bs++(bits 3 4++(bits 5 s.toNat++(an d++(bits 8 q.toNat))))) [t1,t2] (es++ek (bs++(bits 3 4++(bits 5 s.toNat++(an d)))) 8)):=fun t1 t2 es=>by
  have:=fQ (n+2) (fr 4 s d q o c m e t u v x) t1 t2 es (bs++(bits 3 4++(bits 5 s.toNat++(an d)))) 8 q.toNat 3 (show(fr 4 s d q o c m e t u v x)[3]?=_ by rw[acL hq.1];rfl) (by omega) (by omega) (by omega) (by have:=fD d;rw[l2];omega)
  try simp only[aco]at this
  exact this
 have l3:(bs++(bits 3 4++(bits 5 s.toNat++(an d++(bits 8 q.toNat))))).length=bs.length+(16+bF d):=by simp only[acn,aq,bu]<;>omega
 have h4:∀t1 t2 es,aa T (n+6) (.fn 201) [pW,af5 8,.ptr 0 0 0 4] (wH (.box (fr 4 s d q o c m e t u v x)) (bs++(bits 3 4++(bits 5 s.toNat++(an d++(bits 8 q.toNat))))) [t1,t2] es)=some (.bc [],wH (.box (fr 4 s d q o c m e t u v x)) (bs++(bits 3 4++(bits 5 s.toNat++(an d++(bits 8 q.toNat++(bits 8 o.toNat)))))) [t1,t2] (es++ek (bs++(bits 3 4++(bits 5 s.toNat++(an d++(bits 8 q.toNat))))) 8)):=fun t1 t2 es=>by
  have:=fQ (n+2) (fr 4 s d q o c m e t u v x) t1 t2 es (bs++(bits 3 4++(bits 5 s.toNat++(an d++(bits 8 q.toNat))))) 8 o.toNat 4 (show(fr 4 s d q o c m e t u v x)[4]?=_ by rw[acL ho.1];rfl) (by omega) (by omega) (by omega) (by have:=fD d;rw[l3];omega)
  try simp only[aco]at this
  exact this
 have l4:(bs++(bits 3 4++(bits 5 s.toNat++(an d++(bits 8 q.toNat++(bits 8 o.toNat)))))).length=bs.length+(24+bF d):=by simp only[acn,aq,bu]<;>omega
 have hb1:∀t1 t2 es,aa T (n+6) (.fn 200) [pW,.ptr 0 0 0 0] (wH (.box (fr 4 s d q o c m e t u v x)) (bs++(bits 3 4++(bits 5 s.toNat++(an d++(bits 8 q.toNat++(bits 8 o.toNat)))))) [t1,t2] es)=some (.bc [],wH (.box (fr 4 s d q o c m e t u v x)) (bs++(bits 3 4++(bits 5 s.toNat++(an d++(bits 8 q.toNat++(bits 8 o.toNat++(bits 7 x.size++(iK x x.size)))))))) [t1,t2] (es++ek (bs++(bits 3 4++(bits 5 s.toNat++(an d++(bits 8 q.toNat++(bits 8 o.toNat)))))) (7+8*x.size))):=fun t1 t2 es=>by
  have:=Yi n t1 t2 es (bs++(bits 3 4++(bits 5 s.toNat++(an d++(bits 8 q.toNat++(bits 8 o.toNat)))))) 4 s d q o c m e t u v x hx (by have:=fD d;rw[l4];omega)
  try simp only[aco]at this
  exact this
 have hk:ek bs ((24+bF d)+(7+8*x.size))=ek bs 3++ek (bs++(bits 3 4)) 5++ek (bs++(bits 3 4++(bits 5 s.toNat))) (bF d)++ek (bs++(bits 3 4++(bits 5 s.toNat++(an d)))) 8++ek (bs++(bits 3 4++(bits 5 s.toNat++(an d++(bits 8 q.toNat))))) 8++ek (bs++(bits 3 4++(bits 5 s.toNat++(an d++(bits 8 q.toNat++(bits 8 o.toNat)))))) (7+8*x.size):=by
  rw[cn (bs:=bs) (a:=3) l0,cn (a:=3+5) (by rw[l1]),cn (a:=3+5+bF d) (by rw[l2]),cn (a:=3+5+bF d+8) (by rw[l3];omega),cn (a:=3+5+bF d+8+8) (by rw[l4];omega)]
  congr 1;omega
 simp only[aco]at hk
 rw[hk]
 simp only[vA,go_sem,simprocAttr,h0,h1,h2,h3,h4,hb1,acR,acV,acI,acP,acO,adb,acW,aco,ite_self,if_true]
end
end ft
end
namespace ft
abbrev ji:=BitVec 16
def wN:ji:=0x1021#16
def tm(c:ji):ji:=(c <<< 1) ^^^ (bif c.msb then wN else 0#16)
theorem Ka(a b:ji):tm (a ^^^ b)=tm a ^^^ tm b:=by
 unfold tm
 rw[BitVec.shiftLeft_xor_distrib,BitVec.msb_xor]
 cases a.msb<;>cases b.msb<;>simp only[Bool.xor_false,Bool.xor_true,Bool.false_xor,Bool.true_xor,acG,acJ,adp,adU,ae4]
 ·ac_rfl
 ·ac_rfl
 ·rw[show a <<< 1 ^^^ wN ^^^ (b <<< 1 ^^^ wN)=a <<< 1 ^^^ b <<< 1 ^^^ (wN ^^^ wN) by ac_rfl,afJ,ae4]
def t4(c:ji):ji:=tm (tm (tm (tm c)))
theorem CV(a b:ji):t4 (a ^^^ b)=t4 a ^^^ t4 b:=by simp only[t4,Ka]
theorem rn{c:ji}(h:c.msb=false):tm c=c <<< 1:=by unfold tm;rw[h];simp
def Lo:List ji:=[0x0000#16,0x1021#16,0x2042#16,0x3063#16,0x4084#16,0x50a5#16,0x60c6#16,0x70e7#16,0x8108#16,0x9129#16,0xa14a#16,0xb16b#16,0xc18c#16,0xd1ad#16,0xe1ce#16,0xf1ef#16]
theorem G7:∀h:Fin 16,Lo[(h:Nat)]?=some (t4 ((BitVec.ofNat 16 h) <<< 12)):=by decide
theorem Ix(c:ji):t4 ((c <<< 4) >>> 4)=c <<< 4:=by
 have m:∀(i:Nat),i<4→(((c <<< 4) >>> 4) <<< i).msb=false:=by
  intro i hi
  rw[BitVec.msb_eq_getLsbD_last]
  simp[aff,ae8]
  omega
 have e:∀i:Nat,(((c <<< 4) >>> 4) <<< i) <<< 1=((c <<< 4) >>> 4) <<< (i+1):=fun i=>(BitVec.shiftLeft_add _ _ _).symm
 have h0:=m 0 (by omega)
 rw[BitVec.shiftLeft_zero]at h0
 unfold t4
 rw[rn h0,rn (m 1 (by omega)),e 1,rn (m 2 (by omega)),e 2,rn (m 3 (by omega)),e 3]
 apply BitVec.eq_of_getLsbD_eq
 intro i hi
 simp[aff,ae8]
 by_cases h:i<4
 ·simp[h]
 ·simp[h,hi,show 4+(i-4)=i by omega]
theorem Fy(c:ji):c=((c >>> 12) <<< 12) ^^^ ((c <<< 4) >>> 4):=by
 apply BitVec.eq_of_getLsbD_eq
 intro i hi
 simp[aff,ae8]
 by_cases h:i<12
 ·simp[h,show 4+i-4=i by omega,show 4+i<16 by omega]
 ·simp[h,show ¬4+i<16 by omega,show 12+(i-12)=i by omega]
  exact fun _=>hi
theorem JU(c:ji):Lo[(c >>> 12).toNat]?=some (t4 c ^^^ (c <<< 4)):=by
 have hlt:(c >>> 12).toNat<16:=by
  rw[BitVec.toNat_ushiftRight,Nat.shiftRight_eq_div_pow]
  have:=c.isLt
  omega
 have h:=G7 ⟨(c >>> 12).toNat,hlt⟩
 rw[show Lo[(c >>> 12).toNat]?=_ from h]
 congr 1
 have e:BitVec.ofNat 16 (c >>> 12).toNat=c >>> 12:=by rw[BitVec.ofNat_toNat];exact BitVec.setWidth_eq _
 show t4 (BitVec.ofNat 16 (c >>> 12).toNat <<< 12)=_
 rw[e]
 have h2:t4 c=t4 ((c >>> 12) <<< 12) ^^^ (c <<< 4):=by
  rw[←Ix c,←CV,←Fy]
 rw[h2,BitVec.xor_assoc,afJ,ae4]
end ft
namespace ft
def BL:List SV:=Lo.map fun w=>.int .u16 w.toNat
@[go_sem] theorem Qv:BL.length=16:=by rfl
theorem EH(i:Nat):BL[i]?=(Lo[i]?).map fun w=>.int .u16 w.toNat:=by simp[BL]
theorem To(n:Nat)(H:ab):aa T (n+3) (.fn 234) [] H=some (.agg BL,H):=fG T7 (by rfl) (im (T:=T) 100 (n+3) (.fn 234) [] ah (.agg BL,ah) (by kernel_rfl))
def G0(c:ji)(b:Nat):ji:=t4 (t4 (c ^^^ (BitVec.ofNat 16 b <<< 8)))
def zP(c:ji)(s:ByteArray):Nat→ji
 |0=>c
 |i+1=>G0 (zP c s i) ((s.data[i]?).getD 0).toNat
theorem LC:∀v:Fin 16,((BitVec.ofNat 16 v:ji) <<< 12) >>> 12=BitVec.ofNat 16 v:=by decide
theorem NA:∀v:Fin 16,((BitVec.ofNat 16 v:ji) <<< 12) <<< 4=0#16:=by decide
theorem PD:∀v:Fin 16,t4 ((BitVec.ofNat 16 v:ji) <<< 8)=BitVec.ofNat 16 v <<< 12:=by decide
theorem O8:∀b:Fin 256,((BitVec.ofNat 16 (b/16):ji) <<< 12) ^^^ (BitVec.ofNat 16 (b%16) <<< 8)=BitVec.ofNat 16 b <<< 8:=by decide +kernel
theorem Yo(c:ji){v:Nat}(hv:v<16):Lo[((c >>> 12) ^^^ BitVec.ofNat 16 v).toNat]?=some (t4 (c ^^^ (BitVec.ofNat 16 v <<< 12)) ^^^ (c <<< 4)):=by
 have h:=JU (c ^^^ (BitVec.ofNat 16 v <<< 12))
 rw[BitVec.ushiftRight_xor_distrib,BitVec.shiftLeft_xor_distrib,LC ⟨v,hv⟩,NA ⟨v,hv⟩,ae4]at h
 exact h
theorem J5(c:ji){b:Nat}(hb:b<256):G0 c b=t4 (t4 (c ^^^ (BitVec.ofNat 16 (b/16) <<< 12)) ^^^ (BitVec.ofNat 16 (b%16) <<< 12)):=by
 unfold G0
 rw[←PD ⟨b%16,by omega⟩,←CV,BitVec.xor_assoc,O8 ⟨b,hb⟩]
theorem xh{n:Int}:IntKind.u16.wrap n=n%65536:=by simp[IntKind.wrap,IntKind.bits,IntKind.signed]
theorem I3(C:ji)(k:Nat)(hk:k≤16):IntKind.u16.wrap ((C.toNat:Int)*2 ^ min k 16)=((C <<< k).toNat:Nat):=by
 have h:((C.toNat:Int)*2 ^ k)=((C.toNat*2 ^ k:Nat):Int):=by rw[af2,afl];rfl
 rw[adM hk,xh,h,BitVec.toNat_shiftLeft,Nat.shiftLeft_eq]
 omega
theorem Vh(C:ji)(k:Nat)(hk:k≤16):((C.toNat:Int)).fdiv (2 ^ min k 16)=((C >>> k).toNat:Nat):=by
 rw[adM hk,gJ,BitVec.toNat_ushiftRight,Nat.shiftRight_eq_div_pow]
theorem PZ(C:ji):(BitVec.ofInt 16 (C.toNat:Int))=C:=by
 apply BitVec.eq_of_toNat_eq
 rw[afm]
 have:=C.isLt
 omega
def GK(a b:Int):Int:=IntKind.u16.wrap ((BitVec.ofInt 16 a ^^^ BitVec.ofInt 16 b).toNat)
@[go_sem high] theorem LI (a b:Int):cW .xor (.int .u16 a) (.int .u16 b)=some (.int .u16 (GK a b)):=by
  simp only[cW,adL,acG];rfl
def Dm(a b:Int):Int:=IntKind.u8.wrap ((BitVec.ofInt 8 a&&&BitVec.ofInt 8 b).toNat)
@[go_sem high] theorem RY (a b:Int):cW .and (.int .u8 a) (.int .u8 b)=some (.int .u8 (Dm a b)):=by
  simp only[cW,adL,acG];rfl
theorem Iw(A B:ji):GK (A.toNat:Int) (B.toNat:Int)=((A ^^^ B).toNat:Nat):=by
 unfold GK
 rw[PZ,PZ,xh]
 have:=(A ^^^ B).isLt
 omega
theorem MV{b:Nat}(hb:b<256):Dm b 15=((b%16:Nat):Int):=by
 unfold Dm
 have h3:(BitVec.ofInt 8 15).toNat=15:=by decide
 rw[afW,iH _ hb,h3,Nat.and_two_pow_sub_one_eq_mod b 4]
 exact mG (by omega) (by omega)
theorem toW{v:Nat}(h:v<65536):(v:Int)=((BitVec.ofNat 16 v:ji).toNat:Nat):=by
 rw[BitVec.toNat_ofNat];omega
theorem Wh(n:Nat)(H:ab)(s:ByteArray)(hs:s.size≤1000):aa T (n+4) (.fn 222) [.int .u16 0,.str s] H=some (.int .u16 ((zP 0#16 s s.size).toNat:Nat),H):=by
 refine ae VO (by rfl) ?_
 have h:=fun H=>To n H
 simp only[Pl,ah,go_sem,simprocAttr,h]
 refine ba (fun i=>([(0,.int .u16 ((zP 0#16 s i).toNat:Nat)),(1,.str s),(5,.ptr 0 0 0 0),(9,af5 s.size),(10,af5 i)],⟨[.box BL],[],0⟩)) (fun _=>True) s.size ?_ trivial ?_
 ·simp only[go_sem,simprocAttr]<;>rfl
 ·intro i hi _
  rcases acz i s.size with hlt|hge
  ·have hs2:=bE hlt (ac7 hs (by decide))
   have hd:s.data[i]?=some s.data[i]:=adD (by exact hlt)
   have hu:zP 0#16 s (i+1)=G0 (zP 0#16 s i) s.data[i].toNat:=by simp only[zP,hd,ad3]
   have hv:=afR s.data[i]
   obtain⟨C,hC⟩:∃C,zP 0#16 s i=C:=⟨_,rfl⟩
   obtain⟨b,hb⟩:∃b,s.data[i].toNat=b:=⟨_,rfl⟩
   rw[hC,hb]at hu
   rw[hb]at hv
   have e1:IntKind.u16.wrap (((b:Int)).fdiv (2 ^ min 4 8))=((BitVec.ofNat 16 (b/16):ji).toNat:Nat):=by
    rw[show min 4 8=4 from rfl,gJ,xh,←toW (by omega)];omega
   have e2:IntKind.u16.wrap ((b%16:Nat):Int)=((BitVec.ofNat 16 (b%16):ji).toNat:Nat):=by
    rw[xh,←toW (by omega)];omega
   have e3:=MV hv
   have q1:=Yo C (v:=b/16) (by omega)
   have l1:((C >>> 12) ^^^ BitVec.ofNat 16 (b/16)).toNat<16:=by
    have:=acm.1 q1
    exact this.1
   obtain⟨C1,hC1⟩:∃C1,t4 (C ^^^ (BitVec.ofNat 16 (b/16) <<< 12))=C1:=⟨_,rfl⟩
   have q2:=Yo C1 (v:=b%16) (by omega)
   have l2:((C1 >>> 12) ^^^ BitVec.ofNat 16 (b%16)).toNat<16:=by
    have:=acm.1 q2
    exact this.1
   have hst:G0 C b=t4 (C1 ^^^ (BitVec.ofNat 16 (b%16) <<< 12)):=by rw[J5 C hv,hC1]
   rw[hC1]at q1
   have x1:(C <<< 4) ^^^ (C1 ^^^ (C <<< 4))=C1:=by rw[show(C <<< 4) ^^^ (C1 ^^^ (C <<< 4))=C1 ^^^ ((C <<< 4) ^^^ (C <<< 4)) by ac_rfl,afJ,ae4]
   have x2:(C1 <<< 4) ^^^ (t4 (C1 ^^^ (BitVec.ofNat 16 (b%16) <<< 12)) ^^^ (C1 <<< 4))=G0 C b:=by
    rw[hst,show ∀P Q:ji,P ^^^ (Q ^^^ P)=Q ^^^ (P ^^^ P)from fun P Q=>by ac_rfl,afJ,ae4]
   have d1:∀n:Nat,n<16→decide ((n:Int)<16)=true:=fun n h=>acp (by omega)
   have d1:=d1 _ l1
   have d2:decide (((((C1 >>> 12) ^^^ BitVec.ofNat 16 (b%16)).toNat:Nat):Int)<16)=true:=acp (by omega)
   have s1:=fun C=>I3 C 4 (by omega)
   have s2:=fun C=>Vh C 12 (by omega)
   have hm:decide (max 0 (max 0 (max 1 0))≤1)=true:=by decide
   simp only[go_sem,simprocAttr,hlt,hd,hs2,hC,hb,hu,e1,e2,e3,s1,s2,Iw,d1,d2,adl,Nat.mul_one,EH,q1,q2,x1,x2,hm]
   exact⟨trivial,trivial,trivial⟩
  ·obtain rfl:i=s.size:=by omega
   have hd:decide (s.size<s.size)=false:=acs (by omega)
   simp only[go_sem,simprocAttr,hd]
end ft
namespace ft
def yN(s:ByteArray):ji:=zP 0#16 s s.size
def QW(C:ji):ByteArray:=⟨#[UInt8.ofNat (C.toNat/256),UInt8.ofNat (C.toNat%256)]⟩
def pc(s:ByteArray):ByteArray:=s++QW (yN s)
theorem Cy(C:ji):(QW C).size=2:=by rfl
theorem ib(s:ByteArray):(pc s).size=s.size+2:=by rw[pc,ByteArray.size_append,Cy]
theorem Hx(C:ji):IntKind.u8.wrap ((C.toNat:Int).fdiv (2 ^ min 8 16))=((C.toNat/256:Nat):Int):=by
 have:=C.isLt
 rw[show min 8 16=8 from rfl,gJ]
 exact mG (by omega) (by omega)
theorem Ik(C:ji):IntKind.u8.wrap (C.toNat:Int)=((C.toNat%256:Nat):Int):=by
 have e:∀n:Int,IntKind.u8.wrap n=n%256:=fun n=>by simp[IntKind.wrap,IntKind.bits,IntKind.signed]
 rw[e];omega
theorem toB_cons{n:Nat}(L:List (List SV)):toBytes ([.int .u8 (n:Int)]::L)=(toBytes L).map (fun l=>UInt8.ofNat n::l):=by
 simp only[toBytes,adl]
theorem toB_nil:toBytes []=some []:=rfl
theorem VH(n:Nat)(H:ab)(s:ByteArray)(hs:s.size≤1000):aa T (n+5) (.fn 203) [.str s] H=some (.int .u16 ((yN s).toNat:Nat),H):=by
 refine ae W6 (by rfl) ?_
 simp only[MU,ah,go_sem,simprocAttr,Wh _ _ _ hs,yN]
theorem Wd(n:Nat)(H:ab)(s:ByteArray)(hs:s.size≤1000):aa T (n+6) (.fn 178) [.str s] H=some (.str (pc s),H):=by
 refine ae W2 (by rfl) ?_
 obtain⟨C,hC⟩:∃C,yN s=C:=⟨_,rfl⟩
 have h:∀H,aa T (n+5) (.fn 203) [.str s] H=some (.int .u16 (C.toNat:Nat),H):=fun H=>hC▸VH n H s hs
 have hz:decide (s.size+ #[UInt8.ofNat (C.toNat/256),UInt8.ofNat (C.toNat%256)].size≤4611686018427387904)=true:=acp (show s.size+2≤4611686018427387904 by omega)
 simp only[Ph,ah,go_sem,simprocAttr,h,Hx,Ik,pc,hC,QW,toB_cons,toB_nil,adm,hz]
def og(bs:List Bool):ByteArray:=⟨((List.range (nb bs.length)).map fun j=>UInt8.ofNat (dC bs j)).toArray⟩
theorem jv(bs:List Bool):(og bs).size=nb bs.length:=by simp[og,ByteArray.size]
theorem toB_map(f:Nat→Nat):∀l:List Nat,toBytes (l.map fun j=>[.int .u8 (f j:Nat)])=some (l.map fun j=>UInt8.ofNat (f j))
 |[]=>rfl
 |a::l=>by rw[ada,toB_cons,toB_map f l];rfl
theorem toB_pkS(bs:List Bool):toBytes (sm bs)=some ((List.range (nb bs.length)).map fun j=>UInt8.ofNat (dC bs j)):=toB_map _ _
theorem Yj(n:Nat)(b0:aC)(tl:List aC)(es:List (Nat×Nat))(bs:List Bool):aa T (n+1) (.fn 177) [.ptr 1 0 0 0] (wH b0 bs tl es)=some (.bc [.str (og bs),af6],wH b0 bs tl es):=by
 refine bm MJ (by rfl) ?_
 have l0:decide (0<tl.length+1+1+1)=true:=acp (by omega)
 have l3:decide (3≤tl.length+1+1+1)=true:=acp (by omega)
 have ht:List.take (nb bs.length) (sm bs)=sm bs:=ac1 (by rw[eT];exact acH _)
 have hl:decide (nb bs.length≤(sm bs).length)=true:=acp (by rw[eT];exact acH _)
 have hl2:decide (nb bs.length≤nb bs.length)=true:=acp (acH _)
 simp only[JP,go_sem,simprocAttr,l0,l3,ht,hl,hl2,toB_pkS,og]
 trace_state
end ft
section
namespace ft
abbrev wE(bs:List Bool):aC:=.box [.bn 2 (nb bs.length) 0 (nb bs.length),af5 bs.length,af5 8]
abbrev wX(b0:aC)(bs:List Bool)(tl:List aC)(es:List (Nat×Nat)):ab:=⟨b0::wE bs::wA bs::tl,es,0⟩
section
variable(b0:aC)(tl:List aC)(es:List (Nat×Nat))(bs:List Bool)
theorem XW(n:Nat)(x:ByteArray)(hx:127<x.size) :
 aa T (n+4) (.fn 229) [.ptr 1 0 0 0,af5 127,.str x] (wH b0 bs tl es)=some (.bc [],wX b0 bs tl es):=by
 refine bm NF (by rfl) ?_
 have h101:=fun H=>PY (n+2) H 127
 have x1:decide ((127:Int)<(x.size:Int))=true:=acp (by omega)
 have l0:decide (0<tl.length+1+1+1)=true:=acp (by omega)
 have l1:decide (1<tl.length+1+1+1)=true:=acp (by omega)
 have l2:decide (2<tl.length+1+1+1)=true:=acp (by omega)
 have l3':decide (tl.length+1+1+1<3)=false:=acs (by omega)
 have l3:decide (3≤tl.length+1+1+1)=true:=acp (by omega)
 simp only[J7,go_sem,simprocAttr,h101,x1,l0,l1,l2,l3,l3',acI,acP,ite_self,if_true]
theorem Wn(n:Nat):aa T (n+1) (.fn 177) [.ptr 1 0 0 0] (wX b0 bs tl es)=some (.bc [.str ⟨#[]⟩,af5 8],wX b0 bs tl es):=by
 refine bm MJ (by rfl) ?_
 have l3:decide (3≤tl.length+1+1+1)=true:=acp (by omega)
 simp only[JP,go_sem,simprocAttr,l3]
end
section
variable(n:Nat)(cs:List SV)(t1 t2 t3:aC)(es:List (Nat×Nat))(bs:List Bool)
theorem IL(x:ByteArray)(j:Nat)(hj:cs[j]?=some (.str x))(hx:127<x.size) :
 aa T (n+5) (.fn 215) [pW,.ptr 0 0 0 j] (wH (.box cs) bs [t1,t2,t3] es)=some (.bc [],wX (.box cs) bs [t1,t2,t3] es):=by
 refine bm ME (by rfl) ?_
 have h:=fun t es=>XW (.box cs) [t1,t2,t3,t] es bs n x hx
 simp only[Jy,go_sem,simprocAttr,h,hj,acR,acV,acI,acP,acO,adb,acW,aco,ite_self,if_true]
theorem TB(k s d q o c m e t u v:Int)(x:ByteArray)(hc:0≤c∧c≤255)(hm:0≤m∧m≤65535)(hx:127<x.size)(hb:bs.length≤900) :
 aa T (n+6) (.fn 197) [pW,.ptr 0 0 0 0] (wH (.box (fr k s d q o c m e t u v x)) bs [t1,t2] es)=some (.bc [],wX (.box (fr k s d q o c m e t u v x)) (bs++(bits 8 c.toNat++(bits 16 m.toNat))) [t1,t2] (es++ek bs 24)):=by
 refine bm Ps (by rfl) ?_
 have h0:∀t' es,aa T (n+5) (.fn 201) [pW,af5 8,.ptr 0 0 0 5] (wH (.box (fr k s d q o c m e t u v x)) bs [t1,t2,t'] es)=some (.bc [],wH (.box (fr k s d q o c m e t u v x)) (bs++(bits 8 c.toNat)) [t1,t2,t'] (es++ek bs 8)):=fun t' es=>by
  have:=qX (n+1) _ t1 t2 t' es bs 8 c.toNat 5 (show(fr k s d q o c m e t u v x)[5]?=_ by rw[acL hc.1];rfl) (by omega) (by omega) (by omega) (by omega)
  try simp only[aco]at this
  exact this
 have l0:(bs++(bits 8 c.toNat)).length=bs.length+8:=by simp only[acn,aq]<;>omega
 have h1:∀t' es,aa T (n+5) (.fn 201) [pW,af5 16,.ptr 0 0 0 6] (wH (.box (fr k s d q o c m e t u v x)) (bs++(bits 8 c.toNat)) [t1,t2,t'] es)=some (.bc [],wH (.box (fr k s d q o c m e t u v x)) (bs++(bits 8 c.toNat++(bits 16 m.toNat))) [t1,t2,t'] (es++ek (bs++(bits 8 c.toNat)) 16)):=fun t' es=>by
  have:=qX (n+1) _ t1 t2 t' es (bs++(bits 8 c.toNat)) 16 m.toNat 6 (show(fr k s d q o c m e t u v x)[6]?=_ by rw[acL hm.1];rfl) (by omega) (by omega) (by omega) (by rw[l0];omega)
  try simp only[aco]at this
  exact this
 have l1:(bs++(bits 8 c.toNat++(bits 16 m.toNat))).length=bs.length+24:=by simp only[acn,aq]<;>omega
 have hT:∀t' es,aa T (n+5) (.fn 215) [pW,.ptr 0 0 0 11] (wH (.box (fr k s d q o c m e t u v x)) (bs++(bits 8 c.toNat++(bits 16 m.toNat))) [t1,t2,t'] es)=some (.bc [],wX (.box (fr k s d q o c m e t u v x)) (bs++(bits 8 c.toNat++(bits 16 m.toNat))) [t1,t2,t'] es):=fun t' es=>IL n (fr k s d q o c m e t u v x) t1 t2 t' es (bs++(bits 8 c.toNat++(bits 16 m.toNat))) x 11 rfl hx
 have hk:ek bs 24=ek bs 8++ek (bs++(bits 8 c.toNat)) 16:=by rw[cn l0]
 try simp only[aco]at hk
 rw[hk]
 simp only[Kr,go_sem,simprocAttr,h0,h1,hT,acR,acV,acI,acP,acO,adb,acW,aco,ite_self,if_true]
theorem WA(k s d q o c m e t u v:Int)(x:ByteArray)(ht:0≤t∧t≤109951162)(hu:0≤u∧u≤65535)(hv:0≤v∧v≤65535)(hx:127<x.size)(hb:bs.length≤900) :
 aa T (n+6) (.fn 199) [pW,.ptr 0 0 0 0] (wH (.box (fr k s d q o c m e t u v x)) bs [t1,t2] es)=some (.bc [],wX (.box (fr k s d q o c m e t u v x)) (bs++(bits 27 t.toNat++(bits 16 u.toNat++(bits 16 v.toNat)))) [t1,t2] (es++ek bs 59)):=by
 refine bm PV (by rfl) ?_
 have h0:∀t' es,aa T (n+5) (.fn 201) [pW,af5 27,.ptr 0 0 0 8] (wH (.box (fr k s d q o c m e t u v x)) bs [t1,t2,t'] es)=some (.bc [],wH (.box (fr k s d q o c m e t u v x)) (bs++(bits 27 t.toNat)) [t1,t2,t'] (es++ek bs 27)):=fun t' es=>by
  have:=qX (n+1) _ t1 t2 t' es bs 27 t.toNat 8 (show(fr k s d q o c m e t u v x)[8]?=_ by rw[acL ht.1];rfl) (by omega) (by omega) (by omega) (by omega)
  try simp only[aco]at this
  exact this
 have l0:(bs++(bits 27 t.toNat)).length=bs.length+27:=by simp only[acn,aq]<;>omega
 have h1:∀t' es,aa T (n+5) (.fn 201) [pW,af5 16,.ptr 0 0 0 9] (wH (.box (fr k s d q o c m e t u v x)) (bs++(bits 27 t.toNat)) [t1,t2,t'] es)=some (.bc [],wH (.box (fr k s d q o c m e t u v x)) (bs++(bits 27 t.toNat++(bits 16 u.toNat))) [t1,t2,t'] (es++ek (bs++(bits 27 t.toNat)) 16)):=fun t' es=>by
  have:=qX (n+1) _ t1 t2 t' es (bs++(bits 27 t.toNat)) 16 u.toNat 9 (show(fr k s d q o c m e t u v x)[9]?=_ by rw[acL hu.1];rfl) (by omega) (by omega) (by omega) (by rw[l0];omega)
  try simp only[aco]at this
  exact this
 have l1:(bs++(bits 27 t.toNat++(bits 16 u.toNat))).length=bs.length+43:=by simp only[acn,aq]<;>omega
 have h2:∀t' es,aa T (n+5) (.fn 201) [pW,af5 16,.ptr 0 0 0 10] (wH (.box (fr k s d q o c m e t u v x)) (bs++(bits 27 t.toNat++(bits 16 u.toNat))) [t1,t2,t'] es)=some (.bc [],wH (.box (fr k s d q o c m e t u v x)) (bs++(bits 27 t.toNat++(bits 16 u.toNat++(bits 16 v.toNat)))) [t1,t2,t'] (es++ek (bs++(bits 27 t.toNat++(bits 16 u.toNat))) 16)):=fun t' es=>by
  have:=qX (n+1) _ t1 t2 t' es (bs++(bits 27 t.toNat++(bits 16 u.toNat))) 16 v.toNat 10 (show(fr k s d q o c m e t u v x)[10]?=_ by rw[acL hv.1];rfl) (by omega) (by omega) (by omega) (by rw[l1];omega)
  try simp only[aco]at this
  exact this
 have l2:(bs++(bits 27 t.toNat++(bits 16 u.toNat++(bits 16 v.toNat)))).length=bs.length+59:=by simp only[acn,aq]<;>omega
 have hT:∀t' es,aa T (n+5) (.fn 215) [pW,.ptr 0 0 0 11] (wH (.box (fr k s d q o c m e t u v x)) (bs++(bits 27 t.toNat++(bits 16 u.toNat++(bits 16 v.toNat)))) [t1,t2,t'] es)=some (.bc [],wX (.box (fr k s d q o c m e t u v x)) (bs++(bits 27 t.toNat++(bits 16 u.toNat++(bits 16 v.toNat)))) [t1,t2,t'] es):=fun t' es=>IL n (fr k s d q o c m e t u v x) t1 t2 t' es (bs++(bits 27 t.toNat++(bits 16 u.toNat++(bits 16 v.toNat)))) x 11 rfl hx
 have hk:ek bs 59=ek bs 27++ek (bs++(bits 27 t.toNat)) 16++ek (bs++(bits 27 t.toNat++(bits 16 u.toNat))) 16:=by rw[cn l0,cn l1]
 try simp only[aco]at hk
 rw[hk]
 simp only[Iz,go_sem,simprocAttr,h0,h1,h2,hT,acR,acV,acI,acP,acO,adb,acW,aco,ite_self,if_true]
theorem Sr(k s d q o c m e t u v:Int)(x:ByteArray)(hx:127<x.size)(hb:bs.length≤900) :
 aa T (n+6) (.fn 200) [pW,.ptr 0 0 0 0] (wH (.box (fr k s d q o c m e t u v x)) bs [t1,t2] es)=some (.bc [],wX (.box (fr k s d q o c m e t u v x)) bs [t1,t2] es):=by
 refine bm PW (by rfl) ?_
 have hT:∀t' es,aa T (n+5) (.fn 215) [pW,.ptr 0 0 0 11] (wH (.box (fr k s d q o c m e t u v x)) bs [t1,t2,t'] es)=some (.bc [],wX (.box (fr k s d q o c m e t u v x)) bs [t1,t2,t'] es):=fun t' es=>IL n (fr k s d q o c m e t u v x) t1 t2 t' es bs x 11 rfl hx
 simp only[IT,go_sem,simprocAttr,hT,acR,acV,acI,acP,acO,adb,acW,aco,ite_self,if_true]
theorem Jp(s d q o c m e t u v:Int)(x:ByteArray)(hs:0≤s∧s≤31)(hd:d<32)(hd0:d<0→d= -1)(hq:0≤q∧q≤255)(ho:0≤o∧o≤255)(hc:0≤c∧c≤255)(hm:0≤m∧m≤65535)(hx:127<x.size)(hb:bs.length≤100) :
 ∃bs' es',aa T (n+7) (.fn 176) [pW,.ptr 0 0 0 0] (wH (.box (fr 1 s d q o c m e t u v x)) bs [] es)=some (.bool true,wX (.box (fr 1 s d q o c m e t u v x)) bs' [] es'):=by
 refine⟨(bs++(bits 3 1++(bits 5 s.toNat++(an d++(bits 8 q.toNat++(bits 8 o.toNat++(bits 8 c.toNat++(bits 16 m.toNat)))))))),es++(ek bs 3++(ek (bs++(bits 3 1)) 5++(ek (bs++(bits 3 1++(bits 5 s.toNat))) (bF d)++(ek (bs++(bits 3 1++(bits 5 s.toNat++(an d)))) 8++(ek (bs++(bits 3 1++(bits 5 s.toNat++(an d++(bits 8 q.toNat))))) 8++(ek (bs++(bits 3 1++(bits 5 s.toNat++(an d++(bits 8 q.toNat++(bits 8 o.toNat)))))) 24)))))),?_⟩
 refine bm zk (by rfl) ?_
 have h0:∀t1 t2 es,aa T (n+6) (.fn 201) [pW,af5 3,.ptr 0 0 0 0] (wH (.box (fr 1 s d q o c m e t u v x)) bs [t1,t2] es)=some (.bc [],wH (.box (fr 1 s d q o c m e t u v x)) (bs++(bits 3 1)) [t1,t2] (es++ek bs 3)):=fun t1 t2 es=>by
  have:=fQ (n+2) (fr 1 s d q o c m e t u v x) t1 t2 es bs 3 1 0 rfl (by omega) (by omega) (by omega) (by omega)
  try simp only[aco]at this
  exact this
 have l0:(bs++(bits 3 1)).length=bs.length+(3):=by simp only[acn,aq,bu]<;>omega
 have h1:∀t1 t2 es,aa T (n+6) (.fn 201) [pW,af5 5,.ptr 0 0 0 1] (wH (.box (fr 1 s d q o c m e t u v x)) (bs++(bits 3 1)) [t1,t2] es)=some (.bc [],wH (.box (fr 1 s d q o c m e t u v x)) (bs++(bits 3 1++(bits 5 s.toNat))) [t1,t2] (es++ek (bs++(bits 3 1)) 5)):=fun t1 t2 es=>by
  have:=fQ (n+2) (fr 1 s d q o c m e t u v x) t1 t2 es (bs++(bits 3 1)) 5 s.toNat 1 (show(fr 1 s d q o c m e t u v x)[1]?=_ by rw[acL hs.1];rfl) (by omega) (by omega) (by omega) (by have:=fD d;rw[l0];omega)
  try simp only[aco]at this
  exact this
 have l1:(bs++(bits 3 1++(bits 5 s.toNat))).length=bs.length+(8):=by simp only[acn,aq,bu]<;>omega
 have h2:∀t1 t2 es,aa T (n+6) (.fn 202) [pW,.ptr 0 0 0 2] (wH (.box (fr 1 s d q o c m e t u v x)) (bs++(bits 3 1++(bits 5 s.toNat))) [t1,t2] es)=some (.bc [],wH (.box (fr 1 s d q o c m e t u v x)) (bs++(bits 3 1++(bits 5 s.toNat++(an d)))) [t1,t2] (es++ek (bs++(bits 3 1++(bits 5 s.toNat))) (bF d))):=fun t1 t2 es=>by
  have:=yg n t1 t2 es (bs++(bits 3 1++(bits 5 s.toNat))) 1 s d q o c m e t u v x hd hd0 (by rw[l1];omega)
  try simp only[aco]at this
  exact this
 have l2:(bs++(bits 3 1++(bits 5 s.toNat++(an d)))).length=bs.length+(8+bF d):=by simp only[acn,aq,bu]<;>omega
 have h3:∀t1 t2 es,aa T (n+6) (.fn 201) [pW,af5 8,.ptr 0 0 0 3] (wH (.box (fr 1 s d q o c m e t u v x)) (bs++(bits 3 1++(bits 5 s.toNat++(an d)))) [t1,t2] es)=some (.bc [],wH (.box (fr 1 s d q o c m e t u v x)) (bs++(bits 3 1++(bits 5 s.toNat++(an d++(bits 8 q.toNat))))) [t1,t2] (es++ek (bs++(bits 3 1++(bits 5 s.toNat++(an d)))) 8)):=fun t1 t2 es=>by
  have:=fQ (n+2) (fr 1 s d q o c m e t u v x) t1 t2 es (bs++(bits 3 1++(bits 5 s.toNat++(an d)))) 8 q.toNat 3 (show(fr 1 s d q o c m e t u v x)[3]?=_ by rw[acL hq.1];rfl) (by omega) (by omega) (by omega) (by have:=fD d;rw[l2];omega)
  try simp only[aco]at this
  exact this
 have l3:(bs++(bits 3 1++(bits 5 s.toNat++(an d++(bits 8 q.toNat))))).length=bs.length+(16+bF d):=by simp only[acn,aq,bu]<;>omega
 have h4:∀t1 t2 es,aa T (n+6) (.fn 201) [pW,af5 8,.ptr 0 0 0 4] (wH (.box (fr 1 s d q o c m e t u v x)) (bs++(bits 3 1++(bits 5 s.toNat++(an d++(bits 8 q.toNat))))) [t1,t2] es)=some (.bc [],wH (.box (fr 1 s d q o c m e t u v x)) (bs++(bits 3 1++(bits 5 s.toNat++(an d++(bits 8 q.toNat++(bits 8 o.toNat)))))) [t1,t2] (es++ek (bs++(bits 3 1++(bits 5 s.toNat++(an d++(bits 8 q.toNat))))) 8)):=fun t1 t2 es=>by
  have:=fQ (n+2) (fr 1 s d q o c m e t u v x) t1 t2 es (bs++(bits 3 1++(bits 5 s.toNat++(an d++(bits 8 q.toNat))))) 8 o.toNat 4 (show(fr 1 s d q o c m e t u v x)[4]?=_ by rw[acL ho.1];rfl) (by omega) (by omega) (by omega) (by have:=fD d;rw[l3];omega)
  try simp only[aco]at this
  exact this
 have l4:(bs++(bits 3 1++(bits 5 s.toNat++(an d++(bits 8 q.toNat++(bits 8 o.toNat)))))).length=bs.length+(24+bF d):=by simp only[acn,aq,bu]<;>omega
 have hb1:∀t1 t2 es,aa T (n+6) (.fn 197) [pW,.ptr 0 0 0 0] (wH (.box (fr 1 s d q o c m e t u v x)) (bs++(bits 3 1++(bits 5 s.toNat++(an d++(bits 8 q.toNat++(bits 8 o.toNat)))))) [t1,t2] es)=some (.bc [],wX (.box (fr 1 s d q o c m e t u v x)) (bs++(bits 3 1++(bits 5 s.toNat++(an d++(bits 8 q.toNat++(bits 8 o.toNat++(bits 8 c.toNat++(bits 16 m.toNat)))))))) [t1,t2] (es++ek (bs++(bits 3 1++(bits 5 s.toNat++(an d++(bits 8 q.toNat++(bits 8 o.toNat)))))) 24)):=fun t1 t2 es=>by
  have:=TB n t1 t2 es (bs++(bits 3 1++(bits 5 s.toNat++(an d++(bits 8 q.toNat++(bits 8 o.toNat)))))) 1 s d q o c m e t u v x hc hm hx (by have:=fD d;rw[l4];omega)
  try simp only[aco]at this
  exact this
 simp only[vA,go_sem,simprocAttr,h0,h1,h2,h3,h4,hb1,acR,acV,acI,acP,acO,adb,acW,aco,ite_self,if_true]
theorem IW(s d q o c m e t u v:Int)(x:ByteArray)(hs:0≤s∧s≤31)(hd:d<32)(hd0:d<0→d= -1)(hq:0≤q∧q≤255)(ho:0≤o∧o≤255)(ht:0≤t∧t≤109951162)(hu:0≤u∧u≤65535)(hv:0≤v∧v≤65535)(hx:127<x.size)(hb:bs.length≤100) :
 ∃bs' es',aa T (n+7) (.fn 176) [pW,.ptr 0 0 0 0] (wH (.box (fr 3 s d q o c m e t u v x)) bs [] es)=some (.bool true,wX (.box (fr 3 s d q o c m e t u v x)) bs' [] es'):=by
 refine⟨(bs++(bits 3 3++(bits 5 s.toNat++(an d++(bits 8 q.toNat++(bits 8 o.toNat++(bits 27 t.toNat++(bits 16 u.toNat++(bits 16 v.toNat))))))))),es++(ek bs 3++(ek (bs++(bits 3 3)) 5++(ek (bs++(bits 3 3++(bits 5 s.toNat))) (bF d)++(ek (bs++(bits 3 3++(bits 5 s.toNat++(an d)))) 8++(ek (bs++(bits 3 3++(bits 5 s.toNat++(an d++(bits 8 q.toNat))))) 8++(ek (bs++(bits 3 3++(bits 5 s.toNat++(an d++(bits 8 q.toNat++(bits 8 o.toNat)))))) 59)))))),?_⟩
 refine bm zk (by rfl) ?_
 have h0:∀t1 t2 es,aa T (n+6) (.fn 201) [pW,af5 3,.ptr 0 0 0 0] (wH (.box (fr 3 s d q o c m e t u v x)) bs [t1,t2] es)=some (.bc [],wH (.box (fr 3 s d q o c m e t u v x)) (bs++(bits 3 3)) [t1,t2] (es++ek bs 3)):=fun t1 t2 es=>by
  have:=fQ (n+2) (fr 3 s d q o c m e t u v x) t1 t2 es bs 3 3 0 rfl (by omega) (by omega) (by omega) (by omega)
  try simp only[aco]at this
  exact this
 have l0:(bs++(bits 3 3)).length=bs.length+(3):=by simp only[acn,aq,bu]<;>omega
 have h1:∀t1 t2 es,aa T (n+6) (.fn 201) [pW,af5 5,.ptr 0 0 0 1] (wH (.box (fr 3 s d q o c m e t u v x)) (bs++(bits 3 3)) [t1,t2] es)=some (.bc [],wH (.box (fr 3 s d q o c m e t u v x)) (bs++(bits 3 3++(bits 5 s.toNat))) [t1,t2] (es++ek (bs++(bits 3 3)) 5)):=fun t1 t2 es=>by
  have:=fQ (n+2) (fr 3 s d q o c m e t u v x) t1 t2 es (bs++(bits 3 3)) 5 s.toNat 1 (show(fr 3 s d q o c m e t u v x)[1]?=_ by rw[acL hs.1];rfl) (by omega) (by omega) (by omega) (by have:=fD d;rw[l0];omega)
  try simp only[aco]at this
  exact this
 have l1:(bs++(bits 3 3++(bits 5 s.toNat))).length=bs.length+(8):=by simp only[acn,aq,bu]<;>omega
 have h2:∀t1 t2 es,aa T (n+6) (.fn 202) [pW,.ptr 0 0 0 2] (wH (.box (fr 3 s d q o c m e t u v x)) (bs++(bits 3 3++(bits 5 s.toNat))) [t1,t2] es)=some (.bc [],wH (.box (fr 3 s d q o c m e t u v x)) (bs++(bits 3 3++(bits 5 s.toNat++(an d)))) [t1,t2] (es++ek (bs++(bits 3 3++(bits 5 s.toNat))) (bF d))):=fun t1 t2 es=>by
  have:=yg n t1 t2 es (bs++(bits 3 3++(bits 5 s.toNat))) 3 s d q o c m e t u v x hd hd0 (by rw[l1];omega)
  try simp only[aco]at this
  exact this
 have l2:(bs++(bits 3 3++(bits 5 s.toNat++(an d)))).length=bs.length+(8+bF d):=by simp only[acn,aq,bu]<;>omega
 have h3:∀t1 t2 es,aa T (n+6) (.fn 201) [pW,af5 8,.ptr 0 0 0 3] (wH (.box (fr 3 s d q o c m e t u v x)) (bs++(bits 3 3++(bits 5 s.toNat++(an d)))) [t1,t2] es)=some (.bc [],wH (.box (fr 3 s d q o c m e t u v x)) (bs++(bits 3 3++(bits 5 s.toNat++(an d++(bits 8 q.toNat))))) [t1,t2] (es++ek (bs++(bits 3 3++(bits 5 s.toNat++(an d)))) 8)):=fun t1 t2 es=>by
  have:=fQ (n+2) (fr 3 s d q o c m e t u v x) t1 t2 es (bs++(bits 3 3++(bits 5 s.toNat++(an d)))) 8 q.toNat 3 (show(fr 3 s d q o c m e t u v x)[3]?=_ by rw[acL hq.1];rfl) (by omega) (by omega) (by omega) (by have:=fD d;rw[l2];omega)
  try simp only[aco]at this
  exact this
 have l3:(bs++(bits 3 3++(bits 5 s.toNat++(an d++(bits 8 q.toNat))))).length=bs.length+(16+bF d):=by simp only[acn,aq,bu]<;>omega
 have h4:∀t1 t2 es,aa T (n+6) (.fn 201) [pW,af5 8,.ptr 0 0 0 4] (wH (.box (fr 3 s d q o c m e t u v x)) (bs++(bits 3 3++(bits 5 s.toNat++(an d++(bits 8 q.toNat))))) [t1,t2] es)=some (.bc [],wH (.box (fr 3 s d q o c m e t u v x)) (bs++(bits 3 3++(bits 5 s.toNat++(an d++(bits 8 q.toNat++(bits 8 o.toNat)))))) [t1,t2] (es++ek (bs++(bits 3 3++(bits 5 s.toNat++(an d++(bits 8 q.toNat))))) 8)):=fun t1 t2 es=>by
  have:=fQ (n+2) (fr 3 s d q o c m e t u v x) t1 t2 es (bs++(bits 3 3++(bits 5 s.toNat++(an d++(bits 8 q.toNat))))) 8 o.toNat 4 (show(fr 3 s d q o c m e t u v x)[4]?=_ by rw[acL ho.1];rfl) (by omega) (by omega) (by omega) (by have:=fD d;rw[l3];omega)
  try simp only[aco]at this
  exact this
 have l4:(bs++(bits 3 3++(bits 5 s.toNat++(an d++(bits 8 q.toNat++(bits 8 o.toNat)))))).length=bs.length+(24+bF d):=by simp only[acn,aq,bu]<;>omega
 have hb1:∀t1 t2 es,aa T (n+6) (.fn 199) [pW,.ptr 0 0 0 0] (wH (.box (fr 3 s d q o c m e t u v x)) (bs++(bits 3 3++(bits 5 s.toNat++(an d++(bits 8 q.toNat++(bits 8 o.toNat)))))) [t1,t2] es)=some (.bc [],wX (.box (fr 3 s d q o c m e t u v x)) (bs++(bits 3 3++(bits 5 s.toNat++(an d++(bits 8 q.toNat++(bits 8 o.toNat++(bits 27 t.toNat++(bits 16 u.toNat++(bits 16 v.toNat))))))))) [t1,t2] (es++ek (bs++(bits 3 3++(bits 5 s.toNat++(an d++(bits 8 q.toNat++(bits 8 o.toNat)))))) 59)):=fun t1 t2 es=>by
  have:=WA n t1 t2 es (bs++(bits 3 3++(bits 5 s.toNat++(an d++(bits 8 q.toNat++(bits 8 o.toNat)))))) 3 s d q o c m e t u v x ht hu hv hx (by have:=fD d;rw[l4];omega)
  try simp only[aco]at this
  exact this
 simp only[vA,go_sem,simprocAttr,h0,h1,h2,h3,h4,hb1,acR,acV,acI,acP,acO,adb,acW,aco,ite_self,if_true]
theorem Kn(s d q o c m e t u v:Int)(x:ByteArray)(hs:0≤s∧s≤31)(hd:d<32)(hd0:d<0→d= -1)(hq:0≤q∧q≤255)(ho:0≤o∧o≤255)(hx:127<x.size)(hb:bs.length≤100) :
 ∃bs' es',aa T (n+7) (.fn 176) [pW,.ptr 0 0 0 0] (wH (.box (fr 4 s d q o c m e t u v x)) bs [] es)=some (.bool true,wX (.box (fr 4 s d q o c m e t u v x)) bs' [] es'):=by
 refine⟨(bs++(bits 3 4++(bits 5 s.toNat++(an d++(bits 8 q.toNat++(bits 8 o.toNat)))))),es++(ek bs 3++(ek (bs++(bits 3 4)) 5++(ek (bs++(bits 3 4++(bits 5 s.toNat))) (bF d)++(ek (bs++(bits 3 4++(bits 5 s.toNat++(an d)))) 8++(ek (bs++(bits 3 4++(bits 5 s.toNat++(an d++(bits 8 q.toNat))))) 8))))),?_⟩
 refine bm zk (by rfl) ?_
 have h0:∀t1 t2 es,aa T (n+6) (.fn 201) [pW,af5 3,.ptr 0 0 0 0] (wH (.box (fr 4 s d q o c m e t u v x)) bs [t1,t2] es)=some (.bc [],wH (.box (fr 4 s d q o c m e t u v x)) (bs++(bits 3 4)) [t1,t2] (es++ek bs 3)):=fun t1 t2 es=>by
  have:=fQ (n+2) (fr 4 s d q o c m e t u v x) t1 t2 es bs 3 4 0 rfl (by omega) (by omega) (by omega) (by omega)
  try simp only[aco]at this
  exact this
 have l0:(bs++(bits 3 4)).length=bs.length+(3):=by simp only[acn,aq,bu]<;>omega
 have h1:∀t1 t2 es,aa T (n+6) (.fn 201) [pW,af5 5,.ptr 0 0 0 1] (wH (.box (fr 4 s d q o c m e t u v x)) (bs++(bits 3 4)) [t1,t2] es)=some (.bc [],wH (.box (fr 4 s d q o c m e t u v x)) (bs++(bits 3 4++(bits 5 s.toNat))) [t1,t2] (es++ek (bs++(bits 3 4)) 5)):=fun t1 t2 es=>by
  have:=fQ (n+2) (fr 4 s d q o c m e t u v x) t1 t2 es (bs++(bits 3 4)) 5 s.toNat 1 (show(fr 4 s d q o c m e t u v x)[1]?=_ by rw[acL hs.1];rfl) (by omega) (by omega) (by omega) (by have:=fD d;rw[l0];omega)
  try simp only[aco]at this
  exact this
 have l1:(bs++(bits 3 4++(bits 5 s.toNat))).length=bs.length+(8):=by simp only[acn,aq,bu]<;>omega
 have h2:∀t1 t2 es,aa T (n+6) (.fn 202) [pW,.ptr 0 0 0 2] (wH (.box (fr 4 s d q o c m e t u v x)) (bs++(bits 3 4++(bits 5 s.toNat))) [t1,t2] es)=some (.bc [],wH (.box (fr 4 s d q o c m e t u v x)) (bs++(bits 3 4++(bits 5 s.toNat++(an d)))) [t1,t2] (es++ek (bs++(bits 3 4++(bits 5 s.toNat))) (bF d))):=fun t1 t2 es=>by
  have:=yg n t1 t2 es (bs++(bits 3 4++(bits 5 s.toNat))) 4 s d q o c m e t u v x hd hd0 (by rw[l1];omega)
  try simp only[aco]at this
  exact this
 have l2:(bs++(bits 3 4++(bits 5 s.toNat++(an d)))).length=bs.length+(8+bF d):=by simp only[acn,aq,bu]<;>omega
 have h3:∀t1 t2 es,aa T (n+6) (.fn 201) [pW,af5 8,.ptr 0 0 0 3] (wH (.box (fr 4 s d q o c m e t u v x)) (bs++(bits 3 4++(bits 5 s.toNat++(an d)))) [t1,t2] es)=some (.bc [],wH (.box (fr 4 s d q o c m e t u v x)) (bs++(bits 3 4++(bits 5 s.toNat++(an d++(bits 8 q.toNat))))) [t1,t2] (es++ek (bs++(bits 3 4++(bits 5 s.toNat++(an d)))) 8)):=fun t1 t2 es=>by
  have:=fQ (n+2) (fr 4 s d q o c m e t u v x) t1 t2 es (bs++(bits 3 4++(bits 5 s.toNat++(an d)))) 8 q.toNat 3 (show(fr 4 s d q o c m e t u v x)[3]?=_ by rw[acL hq.1];rfl) (by omega) (by omega) (by omega) (by have:=fD d;rw[l2];omega)
  try simp only[aco]at this
  exact this
 have l3:(bs++(bits 3 4++(bits 5 s.toNat++(an d++(bits 8 q.toNat))))).length=bs.length+(16+bF d):=by simp only[acn,aq,bu]<;>omega
 have h4:∀t1 t2 es,aa T (n+6) (.fn 201) [pW,af5 8,.ptr 0 0 0 4] (wH (.box (fr 4 s d q o c m e t u v x)) (bs++(bits 3 4++(bits 5 s.toNat++(an d++(bits 8 q.toNat))))) [t1,t2] es)=some (.bc [],wH (.box (fr 4 s d q o c m e t u v x)) (bs++(bits 3 4++(bits 5 s.toNat++(an d++(bits 8 q.toNat++(bits 8 o.toNat)))))) [t1,t2] (es++ek (bs++(bits 3 4++(bits 5 s.toNat++(an d++(bits 8 q.toNat))))) 8)):=fun t1 t2 es=>by
  have:=fQ (n+2) (fr 4 s d q o c m e t u v x) t1 t2 es (bs++(bits 3 4++(bits 5 s.toNat++(an d++(bits 8 q.toNat))))) 8 o.toNat 4 (show(fr 4 s d q o c m e t u v x)[4]?=_ by rw[acL ho.1];rfl) (by omega) (by omega) (by omega) (by have:=fD d;rw[l3];omega)
  try simp only[aco]at this
  exact this
 have l4:(bs++(bits 3 4++(bits 5 s.toNat++(an d++(bits 8 q.toNat++(bits 8 o.toNat)))))).length=bs.length+(24+bF d):=by simp only[acn,aq,bu]<;>omega
 have hb1:∀t1 t2 es,aa T (n+6) (.fn 200) [pW,.ptr 0 0 0 0] (wH (.box (fr 4 s d q o c m e t u v x)) (bs++(bits 3 4++(bits 5 s.toNat++(an d++(bits 8 q.toNat++(bits 8 o.toNat)))))) [t1,t2] es)=some (.bc [],wX (.box (fr 4 s d q o c m e t u v x)) (bs++(bits 3 4++(bits 5 s.toNat++(an d++(bits 8 q.toNat++(bits 8 o.toNat)))))) [t1,t2] es):=fun t1 t2 es=>by
  have:=Sr n t1 t2 es (bs++(bits 3 4++(bits 5 s.toNat++(an d++(bits 8 q.toNat++(bits 8 o.toNat)))))) 4 s d q o c m e t u v x hx (by have:=fD d;rw[l4];omega)
  try simp only[aco]at this
  exact this
 simp only[vA,go_sem,simprocAttr,h0,h1,h2,h3,h4,hb1,acR,acV,acI,acP,acO,adb,acW,aco,ite_self,if_true]
end
end ft
end
namespace ft
def mY(k c m e t u v:Int)(x:ByteArray):List Bool:=
 bif decide (k=1)then bits 8 c.toNat++(bits 16 m.toNat++(bits 7 x.size++iK x x.size))
 else bif decide (k=2)then bits 16 (xj e)
 else bif decide (k=3)then bits 27 t.toNat++(bits 16 u.toNat++(bits 16 v.toNat++(bits 7 x.size++iK x x.size)))
 else bits 7 x.size++iK x x.size
def dq(k s d q o c m e t u v:Int)(x:ByteArray):List Bool:=
 bits 3 k.toNat++(bits 5 s.toNat++(an d++(bits 8 q.toNat++(bits 8 o.toNat++mY k c m e t u v x))))
def vB(k s d q o c m e t u v:Int)(x:ByteArray):SV:=
 bif !mn k s d q o c m e t u v x then .bc [.str ⟨#[]⟩,af5 1]
 else bif decide (127<x.size)||decide (127<(og (dq k s d q o c m e t u v x)).size+2)then .bc [.str ⟨#[]⟩,af5 8]
 else .bc [.str (pc (og (dq k s d q o c m e t u v x))),af6]
theorem TU(n:Nat)(es:List (Nat×Nat))(b0:aC):aa T (n+1) (.se 175) [] ⟨[b0],es,0⟩=some (.ptr 1 0 0 0,⟨[b0,.box [.ao 0 [] true,af6,af6]],es,0⟩):=by
 refine eJ Vy ?_
 simp only[Nt,go_sem,simprocAttr]
theorem pV{k s d q o c m e t u v:Int}{x:ByteArray}(h:mn k s d q o c m e t u v x=true) :
 (0≤s∧s≤31)∧d<32∧(d<0→d= -1)∧(0≤q∧q≤255)∧(0≤o∧o≤255)∧
  ((k=1∧(0≤c∧c≤255)∧(0≤m∧m≤65535))∨(k=2∧(-32768≤e∧e≤32767)∧x=⟨#[]⟩)∨(k=3∧(0≤t∧t≤109951162)∧(0≤u∧u≤65535)∧(0≤v∧v≤65535))∨k=4):=by
 unfold mn vm at h
 simp only[eA,Ee,acw,acr]at h
 obtain⟨h1,hs,hq,ho⟩:=h
 by_cases k1:k=1
 ·rw[acp k1]at h1
  simp only[acG,acw,acr,ac8,acx]at h1
  exact⟨hs,by omega,by omega,hq,ho,.inl ⟨k1,h1.1.1.2,h1.1.2⟩⟩
 ·rw[acs k1]at h1
  by_cases k2:k=2
  ·rw[acp k2]at h1
   simp only[acG,acJ,acw,acr,ac8,acx]at h1
   exact⟨hs,by omega,by omega,hq,ho,.inr (.inl ⟨k2,h1.1.2,h1.2.2.2.2.2.2⟩)⟩
  ·rw[acs k2]at h1
   by_cases k3:k=3
   ·rw[acp k3]at h1
    simp only[acG,acJ,acw,acr,ac8,acx]at h1
    exact⟨hs,by omega,by omega,hq,ho,.inr (.inr (.inl ⟨k3,h1.1.1.1.2,h1.1.1.2,h1.1.2⟩))⟩
   ·rw[acs k3]at h1
    by_cases k4:k=4
    ·rw[acp k4]at h1
     simp only[acG,acJ,acw,adw,acr,ac8,acx]at h1
     exact⟨hs,by omega,by omega,hq,ho,.inr (.inr (.inr k4))⟩
    ·rw[acs k4]at h1
     simp at h1
end ft
section
namespace ft
section
variable{k s d q o c m e t u v:Int}{x:ByteArray}
theorem Tl(n:Nat)(es:List (Nat×Nat))(h:mn k s d q o c m e t u v x=true)(hx:x.size≤127) :
 ∃es',aa T (n+7) (.fn 176) [pW,.ptr 0 0 0 0] (wH (.box (fr k s d q o c m e t u v x)) [] [] es)=some (.bool true,wH (.box (fr k s d q o c m e t u v x)) (dq k s d q o c m e t u v x) [] es'):=by
 obtain⟨hs,hd,hd0,hq,ho,h⟩:=pV h
 rcases h with⟨rfl,hc,hm⟩|⟨rfl,he,rfl⟩|⟨rfl,ht,hu,hv⟩|rfl
 ·exact⟨_,Nr n es [] s d q o c m e t u v x hs hd hd0 hq ho hc hm hx (by simp)⟩
 ·exact⟨_,Qh n es [] s d q o c m e t u v _ hs hd hd0 hq ho he (by simp)⟩
 ·exact⟨_,M7 n es [] s d q o c m e t u v x hs hd hd0 hq ho ht hu hv hx (by simp)⟩
 ·exact⟨_,Me n es [] s d q o c m e t u v x hs hd hd0 hq ho hx (by simp)⟩
theorem Tg(n:Nat)(es:List (Nat×Nat))(h:mn k s d q o c m e t u v x=true)(hx:127<x.size) :
 ∃bs' es',aa T (n+7) (.fn 176) [pW,.ptr 0 0 0 0] (wH (.box (fr k s d q o c m e t u v x)) [] [] es)=some (.bool true,wX (.box (fr k s d q o c m e t u v x)) bs' [] es'):=by
 obtain⟨hs,hd,hd0,hq,ho,h⟩:=pV h
 rcases h with⟨rfl,hc,hm⟩|⟨rfl,he,rfl⟩|⟨rfl,ht,hu,hv⟩|rfl
 ·exact Jp n es [] s d q o c m e t u v x hs hd hd0 hq ho hc hm hx (by simp)
 ·exact absurd hx (by decide)
 ·exact IW n es [] s d q o c m e t u v x hs hd hd0 hq ho ht hu hv hx (by simp)
 ·exact Kn n es [] s d q o c m e t u v x hs hd hd0 hq ho hx (by simp)
end
theorem Ny(n:Nat)(H:ab)(k s d q o c m e t u v:Int)(x:ByteArray):aa T (n+8) (.fn 133) [.agg (fr k s d q o c m e t u v x)] H=some (vB k s d q o c m e t u v x,H):=by
 refine ae P4 (by rfl) ?_
 have h17:=fun H=>Yg (n+3) H k s d q o c m e t u v x
 unfold vB
 cases hch:mn k s d q o c m e t u v x with
 |false=>
  rw[hch]at h17
  simp only[Cd,ah,go_sem,simprocAttr,h17]
 |true=>
  rw[hch]at h17
  have h26:=fun es b0=>TU (n+6) es b0
  rcases acz 127 x.size with hx|hx
  ·obtain⟨bs',es',h27⟩:=Tg n [(1,3)] hch hx
   have h27:aa T (n+7) (.fn 176) [.agg [.ptr 1 0 0 0,.dj],.ptr 0 0 0 0] ⟨[.box (fr k s d q o c m e t u v x),.box [.bn 2 0 0 0,af6,af6],.arr 0 1 [] false],[(1,3)],0⟩=_:=h27
   have h28:=Wn (.box (fr k s d q o c m e t u v x)) [] es' bs' (n+6)
   have hd:decide (127<x.size)=true:=acp hx
   simp only[Cd,ah,go_sem,simprocAttr,h17,h26,h27,h28,hd,Nat.reduceMod,Nat.reduceDiv]
  ·obtain⟨es',h27⟩:=Tl n [(1,3)] hch hx
   have h27:aa T (n+7) (.fn 176) [.agg [.ptr 1 0 0 0,.dj],.ptr 0 0 0 0] ⟨[.box (fr k s d q o c m e t u v x),.box [.bn 2 0 0 0,af6,af6],.arr 0 1 [] false],[(1,3)],0⟩=_:=h27
   have h28:=Yj (n+6) (.box (fr k s d q o c m e t u v x)) [] es' (dq k s d q o c m e t u v x)
   obtain⟨P,hP⟩:∃P,og (dq k s d q o c m e t u v x)=P:=⟨_,rfl⟩
   rw[hP]at h28⊢
   have hd:decide (127<x.size)=false:=acs (by omega)
   have hs:P.size≤1000:=by
    rw[←hP,jv]
    have hl:(dq k s d q o c m e t u v x).length≤2000:=by
     have:=fD d
     unfold dq mY
     simp only[acn,aq,bu]
     cases decide (k=1)<;>cases decide (k=2)<;>cases decide (k=3)<;>simp only[acG,acJ,acn,aq,gW]<;>omega
    unfold nb;omega
   have h25:=fun H=>Wd (n+1) H P hs
   have hw:bb ((P.size:Int)+2)=(P.size:Int)+2:=al (by omega) (by omega)
   cases hp:decide (127<P.size+2)with
   |false=>
    have hp2:decide ((127:Int)<(P.size:Int)+2)=false:=by simp only[acx]at hp ⊢;omega
    simp only[Cd,ah,go_sem,simprocAttr,h17,h26,h27,h28,hd,hw,hp2,h25,Nat.reduceMod,Nat.reduceDiv]
   |true=>
    have hp2:decide ((127:Int)<(P.size:Int)+2)=true:=by simp only[acr]at hp ⊢;omega
    simp only[Cd,ah,go_sem,simprocAttr,h17,h26,h27,h28,hd,hw,hp2,h25,Nat.reduceMod,Nat.reduceDiv]
end ft
end
namespace ft
theorem vW{x h:Int}:eA x h=true↔0≤x∧x≤h:=by simp[eA]
theorem zZ{x h:Int}:eA x h=false↔¬(0≤x∧x≤h):=by rw[←vW,aeB]
theorem HC{s d q o c m e t u v:Int}{x:ByteArray}:mn 1 s d q o c m e t u v x=decide (((0≤d∧d≤31)∧d≠s)∧(0≤c∧c≤255)∧(0≤m∧m≤65535)∧e=0∧t=0∧u=0∧v=0∧(0≤s∧s≤31)∧(0≤q∧q≤255)∧(0≤o∧o≤255)):=by
 rw[adz]
 simp only[mn,vm,eA,Ee,decide_true,acG,acJ,acw,adw,acr,ac8,acx]
 constructor<;>intro h<;>omega
theorem HF{s d q o c m e t u v:Int}{x:ByteArray}:mn 2 s d q o c m e t u v x=(decide (x=⟨#[]⟩)&&decide (((0≤d∧d≤31)∧d≠s)∧(-32768≤e∧e≤32767)∧c=0∧m=0∧t=0∧u=0∧v=0∧(0≤s∧s≤31)∧(0≤q∧q≤255)∧(0≤o∧o≤255))):=by
 have k1:decide ((2:Int)=1)=false:=rfl
 rw[adz]
 simp only[mn,vm,eA,Ee,k1,decide_true,acG,acJ,acw,adw,acr,ac8,acx]
 constructor
 ·intro h
  exact⟨h.1.2.2.2.2.2.2,by omega⟩
 ·intro⟨h1,h⟩
  refine⟨⟨by omega,by omega,by omega,by omega,by omega,by omega,h1⟩,by omega⟩
theorem HO{s d q o c m e t u v:Int}{x:ByteArray}:mn 3 s d q o c m e t u v x=decide (d= -1∧(0≤t∧t≤109951162)∧(0≤u∧u≤65535)∧(0≤v∧v≤65535)∧c=0∧m=0∧e=0∧(0≤s∧s≤31)∧(0≤q∧q≤255)∧(0≤o∧o≤255)):=by
 have k1:decide ((3:Int)=1)=false:=rfl
 have k2:decide ((3:Int)=2)=false:=rfl
 rw[adz]
 simp only[mn,vm,eA,Ee,k1,k2,decide_true,acG,acJ,acw,adw,acr,ac8,acx]
 constructor<;>intro h<;>omega
theorem Qu{s d q o c m e t u v:Int}{x:ByteArray}:mn 4 s d q o c m e t u v x=decide ((d= -1∨((0≤d∧d≤31)∧d≠s))∧c=0∧m=0∧e=0∧t=0∧u=0∧v=0∧(0≤s∧s≤31)∧(0≤q∧q≤255)∧(0≤o∧o≤255)):=by
 have k1:decide ((4:Int)=1)=false:=rfl
 have k2:decide ((4:Int)=2)=false:=rfl
 have k3:decide ((4:Int)=3)=false:=rfl
 rw[adz]
 simp only[mn,vm,eA,Ee,k1,k2,k3,decide_true,acG,acJ,acw,adw,acr,ac8,acx]
 constructor<;>intro h<;>omega
theorem MB(n:Nat)(H:ab)(s d q o c m e t u v:Int)(x:ByteArray):aa T (n+2) (.fn 89) [.agg (fr 1 s d q o c m e t u v x)] H=some (af5 (bif mn 1 s d q o c m e t u v x then 0 else 1),H):=by
 refine ae Pd (by rfl) ?_
 rw[HC]
 simp only[Kx,ah,go_sem,Int.reduceToNat,Nat.reduceAdd,Nat.reduceBEq,Nat.reduceLeDiff,Nat.reduceLT,Nat.reduceMul,Nat.reduceSub,Int.reduceEq,Int.reduceLT,Int.reduceLE,Int.reduceNeg,ud]
 repeat' (with_reducible refine aD (fun _=>?_) (fun _=>?_)<;>simp only[*,go_sem,Int.reduceToNat,Nat.reduceAdd,Nat.reduceBEq,Nat.reduceLeDiff,Nat.reduceLT,Nat.reduceMul,Nat.reduceSub,Int.reduceEq,Int.reduceLT,Int.reduceLE,Int.reduceNeg,ud])
 all_goals (simp only[vW,zZ,acr,acx]at *;refine congrArg some (congrArg (SV.int .i64) ?_);first|(rw[acs (by omega)];rfl)|(rw[acp (by omega)];rfl))
theorem NQ(n:Nat)(H:ab)(s d q o c m e t u v:Int)(x:ByteArray):aa T (n+2) (.fn 89) [.agg (fr 2 s d q o c m e t u v x)] H=some (af5 (bif mn 2 s d q o c m e t u v x then 0 else 1),H):=by
 refine ae Pd (by rfl) ?_
 rw[HF]
 cases hx:decide (x=⟨#[]⟩)<;>simp only[Kx,ah,go_sem,Int.reduceToNat,Nat.reduceAdd,Nat.reduceBEq,Nat.reduceLeDiff,Nat.reduceLT,Nat.reduceMul,Nat.reduceSub,Int.reduceEq,Int.reduceLT,Int.reduceLE,Int.reduceNeg,ud,hx]
 all_goals repeat' (with_reducible refine aD (fun _=>?_) (fun _=>?_)<;>simp only[*,go_sem,Int.reduceToNat,Nat.reduceAdd,Nat.reduceBEq,Nat.reduceLeDiff,Nat.reduceLT,Nat.reduceMul,Nat.reduceSub,Int.reduceEq,Int.reduceLT,Int.reduceLE,Int.reduceNeg,ud])
 all_goals (simp only[vW,zZ,acr,acx]at *;refine congrArg some (congrArg (SV.int .i64) ?_);first|(rw[acs (by omega)];rfl)|(rw[acp (by omega)];rfl))
theorem MM(n:Nat)(H:ab)(s d q o c m e t u v:Int)(x:ByteArray):aa T (n+2) (.fn 89) [.agg (fr 3 s d q o c m e t u v x)] H=some (af5 (bif mn 3 s d q o c m e t u v x then 0 else 1),H):=by
 refine ae Pd (by rfl) ?_
 rw[HO]
 simp only[Kx,ah,go_sem,Int.reduceToNat,Nat.reduceAdd,Nat.reduceBEq,Nat.reduceLeDiff,Nat.reduceLT,Nat.reduceMul,Nat.reduceSub,Int.reduceEq,Int.reduceLT,Int.reduceLE,Int.reduceNeg,ud]
 repeat' (with_reducible refine aD (fun _=>?_) (fun _=>?_)<;>simp only[*,go_sem,Int.reduceToNat,Nat.reduceAdd,Nat.reduceBEq,Nat.reduceLeDiff,Nat.reduceLT,Nat.reduceMul,Nat.reduceSub,Int.reduceEq,Int.reduceLT,Int.reduceLE,Int.reduceNeg,ud])
 all_goals (simp only[vW,zZ,acr,acx]at *;refine congrArg some (congrArg (SV.int .i64) ?_);first|(rw[acs (by omega)];rfl)|(rw[acp (by omega)];rfl))
theorem Ot(n:Nat)(H:ab)(s d q o c m e t u v:Int)(x:ByteArray):aa T (n+2) (.fn 89) [.agg (fr 4 s d q o c m e t u v x)] H=some (af5 (bif mn 4 s d q o c m e t u v x then 0 else 1),H):=by
 refine ae Pd (by rfl) ?_
 rw[Qu]
 simp only[Kx,ah,go_sem,Int.reduceToNat,Nat.reduceAdd,Nat.reduceBEq,Nat.reduceLeDiff,Nat.reduceLT,Nat.reduceMul,Nat.reduceSub,Int.reduceEq,Int.reduceLT,Int.reduceLE,Int.reduceNeg,ud]
 repeat' (with_reducible refine aD (fun _=>?_) (fun _=>?_)<;>simp only[*,go_sem,Int.reduceToNat,Nat.reduceAdd,Nat.reduceBEq,Nat.reduceLeDiff,Nat.reduceLT,Nat.reduceMul,Nat.reduceSub,Int.reduceEq,Int.reduceLT,Int.reduceLE,Int.reduceNeg,ud])
 all_goals (simp only[vW,zZ,acr,acx]at *;refine congrArg some (congrArg (SV.int .i64) ?_);first|(rw[acs (by omega)];rfl)|(rw[acp (by omega)];rfl))
theorem IX(n:Nat)(H:ab)(k s d q o c m e t u v:Int)(x:ByteArray):aa T (n+2) (.fn 89) [.agg (fr k s d q o c m e t u v x)] H=some (af5 (bif mn k s d q o c m e t u v x then 0 else 1),H):=by
 by_cases h1:k=1
 ·subst h1;exact MB n H s d q o c m e t u v x
 ·by_cases h2:k=2
  ·subst h2;exact NQ n H s d q o c m e t u v x
  ·by_cases h3:k=3
   ·subst h3;exact MM n H s d q o c m e t u v x
   ·by_cases h4:k=4
    ·subst h4;exact Ot n H s d q o c m e t u v x
    ·have hc:mn k s d q o c m e t u v x=false:=by
      unfold mn;rw[acs h1,acs h2,acs h3,acs h4];rfl
     have d1:=acs h1
     have d2:=acs h2
     have d3:=acs h3
     have d4:=acs h4
     refine ae Pd (by rfl) ?_
     rw[hc]
     simp only[Kx,ah,go_sem,Int.reduceToNat,Nat.reduceAdd,Nat.reduceBEq,Nat.reduceLeDiff,Nat.reduceLT,Nat.reduceMul,Nat.reduceSub,Int.reduceEq,Int.reduceLT,Int.reduceLE,Int.reduceNeg,ud,d1,d2,d3,d4]
end ft
section
namespace ft
def yW(bs:List Bool):List (List SV):=bs.map fun b=>[.int .u8 (bt b:Nat)]
@[go_sem] theorem uW {bs:List Bool}:(yW bs).length=bs.length:=by simp[yW]
@[go_sem] theorem Rh (bs:List Bool)(i:Nat):(yW bs)[i]?=(bs[i]?).map (fun b=>[.int .u8 (bt b:Nat)]):=by simp[yW]
theorem uh(bs:List Bool)(b:Bool):yW bs++[[.int .u8 (bt b:Nat)]]=yW (bs++[b]):=by simp[yW]
abbrev rB(bs:List Bool):aC:=.box [.bn 2 bs.length 0 bs.length,af6]
abbrev rA(bs:List Bool):aC:=.arr bs.length 1 (yW bs) false
abbrev rH(b0:aC)(bs:List Bool)(tl:List aC)(es:List (Nat×Nat)):ab:=⟨b0::rB bs::rA bs::tl,es,0⟩
abbrev rk(w:Nat):List (Nat×Nat):=List.replicate w (1,3)
def GB(a b:Int):Int:=IntKind.wrap .i64 ((BitVec.ofInt 64 a&&&BitVec.ofInt 64 b).toNat)
@[go_sem high] theorem Od (a b:Int):cW .and (af5 a) (af5 b)=some (af5 (GB a b)):=by
  simp only[cW,adL,acG];rfl
theorem vH(a:Int):GB a 1=a%2:=by
 unfold GB
 have h3:(BitVec.ofInt 64 1).toNat=1:=by decide
 rw[afW,h3,Nat.and_one_is_mod,afm]
 have hw:IntKind.wrap .i64 (((a%(2 ^ 64:Nat)).toNat%2:Nat):Int)=(((a%(2 ^ 64:Nat)).toNat%2:Nat):Int):=al (by omega) (by omega)
 rw[hw]
 omega
def yz(w:Nat)(v':Int)(v:Nat):Prop:=∀i,i<w→IntKind.u8.wrap (GB (v'.fdiv (2 ^ min i 64)) 1)=(bt (v.testBit i):Nat)
theorem ni(w v:Nat)(hw:w≤63):yz w (v:Int) v:=by
 intro i hi
 rw[adM (by omega),gJ,vH,zb]
 rw[mG (by omega) (by omega)]
 rfl
theorem AU(x:Int):yz 16 x (xj x):=by
 intro i hi
 have hp:(0:Int)≤2 ^ i:=Int.pow_nonneg (by decide)
 rw[adM (by omega),vH,zb,aeI _ hp]
 rw[mG (by omega) (by omega)]
 unfold xj
 have:i=0∨i=1∨i=2∨i=3∨i=4∨i=5∨i=6∨i=7∨i=8∨i=9∨i=10∨i=11∨i=12∨i=13∨i=14∨i=15:=by omega
 rcases this with rfl|rfl|rfl|rfl|rfl|rfl|rfl|rfl|rfl|rfl|rfl|rfl|rfl|rfl|rfl|rfl<;>omega
section
variable(b0:aC)(tl:List aC)(es:List (Nat×Nat))(bs:List Bool)
theorem Ht(n:Nat)(w:Nat)(hb:bs.length+w≤524288):aa T (n+1) (.fn 143) [.ptr 1 0 0 0,af5 w] (rH b0 bs tl es)=some (.bool true,rH b0 bs tl es):=by
 refine bm TP (by rfl) ?_
 have hs:bb ((bs.length:Int)+w)=bs.length+w:=al (by omega) (by omega)
 have hx2:decide ((524288:Int)<(bs.length:Int)+w)=false:=acs (by omega)
 have l3:decide (3≤tl.length+1+1+1)=true:=acp (by omega)
 simp only[My,go_sem,Int.reduceToNat,Nat.reduceAdd,Nat.reduceBEq,Nat.reduceLeDiff,Nat.reduceLT,Nat.reduceMul,Nat.reduceSub,Int.reduceEq,Int.reduceLT,Int.reduceLE,Int.reduceNeg,hs,hx2,l3]
theorem Hl(n:Nat)(w v:Nat)(v':Int)(hw:w≤63)(hv:yz w v' v)(hb:bs.length+w≤600000):aa T (n+1) (.fn 144) [.ptr 1 0 0 0,af5 w,af5 v'] (rH b0 bs tl es)=some (.bc [],rH b0 (bs++bits w v) tl (es++rk w)):=by
 refine bm U1 (by rfl) ?_
 have hw1:bb ((w:Int)-1)=(w:Int)-1:=al (by omega) (by omega)
 have hN:decide (max 2 0≤tl.length+1+1+1)=true:=acp (by omega)
 have l0:decide (0<tl.length+1+1+1)=true:=acp (by omega)
 have l1:decide (1<tl.length+1+1+1)=true:=acp (by omega)
 have l2:decide (2<tl.length+1+1+1)=true:=acp (by omega)
 have l3':decide (tl.length+1+1+1<3)=false:=acs (by omega)
 have l3:decide (3≤tl.length+1+1+1)=true:=acp (by omega)
 simp only[Ls,go_sem,Int.reduceToNat,Nat.reduceAdd,Nat.reduceBEq,Nat.reduceLeDiff,Nat.reduceLT,Nat.reduceMul,Nat.reduceSub,Int.reduceEq,Int.reduceLT,Int.reduceLE,Int.reduceNeg]
 refine ba (fun j=>([(0,.ptr 1 0 0 0),(2,af5 v'),(6,af5 ((w:Int)-1-(j:Int)))],⟨b0::rB (bs++(bits w v).take j)::rA (bs++(bits w v).take j)::tl,rk j,0⟩)) (fun _=>True) w ?_ trivial ?_
 ·simp only[go_sem,Int.reduceToNat,Nat.reduceAdd,Nat.reduceBEq,Nat.reduceLeDiff,Nat.reduceLT,Nat.reduceMul,Nat.reduceSub,Int.reduceEq,Int.reduceLT,Int.reduceLE,Int.reduceNeg,hw1,aeV,adn,Int.sub_zero,hN,afX,Int.ofNat_zero]
  try rfl
 ·intro j hj _
  rcases acz j w with hlt|hge
  ·have hx:decide ((0:Int)≤(w:Int)-1-j)=true:=acp (by omega)
   have hs:bb ((w:Int)-1-j-1)=(w:Int)-1-(j+1:Nat):=by rw[al (by omega) (by omega)];omega
   have hB:(bs++(bits w v).take j).length=bs.length+j:=by rw[acn,adA,aq];omega
   have hB':bs++(bits w v).take (j+1)=(bs++(bits w v).take j)++[v.testBit (w-1-j)]:=by rw[sx hlt,aco]
   have hi:((w:Int)-1-j).toNat=w-1-j:=by omega
   have hE:=hv (w-1-j) (by omega)
   obtain⟨b,hb'⟩:∃b,v.testBit (w-1-j)=b:=⟨_,rfl⟩
   obtain⟨B,hBd⟩:∃B,bs++(bits w v).take j=B:=⟨_,rfl⟩
   rw[hb',hBd]at hB'
   rw[hBd]at hB
   rw[hb']at hE
   have hl1:(B++[b]).length=B.length+1:=by simp
   have gb:=fun H=>gH 1 H 2 B.length B.length [[.int .u8 (bt b:Nat)]] (yW B) uW
   have hr:decide ((B.length+1)*1≤bV)=true:=acp (ac7 (show(B.length+1)*1≤1000000 by omega) (by decide))
   have ha:=uh B b
   simp only[go_sem,Int.reduceToNat,Nat.reduceAdd,Nat.reduceBEq,Nat.reduceLeDiff,Nat.reduceLT,Nat.reduceMul,Nat.reduceSub,Int.reduceEq,Int.reduceLT,Int.reduceLE,Int.reduceNeg,hx,hi,hE,hBd,gb,hr,l0,l1,l2,l3,l3',hN,hs,hB',hl1,ha,aek,acI,acP,ite_self,if_true]
   refine⟨by first|trivial|omega,by simp only[rB,rA,hl1],trivial⟩
  ·obtain rfl:j=w:=by omega
   have hx:decide ((0:Int)≤(j:Int)-1-j)=false:=acs (by omega)
   have ht:(bits j v).take j=bits j v:=ac1 (by rw[aq];exact acH _)
   simp only[go_sem,Int.reduceToNat,Nat.reduceAdd,Nat.reduceBEq,Nat.reduceLeDiff,Nat.reduceLT,Nat.reduceMul,Nat.reduceSub,Int.reduceEq,Int.reduceLT,Int.reduceLE,Int.reduceNeg,hx,ht,hN,l0,l1,l2,l3,l3',acI,acP,ite_self,if_true]
theorem oI(n:Nat)(w v:Nat)(h1:1≤w)(hw:w≤62)(hv:v<2 ^ w)(hb:bs.length+w≤524288):aa T (n+2) (.fn 91) [.ptr 1 0 0 0,af5 w,af5 v] (rH b0 bs tl es)=some (.bc [],rH b0 (bs++bits w v) tl (es++rk w)):=by
 refine bm e91 (by rfl) ?_
 have h63:=fun es=>Ht b0 tl es bs n w hb
 have h64:=fun es=>Hl b0 tl es bs n w v v (by omega) (ni w v (by omega)) (by omega)
 have h62:2 ^ w≤2 ^ 62:=aeR (by decide) hw
 have x1:decide ((w:Int)<1)=false:=acs (by omega)
 have x2:decide ((63:Int)<(w:Int))=false:=acs (by omega)
 have x3:decide ((v:Int)<0)=false:=acs (by omega)
 have x4:decide ((w:Int)<63)=true:=acp (by omega)
 have x5:bb (1*2 ^ min w 64)=((2 ^ w:Nat):Int):=by
  rw[adM (by omega),show((1:Int)*2 ^ w)=((2 ^ w:Nat):Int) by rw[Int.one_mul,afl];rfl]
  exact al (by omega) (by omega)
 have x6:decide ((((2 ^ w:Nat)):Int)≤(v:Int))=false:=acs (by omega)
 have x7:decide ((0:Int)≤(w:Int))=true:=acp (by omega)
 have l0:decide (0<tl.length+1+1+1)=true:=acp (by omega)
 have l1:decide (1<tl.length+1+1+1)=true:=acp (by omega)
 have l2:decide (2<tl.length+1+1+1)=true:=acp (by omega)
 have l3':decide (tl.length+1+1+1<3)=false:=acs (by omega)
 have l3:decide (3≤tl.length+1+1+1)=true:=acp (by omega)
 simp only[Zx,go_sem,Int.reduceToNat,Nat.reduceAdd,Nat.reduceBEq,Nat.reduceLeDiff,Nat.reduceLT,Nat.reduceMul,Nat.reduceSub,Int.reduceEq,Int.reduceLT,Int.reduceLE,Int.reduceNeg,h63,h64,x1,x2,x3,x4,x5,x6,adl,l0,l1,l2,l3,l3',acI,acP,acO,adb,acW,ite_self,if_true,aco]
theorem Ow(n:Nat)(f:Bool)(hb:bs.length+1≤524288):aa T (n+2) (.fn 92) [.ptr 1 0 0 0,.bool f] (rH b0 bs tl es)=some (.bc [],rH b0 (bs++bits 1 (bt f)) tl (es++rk 1)):=by
 refine bm e92 (by rfl) ?_
 have h63:∀es,aa T (n+1) (.fn 143) [.ptr 1 0 0 0,af5 1] (rH b0 bs tl es)=some (.bool true,rH b0 bs tl es):=fun es=>Ht b0 tl es bs n 1 hb
 have hl1:∀b:Bool,(bs++[b]).length=bs.length+1:=fun b=>by simp
 have hr:decide ((bs.length+1)*1≤bV)=true:=acp (ac7 (show(bs.length+1)*1≤1000000 by omega) (by decide))
 have hb1:bits 1 1=[true]:=by rfl
 have hb0:bits 1 0=[false]:=by rfl
 have l0:decide (0<tl.length+1+1+1)=true:=acp (by omega)
 have l1:decide (1<tl.length+1+1+1)=true:=acp (by omega)
 have l2:decide (2<tl.length+1+1+1)=true:=acp (by omega)
 have l3':decide (tl.length+1+1+1<3)=false:=acs (by omega)
 have l3:decide (3≤tl.length+1+1+1)=true:=acp (by omega)
 cases f with
 |true=>
  have gb:=fun H=>gH 1 H 2 bs.length bs.length [[.int .u8 1]] (yW bs) uW
  have ha:yW bs++[[SV.int .u8 1]]=yW (bs++[true]):=uh bs true
  simp only[W1,go_sem,Int.reduceToNat,Nat.reduceAdd,Nat.reduceBEq,Nat.reduceLeDiff,Nat.reduceLT,Nat.reduceMul,Nat.reduceSub,Int.reduceEq,Int.reduceLT,Int.reduceLE,Int.reduceNeg,h63,gb,hr,ha,bt,hb1,hl1,aek,aej,rH,rB,rA,l0,l1,l2,l3,l3',acI,acP,acO,adb,acW,ite_self,if_true,aco]
 |false=>
  have gb:=fun H=>gH 1 H 2 bs.length bs.length [[.int .u8 0]] (yW bs) uW
  have ha:yW bs++[[SV.int .u8 0]]=yW (bs++[false]):=uh bs false
  simp only[W1,go_sem,Int.reduceToNat,Nat.reduceAdd,Nat.reduceBEq,Nat.reduceLeDiff,Nat.reduceLT,Nat.reduceMul,Nat.reduceSub,Int.reduceEq,Int.reduceLT,Int.reduceLE,Int.reduceNeg,h63,gb,hr,ha,bt,hb0,hl1,aek,aej,rH,rB,rA,l0,l1,l2,l3,l3',acI,acP,acO,adb,acW,ite_self,if_true,aco]
theorem s93(n:Nat)(x:Int)(h0: -32768≤x)(h1:x≤32767)(hb:bs.length+16≤524288):aa T (n+2) (.fn 93) [.ptr 1 0 0 0,af5 16,af5 x] (rH b0 bs tl es)=some (.bc [],rH b0 (bs++bits 16 (xj x)) tl (es++rk 16)):=by
 refine bm e93 (by rfl) ?_
 have h63:∀es,aa T (n+1) (.fn 143) [.ptr 1 0 0 0,af5 16] (rH b0 bs tl es)=some (.bool true,rH b0 bs tl es):=fun es=>Ht b0 tl es bs n 16 hb
 have h64:∀es,aa T (n+1) (.fn 144) [.ptr 1 0 0 0,af5 16,af5 x] (rH b0 bs tl es)=some (.bc [],rH b0 (bs++bits 16 (xj x)) tl (es++rk 16)):=fun es=>Hl b0 tl es bs n 16 (xj x) x (by omega) (AU x) (by omega)
 have m2:bb (16-1)=15:=by decide
 have m3:bb (1*2 ^ min 15 64)=32768:=by decide
 have m4:bb (-32768)= -32768:=by decide
 have m5:bb (32768-1)=32767:=by decide
 have m6:bb (0-32768)= -32768:=by decide
 have x1:decide (x< -32768)=false:=acs (by omega)
 have x2:decide (32767<x)=false:=acs (by omega)
 have l0:decide (0<tl.length+1+1+1)=true:=acp (by omega)
 have l1:decide (1<tl.length+1+1+1)=true:=acp (by omega)
 have l2:decide (2<tl.length+1+1+1)=true:=acp (by omega)
 have l3':decide (tl.length+1+1+1<3)=false:=acs (by omega)
 have l3:decide (3≤tl.length+1+1+1)=true:=acp (by omega)
 simp only[YF,go_sem,Int.reduceToNat,Nat.reduceAdd,Nat.reduceBEq,Nat.reduceLeDiff,Nat.reduceLT,Nat.reduceMul,Nat.reduceSub,Int.reduceEq,Int.reduceLT,Int.reduceLE,Int.reduceNeg,h63,h64,m2,m3,m4,m5,m6,x1,x2,l0,l1,l2,l3,l3',acI,acP,acO,adb,acW,ite_self,if_true,aco]
end
theorem Xc(n:Nat)(H:ab):aa T (n+1) (.fn 145) [af5 127] H=some (af5 7,H):=fG Uc (by rfl) (im (T:=T) 100 (n+1) (.fn 145) [af5 127] ah (af5 7,ah) (by kernel_rfl))
end ft
end
section
namespace ft
section
variable(b0:aC)(tl:List aC)(es:List (Nat×Nat))(bs:List Bool)
theorem Ea(a b:Nat):rk a++rk b=rk (a+b):=List.replicate_append_replicate
theorem RF(n:Nat)(x:ByteArray)(hx:x.size≤127)(hb:bs.length≤1000) :
 aa T (n+2) (.fn 94) [.ptr 1 0 0 0,af5 127,.str x] (rH b0 bs tl es)=some (.bc [],rH b0 (bs++bits 7 x.size++iK x x.size) tl (es++rk (7+8*x.size))):=by
 refine bm e94 (by rfl) ?_
 have h65:=fun H=>Xc n H
 have h63:∀es,aa T (n+1) (.fn 143) [.ptr 1 0 0 0,af5 (7+8*(x.size:Int))] (rH b0 bs tl es)=some (.bool true,rH b0 bs tl es):=fun es=>by
  have:=Ht b0 tl es bs n (7+8*x.size) (by omega)
  rw[show(((7+8*x.size:Nat)):Int)=7+8*(x.size:Int) by omega]at this
  exact this
 have x1:decide ((127:Int)<(x.size:Int))=false:=acs (by omega)
 have w2:bb (8*(x.size:Int))=8*(x.size:Int):=al (by omega) (by omega)
 have w3:bb (7+8*(x.size:Int))=7+8*(x.size:Int):=al (by omega) (by omega)
 have h64:∀es,aa T (n+1) (.fn 144) [.ptr 1 0 0 0,af5 7,af5 x.size] (rH b0 bs tl es)=some (.bc [],rH b0 (bs++bits 7 x.size) tl (es++rk 7)):=fun es=>Hl b0 tl es bs n 7 x.size x.size (by omega) (ni 7 _ (by omega)) (by omega)
 have l0:decide (0<tl.length+1+1+1)=true:=acp (by omega)
 have l1:decide (1<tl.length+1+1+1)=true:=acp (by omega)
 have l2:decide (2<tl.length+1+1+1)=true:=acp (by omega)
 have l3':decide (tl.length+1+1+1<3)=false:=acs (by omega)
 have l3:decide (3≤tl.length+1+1+1)=true:=acp (by omega)
 have hN:decide (max 2 0≤tl.length+1+1+1)=true:=acp (by omega)
 simp only[Zj,go_sem,simprocAttr,h65,h63,x1,w2,w3,h64,l0,l1,l2,l3,l3',acI,acP,ite_self,if_true]
 have hP:(bs++bits 7 x.size).length=bs.length+7:=by rw[acn,aq]
 obtain⟨P,hPd⟩:∃P,bs++bits 7 x.size=P:=⟨_,rfl⟩
 rw[hPd]at hP⊢
 rw[←Ea,←aco]
 have hx2:x.size≤maxLen:=ac7 hx (by decide)
 refine ba (fun i=>([(0,.ptr 1 0 0 0),(2,.str x),(6,af5 i)],⟨b0::rB (P++iK x i)::rA (P++iK x i)::tl,rk (8*i),0⟩)) (fun _=>True) x.size ?_ trivial ?_
 ·simp only[go_sem,simprocAttr,hN,l0,l1,l2,l3,l3',iK,adn,Nat.mul_zero,aej]
  try rfl
 ·intro i hi _
  rcases acz i x.size with hlt|hge
  ·have hs:=bE hlt hx2
   have hd:x.data[i]?=some x.data[i]:=adD (by exact hlt)
   have hv:=afR x.data[i]
   have hu8:bb ((x.data[i].toNat:Nat):Int)=(x.data[i].toNat:Nat):=al (by omega) (by omega)
   have h1:∀es,aa T (n+1) (.fn 144) [.ptr 1 0 0 0,af5 8,af5 (x.data[i].toNat:Nat)] (rH b0 (P++iK x i) tl es)=some (.bc [],rH b0 (P++iK x i++bits 8 x.data[i].toNat) tl (es++rk 8)):=
    fun es=>Hl b0 tl es (P++iK x i) n 8 x.data[i].toNat x.data[i].toNat (by omega) (ni 8 _ (by omega)) (by rw[acn,gW];omega)
   have hB:P++iK x i++bits 8 x.data[i].toNat=P++iK x (i+1):=by simp only[iK,hd,ad3,aco]
   have hE:rk (8*i)++rk 8=rk (8*(i+1)):=by rw[Ea];rfl
   rw[hB]at h1
   have h1:=h1 (rk (8*i))
   rw[hE]at h1
   simp only[go_sem,simprocAttr,hlt,hd,hu8,h1,hs,hN,l0,l1,l2,l3,l3',acI,acP,ite_self,if_true]
   refine⟨by first|trivial|omega,by first|trivial|rfl,trivial⟩
  ·obtain rfl:i=x.size:=by omega
   have hd:decide (x.size<x.size)=false:=acs (by omega)
   simp only[go_sem,simprocAttr,hd,hN,l0,l1,l2,l3,l3',acI,acP,acO,adb,ite_self,if_true,acW,aco]
end
def JZ(a b:Int):Int:=IntKind.u8.wrap ((BitVec.ofInt 8 a|||BitVec.ofInt 8 b).toNat)
@[go_sem high] theorem T3 (a b:Int):cW .or (.int .u8 a) (.int .u8 b)=some (.int .u8 (JZ a b)):=by
  simp only[cW,adL,acG];rfl
theorem Jz(B:List Bool)(b:Bool):JZ (dC B (B.length/8):Nat) (IntKind.u8.wrap ((bt b:Nat)*2 ^ min (7-B.length%8) 8))=(dC (B++[b]) (B.length/8):Nat):=by
 have hb:=xn b
 have h1:=yP b (B.length%8) (afo _ (by decide))
 have h2:2 ^ (8-B.length%8)≤2 ^ 8:=aeR (by decide) (by omega)
 have h3:bt b*2 ^ (7-B.length%8)<256:=by omega
 have h4:=nM B (B.length/8)
 have h5:=nM (B++[b]) (B.length/8)
 have h6:((bt b:Nat):Int)*2 ^ (7-B.length%8)=((bt b*2 ^ (7-B.length%8):Nat):Int):=by rw[af2,afl];rfl
 unfold JZ
 rw[adM (by omega),h6,mG (n:=((bt b*2 ^ (7-B.length%8):Nat):Int)) (by omega) (by omega),BitVec.toNat_or,iH _ h4,iH _ h3,wq]
 exact mG (by omega) (by omega)
def Fu(bs:List Bool)(i:Nat):List (List SV):=(List.range (nb bs.length)).map fun j=>[.int .u8 (dC (bs.take i) j:Nat)]
theorem E9(bs:List Bool):Fu bs 0=List.replicate (nb bs.length) [.int .u8 0]:=by
 apply aen
 intro j
 simp only[Fu,aeV,ad2,adX]
 by_cases h:j<nb bs.length
 ·rw[aeu h,if_pos h];rfl
 ·rw[adS (by simp;omega),if_neg h];rfl
theorem C6(bs:List Bool):Fu bs bs.length=sm bs:=by simp[Fu,sm]
theorem FH{bs:List Bool}{i:Nat}(h:i<bs.length):(Fu bs i)[i/8]?=some [.int .u8 (dC (bs.take i) (i/8):Nat)]:=by
 simp only[Fu,ad2]
 rw[aeu (by unfold nb;omega)];rfl
theorem F8{bs:List Bool}{i:Nat}{b:Bool}(h:bs[i]?=some b):(Fu bs i).set (i/8) [.int .u8 (dC (bs.take i++[b]) (i/8):Nat)]=Fu bs (i+1):=by
 have hlt:i<bs.length:=(acm.1 h).1
 have hl:(bs.take i).length=i:=by rw[adA];omega
 have ht:bs.take (i+1)=bs.take i++[b]:=by rw[adP,h];rfl
 apply aen
 intro j
 rw[ae6]
 simp only[Fu,ad2,afh,afr]
 by_cases hj:i/8=j
 ·subst hj
  rw[if_pos rfl,if_pos (by unfold nb;omega),aeu (by unfold nb;omega),ht];rfl
 ·rw[if_neg hj]
  by_cases h2:j<nb bs.length
  ·rw[aeu h2,ht]
   simp only[adm]
   rw[rQ (by rw[hl];exact fun h=>hj h.symm)]
  ·rw[adS (by simp;omega)];rfl
end ft
end
namespace ft
theorem Z3(H:ab)(m:Nat)(h:m≤100000):kK 1 [.int .u8 0] 1 H (af5 m) (af5 m)=some (.bn H.bl.length 0 0 m,bJ H (.arr 0 1 (List.replicate m [.int .u8 0]) true)):=by
 have h1:decide ((0:Int)≤(m:Int))=true:=acp (by omega)
 have h2:decide ((m:Int)≤(m:Int))=true:=acp (by omega)
 have h3:decide ((m:Int)*((1:Nat):Int)≤(bV:Int))=true:=acp (by have:(bV:Int)=1099511627776:=rfl;omega)
 simp only[kK,h1,h2,h3,acW,acG,adl]
theorem Ox(n:Nat)(b0:aC)(es:List (Nat×Nat))(bs:List Bool)(hb:bs.length≤600000):aa T (n+1) (.fn 95) [.ptr 1 0 0 0] (rH b0 bs [] es)=some (.bc [.str (og bs),af6],rH b0 bs [] es):=by
 refine bm e95 (by rfl) ?_
 have w1:bb ((bs.length:Int)+7)=((bs.length+7:Nat):Int):=by rw[al (by omega) (by omega)];omega
 have w2:bb (((bs.length+7)/8:Nat):Int)=((nb bs.length:Nat):Int):=by rw[al (by omega) (by omega)];rfl
 have hL:bs.length≤maxLen:=ac7 hb (by decide)
 simp only[YL,go_sem,simprocAttr,w1,w2,Z3 _ _ (show nb bs.length≤100000 by unfold nb;omega),acR,acV,←E9]
 refine ba (fun i=>([(0,.ptr 1 0 0 0),(4,.bn 3 0 0 (nb bs.length)),(5,af5 i)],⟨[b0,rB bs,rA bs,.arr 0 1 (Fu bs i) true],[],0⟩)) (fun _=>True) bs.length ?_ trivial ?_
 ·simp only[go_sem,simprocAttr]
  try rfl
 ·intro i hi _
  rcases acz i bs.length with hlt|hge
  ·obtain⟨b,hbi⟩:=bO hlt
   have hs:=bE hlt hL
   have hw8:bb ((i/8:Nat):Int)=((i/8:Nat):Int):=al (by omega) (by omega)
   have hw7:bb (7-((i%8:Nat):Int))=((7-i%8:Nat):Int):=by rw[al (by omega) (by omega)];omega
   have hlt1:decide (i/8<nb bs.length)=true:=acp (by unfold nb;omega)
   have hg:=FH hlt
   have hl:(bs.take i).length=i:=by rw[adA];omega
   have hE:=Jz (bs.take i) b
   rw[hl]at hE
   have ca:=F8 hbi
   simp only[go_sem,simprocAttr,hlt,hbi,hw8,hw7,hlt1,hg,hE,ca,hs,adl]
   refine⟨by first|trivial|omega,by first|trivial|rfl,trivial⟩
  ·obtain rfl:i=bs.length:=by omega
   have hd:decide (bs.length<bs.length)=false:=acs (by omega)
   have ht:List.take (nb bs.length) (sm bs)=sm bs:=ac1 (by rw[eT];exact acH _)
   have hl:decide (nb bs.length≤(sm bs).length)=true:=acp (by rw[eT];exact acH _)
   have hl2:decide (nb bs.length≤nb bs.length)=true:=acp (acH _)
   simp only[go_sem,simprocAttr,hd,C6,ht,hl,hl2,toB_pkS,og]
end ft
namespace ft
theorem Pr{C:ji}(h:32768≤C.toNat):tm C=(C <<< 1) ^^^ wN:=by
 unfold tm
 rw[show C.msb=true by rw[BitVec.msb_eq_decide];exact acp h];rfl
theorem M4{C:ji}(h:¬32768≤C.toNat):tm C=C <<< 1:=by
 apply rn
 rw[BitVec.msb_eq_decide];exact acs h
theorem T0(n:Nat)(H:ab)(C:ji):aa T (n+1) (.fn 212) [.int .u16 (C.toNat:Nat)] H=some (.int .u16 ((tm C).toNat:Nat),H):=by
 refine ae UB (by rfl) ?_
 have s1:=I3 C 1 (by omega)
 have hp:=Iw (C <<< 1) wN
 have hp:GK ((C <<< 1).toNat:Nat) 4129=((C <<< 1 ^^^ wN).toNat:Nat):=hp
 by_cases h:32768≤C.toNat
 ·have hd:decide ((32768:Int)≤(C.toNat:Int))=true:=acp (by omega)
  rw[Pr h]
  simp only[JN,ah,go_sem,simprocAttr,hd,s1,hp]
 ·have hd:decide ((32768:Int)≤(C.toNat:Int))=false:=acs (by omega)
  rw[M4 h]
  simp only[JN,ah,go_sem,simprocAttr,hd,s1,hp]
def RC(C:ji):Nat→ji
 |0=>C
 |j+1=>tm (RC C j)
theorem SM(n:Nat)(H:ab)(s:ByteArray)(hs:s.size≤1000):aa T (n+2) (.fn 187) [.int .u16 0,.str s] H=some (.int .u16 ((zP 0#16 s s.size).toNat:Nat),H):=by
 refine ae Ty (by rfl) ?_
 simp only[Nq,ah,go_sem,simprocAttr]
 have hL:s.size≤maxLen:=ac7 hs (by decide)
 refine ba (fun i=>([(0,.int .u16 ((zP 0#16 s i).toNat:Nat)),(1,.str s),(5,af5 i)],⟨[],[],0⟩)) (fun _=>True) s.size ?_ trivial ?_
 ·simp only[go_sem,simprocAttr]<;>rfl
 ·intro i hi _
  rcases acz i s.size with hlt|hge
  ·have hs2:=bE hlt hL
   have hd:s.data[i]?=some s.data[i]:=adD (by exact hlt)
   have hu:zP 0#16 s (i+1)=G0 (zP 0#16 s i) s.data[i].toNat:=by simp only[zP,hd,ad3]
   have hv:=afR s.data[i]
   obtain⟨C,hC⟩:∃C,zP 0#16 s i=C:=⟨_,rfl⟩
   obtain⟨b,hb⟩:∃b,s.data[i].toNat=b:=⟨_,rfl⟩
   rw[hC,hb]at hu
   rw[hb]at hv
   have e1:IntKind.u16.wrap (b:Int)=((BitVec.ofNat 16 b:ji).toNat:Nat):=by rw[xh,←toW (by omega)];omega
   have s1:=I3 (BitVec.ofNat 16 b) 8 (by omega)
   simp only[go_sem,simprocAttr,hlt,hd,hC,hb,e1,s1,Iw]
   refine tx (fun j=>([(0,.int .u16 ((RC (C ^^^ (BitVec.ofNat 16 b <<< 8)) j).toNat:Nat)),(1,.str s),(5,af5 i),(6,af5 j)],⟨[],[],0⟩)) (fun _=>True) 8 ?_ trivial ?_
   ·simp only[go_sem,simprocAttr]<;>rfl
   ·intro j hj _
    rcases acz j 8 with hlj|hgj
    ·have hxj:decide ((j:Int)<8)=true:=acp (by omega)
     have hsj:bb ((j:Int)+1)=((j+1:Nat):Int):=by rw[al (by omega) (by omega)];omega
     have h98:=fun H=>T0 n H (RC (C ^^^ (BitVec.ofNat 16 b <<< 8)) j)
     simp only[go_sem,simprocAttr,hxj,hsj,h98]
     refine⟨by first|trivial|omega,by first|trivial|rfl,trivial⟩
    ·obtain rfl:j=8:=by omega
     have ht:RC (C ^^^ (BitVec.ofNat 16 b <<< 8)) 8=G0 C b:=rfl
     have hxj:decide (((8:Nat):Int)<8)=false:=by decide
     simp only[go_sem,simprocAttr,hxj,ht,hs2,hu]
     refine⟨by first|trivial|omega,by first|trivial|rfl,trivial⟩
  ·obtain rfl:i=s.size:=by omega
   have hd:decide (s.size<s.size)=false:=acs (by omega)
   simp only[go_sem,simprocAttr,hd]
theorem UW(n:Nat)(H:ab)(s:ByteArray)(hs:s.size≤1000):aa T (n+3) (.fn 146) [.str s] H=some (.int .u16 ((yN s).toNat:Nat),H):=by
 refine ae WE (by rfl) ?_
 simp only[Nc,ah,go_sem,simprocAttr,SM _ _ _ hs,yN]
theorem Nu(n:Nat)(H:ab)(s:ByteArray)(hs:s.size≤1000):aa T (n+4) (.fn 96) [.str s] H=some (.str (pc s),H):=by
 refine ae e96 (by rfl) ?_
 obtain⟨C,hC⟩:∃C,yN s=C:=⟨_,rfl⟩
 have h:∀H,aa T (n+3) (.fn 146) [.str s] H=some (.int .u16 (C.toNat:Nat),H):=fun H=>hC▸UW n H s hs
 have hz:decide (s.size+ #[UInt8.ofNat (C.toNat/256),UInt8.ofNat (C.toNat%256)].size≤4611686018427387904)=true:=acp (show s.size+2≤4611686018427387904 by omega)
 simp only[ZK,ah,go_sem,simprocAttr,h,Hx,Ik,pc,hC,QW,toB_cons,toB_nil,adm,hz]
end ft
namespace ft
theorem Pc(n:Nat)(es:List (Nat×Nat))(b0:aC):aa T (n+1) (.se 90) [] ⟨[b0],es,0⟩=some (.ptr 1 0 0 0,⟨[b0,.box [.ao 0 [] true,af6]],es,0⟩):=by
 refine eJ e90 ?_
 simp only[Yp,go_sem,simprocAttr]
theorem I5(n:Nat)(H:ab)(s d q o c m e t u v:Int)(x:ByteArray)(hch:mn 1 s d q o c m e t u v x=true)(hx:x.size≤127)(hd:0≤d):aa T (n+5) (.fn 51) [.agg (fr 1 s d q o c m e t u v x)] H=some (vB 1 s d q o c m e t u v x,H):=by
 refine ae JL (by rfl) ?_
 have h18:=fun H=>IX (n+2) H 1 s d q o c m e t u v x
 rw[hch]at h18
 obtain⟨hs,hd1,hd0,hq,ho,hk⟩:=pV hch
 obtain⟨hcc,hmm⟩:(0≤c∧c≤255)∧(0≤m∧m≤65535):=by rcases hk with h|h|h|h<;>first|exact h.2|(exfalso;omega)
 have h29:=fun es b0=>Pc (n+3) es b0
 obtain⟨B0,hB0⟩:∃B,B=[]++bits 3 1:=⟨_,rfl⟩
 have lB0:B0.length=3:=by rw[hB0,acn,aq]<;>rfl
 have h0:∀es,aa T (n+4) (.fn 91) [.ptr 1 0 0 0,af5 3,af5 1] (⟨[.box (fr 1 s d q o c m e t u v x),.box [.bn 2 0 0 0,af6],.arr 0 1 [] false],es,0⟩)=some (.bc [],rH (.box (fr 1 s d q o c m e t u v x)) B0 [] (es++rk 3)):=fun es=>by
  have:=oI (.box (fr 1 s d q o c m e t u v x)) [] es [] (n+2) 3 1 (by omega) (by omega) (by omega) (by rw[acV];omega)
  rw[hB0];exact this
 obtain⟨B1,hB1⟩:∃B,B=B0++bits 5 s.toNat:=⟨_,rfl⟩
 have lB1:B1.length=8:=by rw[hB1,acn,aq,lB0]
 have h1:∀es,aa T (n+4) (.fn 91) [.ptr 1 0 0 0,af5 5,af5 s] (rH (.box (fr 1 s d q o c m e t u v x)) B0 [] es)=some (.bc [],rH (.box (fr 1 s d q o c m e t u v x)) B1 [] (es++rk 5)):=fun es=>by
  have:=oI (.box (fr 1 s d q o c m e t u v x)) [] es B0 (n+2) 5 s.toNat (by omega) (by omega) (by omega) (by rw[lB0];omega)
  rw[acL hs.1]at this
  rw[hB1];exact this
 obtain⟨B2,hB2⟩:∃B,B=B1++bits 1 (bt true):=⟨_,rfl⟩
 have lB2:B2.length=9:=by rw[hB2,acn,aq,lB1]
 have h2:∀es,aa T (n+4) (.fn 92) [.ptr 1 0 0 0,.bool true] (rH (.box (fr 1 s d q o c m e t u v x)) B1 [] es)=some (.bc [],rH (.box (fr 1 s d q o c m e t u v x)) B2 [] (es++rk 1)):=fun es=>by
  have:=Ow (.box (fr 1 s d q o c m e t u v x)) [] es B1 (n+2) true (by rw[lB1];omega)
  rw[hB2];exact this
 obtain⟨B3,hB3⟩:∃B,B=B2++bits 5 d.toNat:=⟨_,rfl⟩
 have lB3:B3.length=14:=by rw[hB3,acn,aq,lB2]
 have h3:∀es,aa T (n+4) (.fn 91) [.ptr 1 0 0 0,af5 5,af5 d] (rH (.box (fr 1 s d q o c m e t u v x)) B2 [] es)=some (.bc [],rH (.box (fr 1 s d q o c m e t u v x)) B3 [] (es++rk 5)):=fun es=>by
  have:=oI (.box (fr 1 s d q o c m e t u v x)) [] es B2 (n+2) 5 d.toNat (by omega) (by omega) (by omega) (by rw[lB2];omega)
  rw[acL hd]at this
  rw[hB3];exact this
 obtain⟨B4,hB4⟩:∃B,B=B3++bits 8 q.toNat:=⟨_,rfl⟩
 have lB4:B4.length=22:=by rw[hB4,acn,aq,lB3]
 have h4:∀es,aa T (n+4) (.fn 91) [.ptr 1 0 0 0,af5 8,af5 q] (rH (.box (fr 1 s d q o c m e t u v x)) B3 [] es)=some (.bc [],rH (.box (fr 1 s d q o c m e t u v x)) B4 [] (es++rk 8)):=fun es=>by
  have:=oI (.box (fr 1 s d q o c m e t u v x)) [] es B3 (n+2) 8 q.toNat (by omega) (by omega) (by omega) (by rw[lB3];omega)
  rw[acL hq.1]at this
  rw[hB4];exact this
 obtain⟨B5,hB5⟩:∃B,B=B4++bits 8 o.toNat:=⟨_,rfl⟩
 have lB5:B5.length=30:=by rw[hB5,acn,aq,lB4]
 have h5:∀es,aa T (n+4) (.fn 91) [.ptr 1 0 0 0,af5 8,af5 o] (rH (.box (fr 1 s d q o c m e t u v x)) B4 [] es)=some (.bc [],rH (.box (fr 1 s d q o c m e t u v x)) B5 [] (es++rk 8)):=fun es=>by
  have:=oI (.box (fr 1 s d q o c m e t u v x)) [] es B4 (n+2) 8 o.toNat (by omega) (by omega) (by omega) (by rw[lB4];omega)
  rw[acL ho.1]at this
  rw[hB5];exact this
 obtain⟨B6,hB6⟩:∃B,B=B5++bits 8 c.toNat:=⟨_,rfl⟩
 have lB6:B6.length=38:=by rw[hB6,acn,aq,lB5]
 have h6:∀es,aa T (n+4) (.fn 91) [.ptr 1 0 0 0,af5 8,af5 c] (rH (.box (fr 1 s d q o c m e t u v x)) B5 [] es)=some (.bc [],rH (.box (fr 1 s d q o c m e t u v x)) B6 [] (es++rk 8)):=fun es=>by
  have:=oI (.box (fr 1 s d q o c m e t u v x)) [] es B5 (n+2) 8 c.toNat (by omega) (by omega) (by omega) (by rw[lB5];omega)
  rw[acL hcc.1]at this
  rw[hB6];exact this
 obtain⟨B7,hB7⟩:∃B,B=B6++bits 16 m.toNat:=⟨_,rfl⟩
 have lB7:B7.length=54:=by rw[hB7,acn,aq,lB6]
 have h7:∀es,aa T (n+4) (.fn 91) [.ptr 1 0 0 0,af5 16,af5 m] (rH (.box (fr 1 s d q o c m e t u v x)) B6 [] es)=some (.bc [],rH (.box (fr 1 s d q o c m e t u v x)) B7 [] (es++rk 16)):=fun es=>by
  have:=oI (.box (fr 1 s d q o c m e t u v x)) [] es B6 (n+2) 16 m.toNat (by omega) (by omega) (by omega) (by rw[lB6];omega)
  rw[acL hmm.1]at this
  rw[hB7];exact this
 obtain⟨B8,hB8⟩:∃B,B=B7++bits 7 x.size++iK x x.size:=⟨_,rfl⟩
 have lB8:B8.length=61+8*x.size:=by rw[hB8,acn,acn,aq,lB7,gW]
 have h8:∀es,aa T (n+4) (.fn 94) [.ptr 1 0 0 0,af5 127,.str x] (rH (.box (fr 1 s d q o c m e t u v x)) B7 [] es)=some (.bc [],rH (.box (fr 1 s d q o c m e t u v x)) B8 [] (es++rk (7+8*x.size))):=fun es=>by
  rw[hB8];exact RF (.box (fr 1 s d q o c m e t u v x)) [] es B7 (n+2) x hx (by rw[lB7];omega)
 have hE:dq 1 s d q o c m e t u v x=B8:=by
  have kd1:decide ((1:Int)=1)=true:=rfl
  have kd2:decide ((1:Int)=2)=false:=rfl
  have kd3:decide ((1:Int)=3)=false:=rfl
  have hd2:decide (0≤d)=true:=acp (by omega)
  rw[hB8,hB7,hB6,hB5,hB4,hB3,hB2,hB1,hB0]
  have h3:((1:Int)).toNat=1:=rfl
  simp only[dq,mY,an,kd1,kd2,kd3,hd2,h3,decide_true,aeS,acG,acJ,aco,adu,adn]
 have h34:=fun es=>Ox (n+3) (.box (fr 1 s d q o c m e t u v x)) es B8 (by rw[lB8];omega)
 have hps:(og B8).size≤1000:=by rw[jv,lB8];unfold nb;omega
 obtain⟨P,hP⟩:∃P,og B8=P:=⟨_,rfl⟩
 have h35:=fun H=>Nu n H (og B8) hps
 have hsz:(pc P).size=P.size+2:=ib _
 unfold vB
 rw[hE,hch,acs (show ¬127<x.size by omega)]
 rw[hP]at h34 h35⊢
 have xx:decide ((127:Int)<(x.size:Int))=false:=acs (by omega)
 have xd:decide ((0:Int)≤d)=true:=acp (by omega)
 cases hp:decide (127<P.size+2)with
 |false=>
  have hp2:decide ((127:Int)<((P.size+2:Nat):Int))=false:=by simp only[acx]at hp ⊢;omega
  simp only[AG,ah,go_sem,simprocAttr,h18,h29,h0,h1,h2,h3,h4,h5,h6,h7,h8,h34,h35,xx,xd,hsz,hp,hp2,Nat.reduceMod,Nat.reduceDiv,acR,acV,acI,acP,acO,adb,acW,ite_self,if_true]
 |true=>
  have hp2:decide ((127:Int)<((P.size+2:Nat):Int))=true:=by simp only[acr]at hp ⊢;omega
  simp only[AG,ah,go_sem,simprocAttr,h18,h29,h0,h1,h2,h3,h4,h5,h6,h7,h8,h34,h35,xx,xd,hsz,hp,hp2,Nat.reduceMod,Nat.reduceDiv,acR,acV,acI,acP,acO,adb,acW,ite_self,if_true]
theorem Jw(n:Nat)(H:ab)(s d q o c m e t u v:Int)(x:ByteArray)(hch:mn 2 s d q o c m e t u v x=true)(hx:x.size≤127)(hd:0≤d):aa T (n+5) (.fn 51) [.agg (fr 2 s d q o c m e t u v x)] H=some (vB 2 s d q o c m e t u v x,H):=by
 refine ae JL (by rfl) ?_
 have h18:=fun H=>IX (n+2) H 2 s d q o c m e t u v x
 rw[hch]at h18
 obtain⟨hs,hd1,hd0,hq,ho,hk⟩:=pV hch
 obtain⟨hee,hx0⟩:(-32768≤e∧e≤32767)∧x=⟨#[]⟩:=by rcases hk with h|h|h|h<;>first|exact h.2|(exfalso;omega)
 have h29:=fun es b0=>Pc (n+3) es b0
 obtain⟨B0,hB0⟩:∃B,B=[]++bits 3 2:=⟨_,rfl⟩
 have lB0:B0.length=3:=by rw[hB0,acn,aq]<;>rfl
 have h0:∀es,aa T (n+4) (.fn 91) [.ptr 1 0 0 0,af5 3,af5 2] (⟨[.box (fr 2 s d q o c m e t u v x),.box [.bn 2 0 0 0,af6],.arr 0 1 [] false],es,0⟩)=some (.bc [],rH (.box (fr 2 s d q o c m e t u v x)) B0 [] (es++rk 3)):=fun es=>by
  have:=oI (.box (fr 2 s d q o c m e t u v x)) [] es [] (n+2) 3 2 (by omega) (by omega) (by omega) (by rw[acV];omega)
  rw[hB0];exact this
 obtain⟨B1,hB1⟩:∃B,B=B0++bits 5 s.toNat:=⟨_,rfl⟩
 have lB1:B1.length=8:=by rw[hB1,acn,aq,lB0]
 have h1:∀es,aa T (n+4) (.fn 91) [.ptr 1 0 0 0,af5 5,af5 s] (rH (.box (fr 2 s d q o c m e t u v x)) B0 [] es)=some (.bc [],rH (.box (fr 2 s d q o c m e t u v x)) B1 [] (es++rk 5)):=fun es=>by
  have:=oI (.box (fr 2 s d q o c m e t u v x)) [] es B0 (n+2) 5 s.toNat (by omega) (by omega) (by omega) (by rw[lB0];omega)
  rw[acL hs.1]at this
  rw[hB1];exact this
 obtain⟨B2,hB2⟩:∃B,B=B1++bits 1 (bt true):=⟨_,rfl⟩
 have lB2:B2.length=9:=by rw[hB2,acn,aq,lB1]
 have h2:∀es,aa T (n+4) (.fn 92) [.ptr 1 0 0 0,.bool true] (rH (.box (fr 2 s d q o c m e t u v x)) B1 [] es)=some (.bc [],rH (.box (fr 2 s d q o c m e t u v x)) B2 [] (es++rk 1)):=fun es=>by
  have:=Ow (.box (fr 2 s d q o c m e t u v x)) [] es B1 (n+2) true (by rw[lB1];omega)
  rw[hB2];exact this
 obtain⟨B3,hB3⟩:∃B,B=B2++bits 5 d.toNat:=⟨_,rfl⟩
 have lB3:B3.length=14:=by rw[hB3,acn,aq,lB2]
 have h3:∀es,aa T (n+4) (.fn 91) [.ptr 1 0 0 0,af5 5,af5 d] (rH (.box (fr 2 s d q o c m e t u v x)) B2 [] es)=some (.bc [],rH (.box (fr 2 s d q o c m e t u v x)) B3 [] (es++rk 5)):=fun es=>by
  have:=oI (.box (fr 2 s d q o c m e t u v x)) [] es B2 (n+2) 5 d.toNat (by omega) (by omega) (by omega) (by rw[lB2];omega)
  rw[acL hd]at this
  rw[hB3];exact this
 obtain⟨B4,hB4⟩:∃B,B=B3++bits 8 q.toNat:=⟨_,rfl⟩
 have lB4:B4.length=22:=by rw[hB4,acn,aq,lB3]
 have h4:∀es,aa T (n+4) (.fn 91) [.ptr 1 0 0 0,af5 8,af5 q] (rH (.box (fr 2 s d q o c m e t u v x)) B3 [] es)=some (.bc [],rH (.box (fr 2 s d q o c m e t u v x)) B4 [] (es++rk 8)):=fun es=>by
  have:=oI (.box (fr 2 s d q o c m e t u v x)) [] es B3 (n+2) 8 q.toNat (by omega) (by omega) (by omega) (by rw[lB3];omega)
  rw[acL hq.1]at this
  rw[hB4];exact this
 obtain⟨B5,hB5⟩:∃B,B=B4++bits 8 o.toNat:=⟨_,rfl⟩
 have lB5:B5.length=30:=by rw[hB5,acn,aq,lB4]
 have h5:∀es,aa T (n+4) (.fn 91) [.ptr 1 0 0 0,af5 8,af5 o] (rH (.box (fr 2 s d q o c m e t u v x)) B4 [] es)=some (.bc [],rH (.box (fr 2 s d q o c m e t u v x)) B5 [] (es++rk 8)):=fun es=>by
  have:=oI (.box (fr 2 s d q o c m e t u v x)) [] es B4 (n+2) 8 o.toNat (by omega) (by omega) (by omega) (by rw[lB4];omega)
  rw[acL ho.1]at this
  rw[hB5];exact this
 obtain⟨B6,hB6⟩:∃B,B=B5++bits 16 (xj e):=⟨_,rfl⟩
 have lB6:B6.length=46:=by rw[hB6,acn,aq,lB5]
 have h6:∀es,aa T (n+4) (.fn 93) [.ptr 1 0 0 0,af5 16,af5 e] (rH (.box (fr 2 s d q o c m e t u v x)) B5 [] es)=some (.bc [],rH (.box (fr 2 s d q o c m e t u v x)) B6 [] (es++rk 16)):=fun es=>by
  have:=s93 (.box (fr 2 s d q o c m e t u v x)) [] es B5 (n+2) e hee.1 hee.2 (by rw[lB5];omega)
  rw[hB6];exact this
 have hE:dq 2 s d q o c m e t u v x=B6:=by
  have kd1:decide ((2:Int)=1)=false:=rfl
  have kd2:decide ((2:Int)=2)=true:=rfl
  have kd3:decide ((2:Int)=3)=false:=rfl
  have hd2:decide (0≤d)=true:=acp (by omega)
  rw[hB6,hB5,hB4,hB3,hB2,hB1,hB0]
  have h3:((2:Int)).toNat=2:=rfl
  simp only[dq,mY,an,kd1,kd2,kd3,hd2,h3,decide_true,aeS,acG,acJ,aco,adu,adn]
 have h34:=fun es=>Ox (n+3) (.box (fr 2 s d q o c m e t u v x)) es B6 (by rw[lB6];omega)
 have hps:(og B6).size≤1000:=by rw[jv,lB6];unfold nb;omega
 obtain⟨P,hP⟩:∃P,og B6=P:=⟨_,rfl⟩
 have h35:=fun H=>Nu n H (og B6) hps
 have hsz:(pc P).size=P.size+2:=ib _
 unfold vB
 rw[hE,hch,acs (show ¬127<x.size by omega)]
 rw[hP]at h34 h35⊢
 have xx:decide ((127:Int)<(x.size:Int))=false:=acs (by omega)
 have xd:decide ((0:Int)≤d)=true:=acp (by omega)
 cases hp:decide (127<P.size+2)with
 |false=>
  have hp2:decide ((127:Int)<((P.size+2:Nat):Int))=false:=by simp only[acx]at hp ⊢;omega
  simp only[AG,ah,go_sem,simprocAttr,h18,h29,h0,h1,h2,h3,h4,h5,h6,h34,h35,xx,xd,hsz,hp,hp2,Nat.reduceMod,Nat.reduceDiv,acR,acV,acI,acP,acO,adb,acW,ite_self,if_true]
 |true=>
  have hp2:decide ((127:Int)<((P.size+2:Nat):Int))=true:=by simp only[acr]at hp ⊢;omega
  simp only[AG,ah,go_sem,simprocAttr,h18,h29,h0,h1,h2,h3,h4,h5,h6,h34,h35,xx,xd,hsz,hp,hp2,Nat.reduceMod,Nat.reduceDiv,acR,acV,acI,acP,acO,adb,acW,ite_self,if_true]
theorem JB(n:Nat)(H:ab)(s d q o c m e t u v:Int)(x:ByteArray)(hch:mn 3 s d q o c m e t u v x=true)(hx:x.size≤127)(hd:d= -1):aa T (n+5) (.fn 51) [.agg (fr 3 s d q o c m e t u v x)] H=some (vB 3 s d q o c m e t u v x,H):=by
 refine ae JL (by rfl) ?_
 have h18:=fun H=>IX (n+2) H 3 s d q o c m e t u v x
 rw[hch]at h18
 obtain⟨hs,hd1,hd0,hq,ho,hk⟩:=pV hch
 obtain⟨htt,huu,hvv⟩:(0≤t∧t≤109951162)∧(0≤u∧u≤65535)∧(0≤v∧v≤65535):=by rcases hk with h|h|h|h<;>first|exact h.2|(exfalso;omega)
 have h29:=fun es b0=>Pc (n+3) es b0
 obtain⟨B0,hB0⟩:∃B,B=[]++bits 3 3:=⟨_,rfl⟩
 have lB0:B0.length=3:=by rw[hB0,acn,aq]<;>rfl
 have h0:∀es,aa T (n+4) (.fn 91) [.ptr 1 0 0 0,af5 3,af5 3] (⟨[.box (fr 3 s d q o c m e t u v x),.box [.bn 2 0 0 0,af6],.arr 0 1 [] false],es,0⟩)=some (.bc [],rH (.box (fr 3 s d q o c m e t u v x)) B0 [] (es++rk 3)):=fun es=>by
  have:=oI (.box (fr 3 s d q o c m e t u v x)) [] es [] (n+2) 3 3 (by omega) (by omega) (by omega) (by rw[acV];omega)
  rw[hB0];exact this
 obtain⟨B1,hB1⟩:∃B,B=B0++bits 5 s.toNat:=⟨_,rfl⟩
 have lB1:B1.length=8:=by rw[hB1,acn,aq,lB0]
 have h1:∀es,aa T (n+4) (.fn 91) [.ptr 1 0 0 0,af5 5,af5 s] (rH (.box (fr 3 s d q o c m e t u v x)) B0 [] es)=some (.bc [],rH (.box (fr 3 s d q o c m e t u v x)) B1 [] (es++rk 5)):=fun es=>by
  have:=oI (.box (fr 3 s d q o c m e t u v x)) [] es B0 (n+2) 5 s.toNat (by omega) (by omega) (by omega) (by rw[lB0];omega)
  rw[acL hs.1]at this
  rw[hB1];exact this
 obtain⟨B2,hB2⟩:∃B,B=B1++bits 1 (bt false):=⟨_,rfl⟩
 have lB2:B2.length=9:=by rw[hB2,acn,aq,lB1]
 have h2:∀es,aa T (n+4) (.fn 92) [.ptr 1 0 0 0,.bool false] (rH (.box (fr 3 s d q o c m e t u v x)) B1 [] es)=some (.bc [],rH (.box (fr 3 s d q o c m e t u v x)) B2 [] (es++rk 1)):=fun es=>by
  have:=Ow (.box (fr 3 s d q o c m e t u v x)) [] es B1 (n+2) false (by rw[lB1];omega)
  rw[hB2];exact this
 obtain⟨B3,hB3⟩:∃B,B=B2++bits 8 q.toNat:=⟨_,rfl⟩
 have lB3:B3.length=17:=by rw[hB3,acn,aq,lB2]
 have h3:∀es,aa T (n+4) (.fn 91) [.ptr 1 0 0 0,af5 8,af5 q] (rH (.box (fr 3 s d q o c m e t u v x)) B2 [] es)=some (.bc [],rH (.box (fr 3 s d q o c m e t u v x)) B3 [] (es++rk 8)):=fun es=>by
  have:=oI (.box (fr 3 s d q o c m e t u v x)) [] es B2 (n+2) 8 q.toNat (by omega) (by omega) (by omega) (by rw[lB2];omega)
  rw[acL hq.1]at this
  rw[hB3];exact this
 obtain⟨B4,hB4⟩:∃B,B=B3++bits 8 o.toNat:=⟨_,rfl⟩
 have lB4:B4.length=25:=by rw[hB4,acn,aq,lB3]
 have h4:∀es,aa T (n+4) (.fn 91) [.ptr 1 0 0 0,af5 8,af5 o] (rH (.box (fr 3 s d q o c m e t u v x)) B3 [] es)=some (.bc [],rH (.box (fr 3 s d q o c m e t u v x)) B4 [] (es++rk 8)):=fun es=>by
  have:=oI (.box (fr 3 s d q o c m e t u v x)) [] es B3 (n+2) 8 o.toNat (by omega) (by omega) (by omega) (by rw[lB3];omega)
  rw[acL ho.1]at this
  rw[hB4];exact this
 obtain⟨B5,hB5⟩:∃B,B=B4++bits 27 t.toNat:=⟨_,rfl⟩
 have lB5:B5.length=52:=by rw[hB5,acn,aq,lB4]
 have h5:∀es,aa T (n+4) (.fn 91) [.ptr 1 0 0 0,af5 27,af5 t] (rH (.box (fr 3 s d q o c m e t u v x)) B4 [] es)=some (.bc [],rH (.box (fr 3 s d q o c m e t u v x)) B5 [] (es++rk 27)):=fun es=>by
  have:=oI (.box (fr 3 s d q o c m e t u v x)) [] es B4 (n+2) 27 t.toNat (by omega) (by omega) (by omega) (by rw[lB4];omega)
  rw[acL htt.1]at this
  rw[hB5];exact this
 obtain⟨B6,hB6⟩:∃B,B=B5++bits 16 u.toNat:=⟨_,rfl⟩
 have lB6:B6.length=68:=by rw[hB6,acn,aq,lB5]
 have h6:∀es,aa T (n+4) (.fn 91) [.ptr 1 0 0 0,af5 16,af5 u] (rH (.box (fr 3 s d q o c m e t u v x)) B5 [] es)=some (.bc [],rH (.box (fr 3 s d q o c m e t u v x)) B6 [] (es++rk 16)):=fun es=>by
  have:=oI (.box (fr 3 s d q o c m e t u v x)) [] es B5 (n+2) 16 u.toNat (by omega) (by omega) (by omega) (by rw[lB5];omega)
  rw[acL huu.1]at this
  rw[hB6];exact this
 obtain⟨B7,hB7⟩:∃B,B=B6++bits 16 v.toNat:=⟨_,rfl⟩
 have lB7:B7.length=84:=by rw[hB7,acn,aq,lB6]
 have h7:∀es,aa T (n+4) (.fn 91) [.ptr 1 0 0 0,af5 16,af5 v] (rH (.box (fr 3 s d q o c m e t u v x)) B6 [] es)=some (.bc [],rH (.box (fr 3 s d q o c m e t u v x)) B7 [] (es++rk 16)):=fun es=>by
  have:=oI (.box (fr 3 s d q o c m e t u v x)) [] es B6 (n+2) 16 v.toNat (by omega) (by omega) (by omega) (by rw[lB6];omega)
  rw[acL hvv.1]at this
  rw[hB7];exact this
 obtain⟨B8,hB8⟩:∃B,B=B7++bits 7 x.size++iK x x.size:=⟨_,rfl⟩
 have lB8:B8.length=91+8*x.size:=by rw[hB8,acn,acn,aq,lB7,gW]
 have h8:∀es,aa T (n+4) (.fn 94) [.ptr 1 0 0 0,af5 127,.str x] (rH (.box (fr 3 s d q o c m e t u v x)) B7 [] es)=some (.bc [],rH (.box (fr 3 s d q o c m e t u v x)) B8 [] (es++rk (7+8*x.size))):=fun es=>by
  rw[hB8];exact RF (.box (fr 3 s d q o c m e t u v x)) [] es B7 (n+2) x hx (by rw[lB7];omega)
 have hE:dq 3 s d q o c m e t u v x=B8:=by
  have kd1:decide ((3:Int)=1)=false:=rfl
  have kd2:decide ((3:Int)=2)=false:=rfl
  have kd3:decide ((3:Int)=3)=true:=rfl
  have hd2:decide (0≤d)=false:=acs (by omega)
  rw[hB8,hB7,hB6,hB5,hB4,hB3,hB2,hB1,hB0]
  have h3:((3:Int)).toNat=3:=rfl
  simp only[dq,mY,an,kd1,kd2,kd3,hd2,h3,decide_true,aeS,acG,acJ,aco,adu,adn]
 have h34:=fun es=>Ox (n+3) (.box (fr 3 s d q o c m e t u v x)) es B8 (by rw[lB8];omega)
 have hps:(og B8).size≤1000:=by rw[jv,lB8];unfold nb;omega
 obtain⟨P,hP⟩:∃P,og B8=P:=⟨_,rfl⟩
 have h35:=fun H=>Nu n H (og B8) hps
 have hsz:(pc P).size=P.size+2:=ib _
 unfold vB
 rw[hE,hch,acs (show ¬127<x.size by omega)]
 rw[hP]at h34 h35⊢
 have xx:decide ((127:Int)<(x.size:Int))=false:=acs (by omega)
 have xd:decide ((0:Int)≤d)=false:=acs (by omega)
 cases hp:decide (127<P.size+2)with
 |false=>
  have hp2:decide ((127:Int)<((P.size+2:Nat):Int))=false:=by simp only[acx]at hp ⊢;omega
  simp only[AG,ah,go_sem,simprocAttr,h18,h29,h0,h1,h2,h3,h4,h5,h6,h7,h8,h34,h35,xx,xd,hsz,hp,hp2,Nat.reduceMod,Nat.reduceDiv,acR,acV,acI,acP,acO,adb,acW,ite_self,if_true]
 |true=>
  have hp2:decide ((127:Int)<((P.size+2:Nat):Int))=true:=by simp only[acr]at hp ⊢;omega
  simp only[AG,ah,go_sem,simprocAttr,h18,h29,h0,h1,h2,h3,h4,h5,h6,h7,h8,h34,h35,xx,xd,hsz,hp,hp2,Nat.reduceMod,Nat.reduceDiv,acR,acV,acI,acP,acO,adb,acW,ite_self,if_true]
theorem JV(n:Nat)(H:ab)(s d q o c m e t u v:Int)(x:ByteArray)(hch:mn 4 s d q o c m e t u v x=true)(hx:x.size≤127)(hd:0≤d):aa T (n+5) (.fn 51) [.agg (fr 4 s d q o c m e t u v x)] H=some (vB 4 s d q o c m e t u v x,H):=by
 refine ae JL (by rfl) ?_
 have h18:=fun H=>IX (n+2) H 4 s d q o c m e t u v x
 rw[hch]at h18
 obtain⟨hs,hd1,hd0,hq,ho,hk⟩:=pV hch
 have h29:=fun es b0=>Pc (n+3) es b0
 obtain⟨B0,hB0⟩:∃B,B=[]++bits 3 4:=⟨_,rfl⟩
 have lB0:B0.length=3:=by rw[hB0,acn,aq]<;>rfl
 have h0:∀es,aa T (n+4) (.fn 91) [.ptr 1 0 0 0,af5 3,af5 4] (⟨[.box (fr 4 s d q o c m e t u v x),.box [.bn 2 0 0 0,af6],.arr 0 1 [] false],es,0⟩)=some (.bc [],rH (.box (fr 4 s d q o c m e t u v x)) B0 [] (es++rk 3)):=fun es=>by
  have:=oI (.box (fr 4 s d q o c m e t u v x)) [] es [] (n+2) 3 4 (by omega) (by omega) (by omega) (by rw[acV];omega)
  rw[hB0];exact this
 obtain⟨B1,hB1⟩:∃B,B=B0++bits 5 s.toNat:=⟨_,rfl⟩
 have lB1:B1.length=8:=by rw[hB1,acn,aq,lB0]
 have h1:∀es,aa T (n+4) (.fn 91) [.ptr 1 0 0 0,af5 5,af5 s] (rH (.box (fr 4 s d q o c m e t u v x)) B0 [] es)=some (.bc [],rH (.box (fr 4 s d q o c m e t u v x)) B1 [] (es++rk 5)):=fun es=>by
  have:=oI (.box (fr 4 s d q o c m e t u v x)) [] es B0 (n+2) 5 s.toNat (by omega) (by omega) (by omega) (by rw[lB0];omega)
  rw[acL hs.1]at this
  rw[hB1];exact this
 obtain⟨B2,hB2⟩:∃B,B=B1++bits 1 (bt true):=⟨_,rfl⟩
 have lB2:B2.length=9:=by rw[hB2,acn,aq,lB1]
 have h2:∀es,aa T (n+4) (.fn 92) [.ptr 1 0 0 0,.bool true] (rH (.box (fr 4 s d q o c m e t u v x)) B1 [] es)=some (.bc [],rH (.box (fr 4 s d q o c m e t u v x)) B2 [] (es++rk 1)):=fun es=>by
  have:=Ow (.box (fr 4 s d q o c m e t u v x)) [] es B1 (n+2) true (by rw[lB1];omega)
  rw[hB2];exact this
 obtain⟨B3,hB3⟩:∃B,B=B2++bits 5 d.toNat:=⟨_,rfl⟩
 have lB3:B3.length=14:=by rw[hB3,acn,aq,lB2]
 have h3:∀es,aa T (n+4) (.fn 91) [.ptr 1 0 0 0,af5 5,af5 d] (rH (.box (fr 4 s d q o c m e t u v x)) B2 [] es)=some (.bc [],rH (.box (fr 4 s d q o c m e t u v x)) B3 [] (es++rk 5)):=fun es=>by
  have:=oI (.box (fr 4 s d q o c m e t u v x)) [] es B2 (n+2) 5 d.toNat (by omega) (by omega) (by omega) (by rw[lB2];omega)
  rw[acL hd]at this
  rw[hB3];exact this
 obtain⟨B4,hB4⟩:∃B,B=B3++bits 8 q.toNat:=⟨_,rfl⟩
 have lB4:B4.length=22:=by rw[hB4,acn,aq,lB3]
 have h4:∀es,aa T (n+4) (.fn 91) [.ptr 1 0 0 0,af5 8,af5 q] (rH (.box (fr 4 s d q o c m e t u v x)) B3 [] es)=some (.bc [],rH (.box (fr 4 s d q o c m e t u v x)) B4 [] (es++rk 8)):=fun es=>by
  have:=oI (.box (fr 4 s d q o c m e t u v x)) [] es B3 (n+2) 8 q.toNat (by omega) (by omega) (by omega) (by rw[lB3];omega)
  rw[acL hq.1]at this
  rw[hB4];exact this
 obtain⟨B5,hB5⟩:∃B,B=B4++bits 8 o.toNat:=⟨_,rfl⟩
 have lB5:B5.length=30:=by rw[hB5,acn,aq,lB4]
 have h5:∀es,aa T (n+4) (.fn 91) [.ptr 1 0 0 0,af5 8,af5 o] (rH (.box (fr 4 s d q o c m e t u v x)) B4 [] es)=some (.bc [],rH (.box (fr 4 s d q o c m e t u v x)) B5 [] (es++rk 8)):=fun es=>by
  have:=oI (.box (fr 4 s d q o c m e t u v x)) [] es B4 (n+2) 8 o.toNat (by omega) (by omega) (by omega) (by rw[lB4];omega)
  rw[acL ho.1]at this
  rw[hB5];exact this
 obtain⟨B6,hB6⟩:∃B,B=B5++bits 7 x.size++iK x x.size:=⟨_,rfl⟩
 have lB6:B6.length=37+8*x.size:=by rw[hB6,acn,acn,aq,lB5,gW]
 have h6:∀es,aa T (n+4) (.fn 94) [.ptr 1 0 0 0,af5 127,.str x] (rH (.box (fr 4 s d q o c m e t u v x)) B5 [] es)=some (.bc [],rH (.box (fr 4 s d q o c m e t u v x)) B6 [] (es++rk (7+8*x.size))):=fun es=>by
  rw[hB6];exact RF (.box (fr 4 s d q o c m e t u v x)) [] es B5 (n+2) x hx (by rw[lB5];omega)
 have hE:dq 4 s d q o c m e t u v x=B6:=by
  have kd1:decide ((4:Int)=1)=false:=rfl
  have kd2:decide ((4:Int)=2)=false:=rfl
  have kd3:decide ((4:Int)=3)=false:=rfl
  have hd2:decide (0≤d)=true:=acp (by omega)
  rw[hB6,hB5,hB4,hB3,hB2,hB1,hB0]
  have h3:((4:Int)).toNat=4:=rfl
  simp only[dq,mY,an,kd1,kd2,kd3,hd2,h3,decide_true,aeS,acG,acJ,aco,adu,adn]
 have h34:=fun es=>Ox (n+3) (.box (fr 4 s d q o c m e t u v x)) es B6 (by rw[lB6];omega)
 have hps:(og B6).size≤1000:=by rw[jv,lB6];unfold nb;omega
 obtain⟨P,hP⟩:∃P,og B6=P:=⟨_,rfl⟩
 have h35:=fun H=>Nu n H (og B6) hps
 have hsz:(pc P).size=P.size+2:=ib _
 unfold vB
 rw[hE,hch,acs (show ¬127<x.size by omega)]
 rw[hP]at h34 h35⊢
 have xx:decide ((127:Int)<(x.size:Int))=false:=acs (by omega)
 have xd:decide ((0:Int)≤d)=true:=acp (by omega)
 cases hp:decide (127<P.size+2)with
 |false=>
  have hp2:decide ((127:Int)<((P.size+2:Nat):Int))=false:=by simp only[acx]at hp ⊢;omega
  simp only[AG,ah,go_sem,simprocAttr,h18,h29,h0,h1,h2,h3,h4,h5,h6,h34,h35,xx,xd,hsz,hp,hp2,Nat.reduceMod,Nat.reduceDiv,acR,acV,acI,acP,acO,adb,acW,ite_self,if_true]
 |true=>
  have hp2:decide ((127:Int)<((P.size+2:Nat):Int))=true:=by simp only[acr]at hp ⊢;omega
  simp only[AG,ah,go_sem,simprocAttr,h18,h29,h0,h1,h2,h3,h4,h5,h6,h34,h35,xx,xd,hsz,hp,hp2,Nat.reduceMod,Nat.reduceDiv,acR,acV,acI,acP,acO,adb,acW,ite_self,if_true]
theorem IY(n:Nat)(H:ab)(s d q o c m e t u v:Int)(x:ByteArray)(hch:mn 4 s d q o c m e t u v x=true)(hx:x.size≤127)(hd:d= -1):aa T (n+5) (.fn 51) [.agg (fr 4 s d q o c m e t u v x)] H=some (vB 4 s d q o c m e t u v x,H):=by
 refine ae JL (by rfl) ?_
 have h18:=fun H=>IX (n+2) H 4 s d q o c m e t u v x
 rw[hch]at h18
 obtain⟨hs,hd1,hd0,hq,ho,hk⟩:=pV hch
 have h29:=fun es b0=>Pc (n+3) es b0
 obtain⟨B0,hB0⟩:∃B,B=[]++bits 3 4:=⟨_,rfl⟩
 have lB0:B0.length=3:=by rw[hB0,acn,aq]<;>rfl
 have h0:∀es,aa T (n+4) (.fn 91) [.ptr 1 0 0 0,af5 3,af5 4] (⟨[.box (fr 4 s d q o c m e t u v x),.box [.bn 2 0 0 0,af6],.arr 0 1 [] false],es,0⟩)=some (.bc [],rH (.box (fr 4 s d q o c m e t u v x)) B0 [] (es++rk 3)):=fun es=>by
  have:=oI (.box (fr 4 s d q o c m e t u v x)) [] es [] (n+2) 3 4 (by omega) (by omega) (by omega) (by rw[acV];omega)
  rw[hB0];exact this
 obtain⟨B1,hB1⟩:∃B,B=B0++bits 5 s.toNat:=⟨_,rfl⟩
 have lB1:B1.length=8:=by rw[hB1,acn,aq,lB0]
 have h1:∀es,aa T (n+4) (.fn 91) [.ptr 1 0 0 0,af5 5,af5 s] (rH (.box (fr 4 s d q o c m e t u v x)) B0 [] es)=some (.bc [],rH (.box (fr 4 s d q o c m e t u v x)) B1 [] (es++rk 5)):=fun es=>by
  have:=oI (.box (fr 4 s d q o c m e t u v x)) [] es B0 (n+2) 5 s.toNat (by omega) (by omega) (by omega) (by rw[lB0];omega)
  rw[acL hs.1]at this
  rw[hB1];exact this
 obtain⟨B2,hB2⟩:∃B,B=B1++bits 1 (bt false):=⟨_,rfl⟩
 have lB2:B2.length=9:=by rw[hB2,acn,aq,lB1]
 have h2:∀es,aa T (n+4) (.fn 92) [.ptr 1 0 0 0,.bool false] (rH (.box (fr 4 s d q o c m e t u v x)) B1 [] es)=some (.bc [],rH (.box (fr 4 s d q o c m e t u v x)) B2 [] (es++rk 1)):=fun es=>by
  have:=Ow (.box (fr 4 s d q o c m e t u v x)) [] es B1 (n+2) false (by rw[lB1];omega)
  rw[hB2];exact this
 obtain⟨B3,hB3⟩:∃B,B=B2++bits 8 q.toNat:=⟨_,rfl⟩
 have lB3:B3.length=17:=by rw[hB3,acn,aq,lB2]
 have h3:∀es,aa T (n+4) (.fn 91) [.ptr 1 0 0 0,af5 8,af5 q] (rH (.box (fr 4 s d q o c m e t u v x)) B2 [] es)=some (.bc [],rH (.box (fr 4 s d q o c m e t u v x)) B3 [] (es++rk 8)):=fun es=>by
  have:=oI (.box (fr 4 s d q o c m e t u v x)) [] es B2 (n+2) 8 q.toNat (by omega) (by omega) (by omega) (by rw[lB2];omega)
  rw[acL hq.1]at this
  rw[hB3];exact this
 obtain⟨B4,hB4⟩:∃B,B=B3++bits 8 o.toNat:=⟨_,rfl⟩
 have lB4:B4.length=25:=by rw[hB4,acn,aq,lB3]
 have h4:∀es,aa T (n+4) (.fn 91) [.ptr 1 0 0 0,af5 8,af5 o] (rH (.box (fr 4 s d q o c m e t u v x)) B3 [] es)=some (.bc [],rH (.box (fr 4 s d q o c m e t u v x)) B4 [] (es++rk 8)):=fun es=>by
  have:=oI (.box (fr 4 s d q o c m e t u v x)) [] es B3 (n+2) 8 o.toNat (by omega) (by omega) (by omega) (by rw[lB3];omega)
  rw[acL ho.1]at this
  rw[hB4];exact this
 obtain⟨B5,hB5⟩:∃B,B=B4++bits 7 x.size++iK x x.size:=⟨_,rfl⟩
 have lB5:B5.length=32+8*x.size:=by rw[hB5,acn,acn,aq,lB4,gW]
 have h5:∀es,aa T (n+4) (.fn 94) [.ptr 1 0 0 0,af5 127,.str x] (rH (.box (fr 4 s d q o c m e t u v x)) B4 [] es)=some (.bc [],rH (.box (fr 4 s d q o c m e t u v x)) B5 [] (es++rk (7+8*x.size))):=fun es=>by
  rw[hB5];exact RF (.box (fr 4 s d q o c m e t u v x)) [] es B4 (n+2) x hx (by rw[lB4];omega)
 have hE:dq 4 s d q o c m e t u v x=B5:=by
  have kd1:decide ((4:Int)=1)=false:=rfl
  have kd2:decide ((4:Int)=2)=false:=rfl
  have kd3:decide ((4:Int)=3)=false:=rfl
  have hd2:decide (0≤d)=false:=acs (by omega)
  rw[hB5,hB4,hB3,hB2,hB1,hB0]
  have h3:((4:Int)).toNat=4:=rfl
  simp only[dq,mY,an,kd1,kd2,kd3,hd2,h3,decide_true,aeS,acG,acJ,aco,adu,adn]
 have h34:=fun es=>Ox (n+3) (.box (fr 4 s d q o c m e t u v x)) es B5 (by rw[lB5];omega)
 have hps:(og B5).size≤1000:=by rw[jv,lB5];unfold nb;omega
 obtain⟨P,hP⟩:∃P,og B5=P:=⟨_,rfl⟩
 have h35:=fun H=>Nu n H (og B5) hps
 have hsz:(pc P).size=P.size+2:=ib _
 unfold vB
 rw[hE,hch,acs (show ¬127<x.size by omega)]
 rw[hP]at h34 h35⊢
 have xx:decide ((127:Int)<(x.size:Int))=false:=acs (by omega)
 have xd:decide ((0:Int)≤d)=false:=acs (by omega)
 cases hp:decide (127<P.size+2)with
 |false=>
  have hp2:decide ((127:Int)<((P.size+2:Nat):Int))=false:=by simp only[acx]at hp ⊢;omega
  simp only[AG,ah,go_sem,simprocAttr,h18,h29,h0,h1,h2,h3,h4,h5,h34,h35,xx,xd,hsz,hp,hp2,Nat.reduceMod,Nat.reduceDiv,acR,acV,acI,acP,acO,adb,acW,ite_self,if_true]
 |true=>
  have hp2:decide ((127:Int)<((P.size+2:Nat):Int))=true:=by simp only[acr]at hp ⊢;omega
  simp only[AG,ah,go_sem,simprocAttr,h18,h29,h0,h1,h2,h3,h4,h5,h34,h35,xx,xd,hsz,hp,hp2,Nat.reduceMod,Nat.reduceDiv,acR,acV,acI,acP,acO,adb,acW,ite_self,if_true]
end ft
section
namespace ft
section
variable(k s d q o c m e t u v:Int)(x:ByteArray)
theorem s51(n:Nat)(H:ab):aa T (n+5) (.fn 51) [.agg (fr k s d q o c m e t u v x)] H=some (vB k s d q o c m e t u v x,H):=by
 cases hch:mn k s d q o c m e t u v x with
 |false=>
  refine ae JL (by rfl) ?_
  have h18:=fun H=>IX (n+2) H k s d q o c m e t u v x
  unfold vB
  rw[hch]at h18
  rw[hch]
  simp only[AG,ah,go_sem,simprocAttr,h18]
 |true=>
  rcases acz 127 x.size with hx|hx
  ·refine ae JL (by rfl) ?_
   have h18:=fun H=>IX (n+2) H k s d q o c m e t u v x
   unfold vB
   rw[hch]at h18
   rw[hch,acp hx]
   have hd:decide ((127:Int)<(x.size:Int))=true:=acp (by omega)
   simp only[AG,ah,go_sem,simprocAttr,h18,hd]
  ·obtain⟨hs,hd1,hd0,hq,ho,hk⟩:=pV hch
   rcases hk with⟨rfl,_,_⟩|⟨rfl,_,_⟩|⟨rfl,_,_⟩|rfl
   ·have hdd:0≤d:=by rw[HC,acr]at hch;omega
    exact I5 n H s d q o c m e t u v x hch hx hdd
   ·have hdd:0≤d:=by rw[HF,acw,acr,acr]at hch;have:=hch.2;omega
    exact Jw n H s d q o c m e t u v x hch hx hdd
   ·have hdd:d= -1:=by rw[HO,acr]at hch;omega
    exact JB n H s d q o c m e t u v x hch hx hdd
   ·by_cases hdd:0≤d
    ·exact JV n H s d q o c m e t u v x hch hx hdd
    ·exact IY n H s d q o c m e t u v x hch hx (by omega)
end
end ft
end
structure Ac where
 kd:Int
 of:Int
 k:Int
 s:Int
 d:Int
 q:Int
 o:Int
 c:Int
 m:Int
 e:Int
 t:Int
 u:Int
 v:Int
 x:ByteArray
abbrev zT(a:Ac):List SV:=[af5 a.kd,af5 a.of,af5 a.k,af5 a.s,af5 a.d,af5 a.q,af5 a.o,af5 a.c,af5 a.m,af5 a.e,af5 a.t,af5 a.u,af5 a.v,.str a.x]
def ic(L:List Ac):List (List SV):=L.map zT
@[go_sem] theorem nD {L:List Ac}:(ic L).length=L.length:=by simp[ic]
@[go_sem] theorem Rc {L:List Ac}{i:Nat}:(ic L)[i]?=(L[i]?).map zT:=by simp[ic]
structure Fi where
 N:List (Int×Int)
 P:List Int
 W:List G.Wl
 f1:Bool
 f2:Bool
 f3:Bool
 ex:Int
 no:Int
 th:Int
 S:List U.Src
 g1:Bool
 F:List U.Fd
 g2:Bool
 K:List (Int×Int)
 h1:Bool
 v:Int
 a:Int
 b:Int
 C:List Int
 h2:Bool
abbrev tS(f:Fi):List SV:=[.ao 2 (G.dt f.N) f.f1,.ao 1 (G.cY f.P) f.f2,.ao 5 (G.eX f.W) f.f3,af5 f.ex,af5 f.no,af5 f.th,
 .ao 7 (U.dW f.S) f.g1,.ao 6 (U.dP f.F) f.g2,.ao 2 (G.dt f.K) f.h1,af5 f.v,af5 f.a,af5 f.b,.ao 1 (iS f.C) f.h2]
theorem E5(n:Nat):decide ((n:Int)≤40)=decide (n≤40):=by rw[aeg];omega
theorem Qc(n:Nat):decide ((n:Int)≤20)=decide (n≤20):=by rw[aeg];omega
theorem AA(n:Nat):decide ((n:Int)<40)=decide (n<40):=by rw[aeg];omega
theorem Fa(n:Nat):decide (200<(n:Int))=decide (200<n):=by rw[aeg];omega
theorem Bx(n k:Nat):decide ((n:Int)=(k:Int))=decide (n=k):=by rw[aeg];omega
def oT(f:Fi):Bool:=G.GM f.N f.P f.W&&U.ur f.S f.F&&decide (f.K.length≤40)&&decide (f.C.length≤20)
theorem s48(n:Nat)(H:ab)(f:Fi)(hS:f.S.length≤maxLen):aa T (n+3) (.fn 48) [.agg (tS f)] H=some (.bool (oT f),H):=by
 have h1:=fun H=>G.s86 (n+1) H f.N f.P f.W f.f1 f.f2 f.f3 f.ex f.no f.th
 have h2:=fun H=>U.s87 n H f.S f.F f.g1 f.g2 hS
 refine ae e48 (by rfl) ?_
 unfold oT
 cases a1:G.GM f.N f.P f.W<;>cases a2:U.ur f.S f.F<;>cases a3:decide (f.K.length≤40)<;>rw[a1]at h1<;>rw[a2]at h2<;>simp only[YH,ah,go_sem,simprocAttr,h1,h2,E5,Qc,a3,G.aM,ac9,ac3]
def lD(A:List Ac):Bool:=bif (A.take 40).any (fun a=>decide (200<a.x.size))then false else decide (A.length≤40)
theorem Au{A:List Ac}{i:Nat}(hP:∀(j:Nat) a,j<i→A[j]?=some a→decide (200<a.x.size)=false)(h:A.length≤i∨i=40):lD A=decide (A.length≤40):=by
 unfold lD
 have:(A.take 40).any (fun a=>decide (200<a.x.size))=false:=by
  rw[List.any_eq_false]
  intro a ha
  obtain⟨j,hj⟩:=ac4 ha
  rw[acX]at hj
  split at hj
  ·rename_i h40
   have hl:=(acm.1 hj).1
   rw[hP j a (by omega) hj]
   exact Bool.false_ne_true
  ·cases hj
 rw[this]
 rfl
theorem s49(n:Nat)(H:ab)(A:List Ac)(f:Bool)(hA:A.length≤maxLen):aa T (n+1) (.fn 49) [.ao 14 (ic A) f] H=some (.bool (lD A),H):=by
 refine ae e49 (by rfl) ?_
 simp only[ZG,ah,go_sem,simprocAttr]
 refine ba (fun i=>([(0,.ao 14 (ic A) f),(3,af5 i)],⟨[],[],0⟩)) (fun i=>∀(j:Nat) a,j<i→A[j]?=some a→decide (200<a.x.size)=false) 40 ?_ (fun j a h=>by omega) ?_
 ·simp only[go_sem,simprocAttr]<;>rfl
 ·intro i hi hP
  rcases acz i A.length with hlt|hge
  ·rcases acz i 40 with h40|h40
   ·obtain⟨a,ha⟩:∃a,A[i]?=some a:=⟨A[i],acK hlt⟩
    have hw:=bE hlt hA
    cases hd:decide (200<a.x.size)with
    |true=>
     have hx:lD A=false:=by
      unfold lD
      rw[adT.2 ⟨a,acy (i:=i) (by rw[acX,if_pos h40];exact ha),hd⟩]
      rfl
     simp only[go_sem,simprocAttr,hlt,AA,h40,ha,Fa,hd,hx]
    |false=>
     simp only[go_sem,simprocAttr,hlt,AA,h40,ha,Fa,hd,hw]
     refine⟨by first|trivial|omega,by first|trivial|rfl,fun j b hj hb=>?_⟩
     rcases acz j i with h|h
     ·exact hP j b h hb
     ·obtain rfl:j=i:=by omega
      rw[ha]at hb
      cases hb
      exact hd
   ·have hx:lD A=decide (A.length≤40):=Au hP (.inr (by omega))
    have h41:¬i<40:=by omega
    simp only[go_sem,simprocAttr,hlt,AA,E5,h41,hx]
  ·have hx:lD A=decide (A.length≤40):=Au hP (.inl hge)
   have hlt:¬i<A.length:=by omega
   simp only[go_sem,simprocAttr,hlt,AA,E5,hx]
theorem Ru:T 63=some (sW 120):=ZU
theorem Ul:T 120=some (jZ true 2):=VN
theorem s59(n:Nat)(H:ab)(a b:Int):aa T (n+2) (.fn 59) [.agg [af5 a,af5 b]] H=some (.bool (!pN a b),H):=by
 have h:=fun H=>Rt n H a b
 unfold sj at h
 refine ae e59 (by rfl) ?_
 cases hc:pN a b<;>rw[hc]at h<;>simp only[Y8,ah,go_sem,simprocAttr,h]
def toK:List SV→Int×Int
 |[.int _ a,.int _ b]=>(a,b)
 |_=>(0,0)
theorem s63(n:Nat)(H:ab)(K:List (Int×Int))(f:Bool)(hK:K.length≤maxLen):aa T (n+4) (.fn 63) [.ao 2 (G.dt K) f,.fn 59 []] H=some (.bool (K.any fun p=>!pN p.1 p.2),H):=by
 have h:=iC (T:=T) (f:=63) (n:=n+2) (H:=H) (ag:=true) (z:=2) (id:=59) (caps:=[]) (v:=.ao 2 (G.dt K) f) (L:=G.dt K) (p:=fun r=>!pN (toK r).1 (toK r).2) Ru Ul (.ao 2 f (.inl rfl)) G.wP (fun h=>by cases h) (by simpa[G.dt]using hK)
  (fun r hr bl ro _=>by
   simp only[G.dt,adt]at hr
   obtain⟨p,_,rfl⟩:=hr
   exact s59 n ⟨bl,[],ro⟩ p.1 p.2) (by simp[SV.refs.av])
 rw[G.Eb (q:=fun p=>!pN p.1 p.2) (fun a b=>rfl)]at h
 exact h
structure Bd(f:Fi):Prop where
 N:f.N.length≤maxLen
 P:f.P.length≤maxLen
 W:f.W.length≤maxLen
 S:U.BH f.S
 F:f.F.length≤maxLen
 K:f.K.length≤maxLen
 C:f.C.length≤1000
structure Bq(f:Fi):Prop where
 N:f.N.length≤maxLen
 P:f.P.length≤maxLen
 W:f.W.length≤maxLen
 S:U.BH f.S
 F:f.F.length≤maxLen
 K:f.K.length≤maxLen
 C:f.C.length≤maxLen
theorem Bq.d{f:Fi}(h:Bq f)(hC:f.C.length≤1000):Bd f:=⟨h.N,h.P,h.W,h.S,h.F,h.K,hC⟩
theorem Bd.q{f:Fi}(h:Bd f):Bq f:=⟨h.N,h.P,h.W,h.S,h.F,h.K,ac7 h.C (by decide)⟩
def okF(f:Fi):Bool:=G.gh f.N f.P f.W f.ex f.no f.th&&U.pB f.S f.F&&decide (f.K.length=f.N.length)&&!(f.K.any fun p=>!pN p.1 p.2)&&fN.At f.v f.a f.b f.C
def vo(f:Fi):Int:=bif okF f then 0 else 1
theorem Og(n:Nat)(H:ab)(f:Fi)(hb:Bq f):aa T (n+8) (.fn 22) [.agg (tS f)] H=some (af5 (vo f),H):=by
 have h1:=fun H=>G.KD (n+1) H f.N f.P f.W f.f1 f.f2 f.f3 f.ex f.no f.th hb.N hb.P hb.W
 have h2:=fun H=>U.ZM n H f.S f.F f.g1 f.g2 hb.S hb.F
 have h3:=fun H=>s63 (n+3) H f.K f.h1 hb.K
 have h4:=fun H=>fN.YN (n+3) H f.v f.a f.b f.C f.h2 hb.C
 unfold G.qL at h1
 unfold U.ck at h2
 unfold fN.Gv at h4
 unfold vo okF
 refine ae e22 (by rfl) ?_
 generalize (f.K.any fun p=>!pN p.1 p.2)=B at h3⊢
 cases a1:G.gh f.N f.P f.W f.ex f.no f.th with
 |false=>rw[a1]at h1;simp only[Ky,ah,go_sem,simprocAttr,h1,ac3]
 |true=>
  rw[a1]at h1
  cases a2:U.pB f.S f.F with
  |false=>rw[a2]at h2;simp only[Ky,ah,go_sem,simprocAttr,h1,h2,ac3,ac9]
  |true=>
   rw[a2]at h2
   cases a3:decide (f.K.length=f.N.length)with
   |false=>simp only[Ky,ah,go_sem,simprocAttr,h1,h2,Bx,a3,G.aM,ac3,ac9]
   |true=>
    cases B with
    |true=>simp only[Ky,ah,go_sem,simprocAttr,h1,h2,h3,Bx,a3,G.aM,ac3,ac9]
    |false=>
     cases a4:fN.At f.v f.a f.b f.C<;>rw[a4]at h4<;>simp only[Ky,ah,go_sem,simprocAttr,h1,h2,h3,h4,Bx,a3,G.aM,ac3,ac9,adU]
theorem YT(n:Nat)(H:ab)(f:Fi)(hb:Bd f):aa T (n+8) (.fn 22) [.agg (tS f)] H=some (af5 (vo f),H):=Og n H f hb.q
def Gl(f:Fi)(s:Int):Bool:=decide (f.a≤s)&&decide (s<f.b)
theorem ZF(n:Nat)(H:ab)(f:Fi)(s:Int):aa T (n+1) (.fn 65) [.agg (tS f),af5 s] H=some (.bool (Gl f s),H):=by
 unfold Gl
 refine ae e65 (by rfl) ?_
 cases h:decide (f.a≤s)<;>simp only[Zr,ah,go_sem,simprocAttr,h]
def KQ(a:Ac):ByteArray:=
 bif !ft.mn a.k a.s a.d a.q a.o a.c a.m a.e a.t a.u a.v a.x then⟨#[]⟩
 else bif decide (127<a.x.size)||decide (127<(ft.og (ft.dq a.k a.s a.d a.q a.o a.c a.m a.e a.t a.u a.v a.x)).size+2)then⟨#[]⟩
 else ft.pc (ft.og (ft.dq a.k a.s a.d a.q a.o a.c a.m a.e a.t a.u a.v a.x))
def zo(a:Ac):Int:=
 bif !ft.mn a.k a.s a.d a.q a.o a.c a.m a.e a.t a.u a.v a.x then 1
 else bif decide (127<a.x.size)||decide (127<(ft.og (ft.dq a.k a.s a.d a.q a.o a.c a.m a.e a.t a.u a.v a.x)).size+2)then 8
 else 0
theorem ze(a:Ac):ft.vB a.k a.s a.d a.q a.o a.c a.m a.e a.t a.u a.v a.x=.bc [.str (KQ a),af5 (zo a)]:=by
 unfold ft.vB KQ zo
 cases ft.mn a.k a.s a.d a.q a.o a.c a.m a.e a.t a.u a.v a.x with
 |false=>rfl
 |true=>
  simp only[adp,acJ]
  cases(decide (127<a.x.size)||decide (127<(ft.og (ft.dq a.k a.s a.d a.q a.o a.c a.m a.e a.t a.u a.v a.x)).size+2))<;>rfl
def AO(nc:Nat)(i:Int)(a:Ac):Int:=
 bif decide (a.kd=0)then 0 else bif decide (a.kd=1)||decide (a.kd=2)then(bif decide (a.of<0)||decide ((nc:Int)≤a.of)then 2 else bif decide (a.kd=1)&&(!decide (zo a=0)||(decide (a.k=2)||!decide (a.s=i)))then 1 else 0)else 1
theorem wZ(x:Int):(decide (x=0)=true∧decide (x=1)=false∧decide (x=2)=false)∨(decide (x=0)=false∧decide (x=1)=true∧decide (x=2)=false)∨(decide (x=0)=false∧decide (x=1)=false∧decide (x=2)=true)∨
 (decide (x=0)=false∧decide (x=1)=false∧decide (x=2)=false):=by
 simp only[acr,acx];omega
theorem ZX(n:Nat)(H:ab)(f:Fi)(i:Int)(a:Ac):aa T (n+9) (.fn 77) [.agg (tS f),af5 i,.agg (zT a)] H=some (af5 (AO f.C.length i a),H):=by
 have h:=fun H=>ft.Ny n H a.k a.s a.d a.q a.o a.c a.m a.e a.t a.u a.v a.x
 rw[ze]at h
 unfold AO
 refine ae e77 (by rfl) ?_
 rcases wZ a.kd with⟨e0,e1,e2⟩|⟨e0,e1,e2⟩|⟨e0,e1,e2⟩|⟨e0,e1,e2⟩
 ·simp only[Fe,ah,go_sem,simprocAttr,e0,e1,e2]
 ·cases e3:decide (a.of<0)
  ·cases e4:decide ((f.C.length:Int)≤a.of)
   ·cases e5:decide (zo a=0)
    ·simp only[Fe,ah,go_sem,simprocAttr,e0,e1,e2,e3,e4,e5,h,aeA,aer,aeT,ad0,aeM,adU,adp,aeq,adk]
    ·cases e6:decide (a.k=2)
     ·cases e7:decide (a.s=i)<;>simp only[Fe,ah,go_sem,simprocAttr,e0,e1,e2,e3,e4,e5,e6,e7,h,aeA,aer,aeT,ad0,aeM,adU,adp,aeq,adk]
     ·simp only[Fe,ah,go_sem,simprocAttr,e0,e1,e2,e3,e4,e5,e6,h,aeA,aer,aeT,ad0,aeM,adU,adp,aeq,adk]
   ·simp only[Fe,ah,go_sem,simprocAttr,e0,e1,e2,e3,e4,aeA,aer,aeT,ad0,aeM]
  ·simp only[Fe,ah,go_sem,simprocAttr,e0,e1,e2,e3,aeA,aer,aeT,ad0,aeM]
 ·cases e3:decide (a.of<0)
  ·cases e4:decide ((f.C.length:Int)≤a.of)
   ·simp only[Fe,ah,go_sem,simprocAttr,e0,e1,e2,e3,e4,h,aeA,aer,aeT,ad0,aeM,adU,adp,aeq,adk,ac3]
   ·simp only[Fe,ah,go_sem,simprocAttr,e0,e1,e2,e3,e4,aeA,aer,aeT,ad0,aeM]
  ·simp only[Fe,ah,go_sem,simprocAttr,e0,e1,e2,e3,aeA,aer,aeT,ad0,aeM]
 ·simp only[Fe,ah,go_sem,simprocAttr,e0,e1,e2,aeA]
def Fq(nc:Nat):Nat→List Ac→Int
 |_,[]=>0
 |i,a::r=>bif decide (AO nc i a=0)then Fq nc (i+1) r else AO nc i a
def jr(f:Fi)(s:Int)(A:List Ac):Int:=bif okF f then(bif decide (A.length=f.K.length)then(bif Gl f s then Fq f.C.length 0 A else 12)else 11)else 1
theorem Eg{A:Type}{L:List A}{i:Nat}{a:A}(h:L[i]?=some a):L.drop i=a::L.drop (i+1):=by
 obtain⟨h1,h2⟩:=acm.1 h
 rw[ad1 h1,h2]
theorem J9(n:Nat)(H:ab)(f:Fi)(s:Int)(A:List Ac)(fl:Bool)(hb:Bq f)(hA:A.length≤maxLen) :
 aa T (n+10) (.fn 38) [.agg (tS f),af5 s,.ao 14 (ic A) fl] H=some (af5 (jr f s A),H):=by
 have h1:=fun H=>Og (n+1) H f hb
 have h2:=fun H=>ZF (n+8) H f s
 have h3:=fun H i a=>ZX n H f i a
 unfold vo at h1
 refine ae e38 (by rfl) ?_
 unfold jr
 cases a1:okF f with
 |false=>rw[a1]at h1;simp only[MZ,ah,go_sem,simprocAttr,h1]
 |true=>
  rw[a1]at h1
  cases a2:decide (A.length=f.K.length)with
  |false=>simp only[MZ,ah,go_sem,simprocAttr,h1,G.aM,Bx,a2]
  |true=>
   cases a3:Gl f s with
   |false=>rw[a3]at h2;simp only[MZ,ah,go_sem,simprocAttr,h1,h2,G.aM,Bx,a2]
   |true=>
    rw[a3]at h2
    simp only[MZ,ah,go_sem,simprocAttr,h1,h2,G.aM,Bx,a2]
    obtain⟨X,hX⟩:∃X,Fq f.C.length 0 A=X:=⟨_,rfl⟩
    rw[hX]
    refine ba (fun i=>([(3,.ptr 0 0 0 0),(26,.ao 14 (ic A) fl),(27,af5 A.length),(28,af5 i)],⟨[.box (tS f)],[],0⟩)) (fun i=>Fq f.C.length i (A.drop i)=X) A.length ?_ hX ?_
    ·simp only[go_sem,simprocAttr]<;>rfl
    ·intro i hi hP
     rcases acz i A.length with hlt|hge
     ·obtain⟨a,ha⟩:∃a,A[i]?=some a:=⟨A[i],acK hlt⟩
      have hw:=bE hlt hA
      have h3:=fun H=>h3 H i a
      rw[Eg ha,Fq]at hP
      cases hc:decide (AO f.C.length i a=0)with
      |false=>
       rw[hc]at hP
       simp only[go_sem,simprocAttr,hlt,ha,h3,hc,fJ,hP]
       simp only[acJ]at hP
       rw[hP]
      |true=>
       rw[hc]at hP
       simp only[go_sem,simprocAttr,hlt,ha,h3,hc,fJ,hw]
       refine⟨by first|trivial|omega,by first|trivial|rfl,hP⟩
     ·have hlt:¬i<A.length:=by omega
      have hx:X=0:=by rw[←hP,List.drop_eq_nil_of_le hge];rfl
      simp only[go_sem,simprocAttr,hlt,hx]
theorem s38(n:Nat)(H:ab)(f:Fi)(s:Int)(A:List Ac)(fl:Bool)(hb:Bd f)(hA:A.length≤maxLen)(hx:∀a∈A,a.x.size≤10000) :
 aa T (n+10) (.fn 38) [.agg (tS f),af5 s,.ao 14 (ic A) fl] H=some (af5 (jr f s A),H):=J9 n H f s A fl hb.q hA
def N2(f:Fi)(s:Int)(a:Ac):Int:=bif decide (a.kd=0)then -1 else fN.lK f.v f.a f.b f.C s a.of
def kN(f:Fi)(s:Int)(A:List Ac):List Int:=A.map (N2 f s)
theorem A8{f:Fi}{s:Int}{A:List Ac}{i:Nat}{a:Ac}(h:A[i]?=some a):kN f s (A.take (i+1))=kN f s (A.take i)++[N2 f s a]:=by
 unfold kN
 rw[adP,h]
 simp
theorem E2{f:Fi}{s:Int}{A:List Ac}{i:Nat}(h:i≤A.length):(iS (kN f s (A.take i))).length=i:=by
 simp[iS,kN];omega
abbrev nI(f:Fi)(s:Int)(A:List Ac)(fl:Bool)(x y z:SV):List SV:=[.ao 2 (G.dt f.N) f.f1,.ao 1 (G.cY f.P) f.f2,.ao 5 (G.eX f.W) f.f3,af5 f.ex,af5 f.no,af5 f.th,
 .ao 7 (U.dW f.S) f.g1,.ao 6 (U.dP f.F) f.g2,.ao 2 (G.dt f.K) f.h1,af5 f.v,af5 f.a,af5 f.b,.ao 1 (iS f.C) f.h2,af5 s,.ao 14 (ic A) fl,x,y,z]
theorem R9(n b i:Nat)(H:ab)(f:Fi)(s:Int)(A:List Ac)(fl:Bool)(x y z:SV)(a:Ac)(hC:f.C.length≤1000)(hb:H.bl[b]?=some (.box (nI f s A fl x y z)))(ha:A[i]?=some a)(hi:i<A.length) :
 aa T (n+6) (.fn 58) [.ptr b 0 0 0,af5 i] H=some (af5 (fN.lK f.v f.a f.b f.C s a.of),H):=by
 refine de e58 rfl rfl (fun R k bl ro r hbl hk=>?_)
 obtain rfl:bl=H.bl:=by
  rcases hbl with⟨rfl,h0⟩|rfl
  ·simp[SV.refs.av,SV.refs]at h0
  ·rfl
 have h6:=fun H'=>fN.XG n H' f.v f.a f.b f.C f.h2 s a.of hC
 simp only[Zd,aF,aE,aH,aG,az,aw,ax,ay,bj,aP,bg,aQ,aS,aR,aI,aO,aJ,aK,aA,ai,bM,bN,aco,acn,acD,go_sem,simprocAttr,hb,ha,h6,hi]
 have:=hk []
 rw[adn]at this
 exact this
theorem Dh{n:Nat}(h:n≤1000):decide ((n+1)*8≤bV)=true:=by
 rw[acr]
 exact ac7 (show(n+1)*8≤10000 by omega) (by decide)
def Us(f:Fi)(s:Int)(A:List Ac):SV:=bif decide (jr f s A=0)then .ao 1 (iS (kN f s A)) false else .ao 0 [] true
theorem s20(n:Nat)(H:ab)(f:Fi)(s:Int)(A:List Ac)(fl:Bool)(hb:Bd f)(hA:A.length≤1000)(hx:∀a∈A,a.x.size≤10000) :
 aa T (n+11) (.fn 20) [.agg (tS f),af5 s,.ao 14 (ic A) fl] H=some (.bc [Us f s A,af5 (jr f s A)],H):=by
 have hA':A.length≤maxLen:=ac7 hA (by decide)
 have h1:=fun H=>s38 n H f s A fl hb hA' hx
 refine ae ZH (by rfl) ?_
 unfold Us
 cases he:decide (jr f s A=0)with
 |false=>simp only[WX,ah,go_sem,simprocAttr,h1,he]
 |true=>
  have he0:=acQ he
  rw[he0]at h1
  simp only[WX,ah,go_sem,simprocAttr,h1]
  refine ba (fun i=>([(9,.ptr 1 0 0 0),(10,.bn 2 i 0 i),(25,.ao 14 (ic A) fl),(26,af5 A.length),(27,af5 i)],⟨[.box (tS f),.box (nI f s A fl (.ao 0 [] true) (.ao 0 [] true) (.ao 0 [] true)),.arr i 1 (iS (kN f s (A.take i))) false],[],0⟩)) (fun _=>True) A.length ?_ trivial ?_
  ·simp only[go_sem,simprocAttr]<;>rfl
  ·intro i hi _
   rcases acz i A.length with hlt|hge
   ·obtain⟨a,ha⟩:∃a,A[i]?=some a:=⟨A[i],acK hlt⟩
    have hw:=bE hlt hA'
    have hc:=A8 (f:=f) (s:=s) ha
    unfold N2 at hc
    have h5:=fun H hv=>R9 (n+4) 1 i H f s A fl (.ao 0 [] true) (.ao 0 [] true) (.ao 0 [] true) a hb.C hv ha hlt
    have hg:=fun H X=>gH 1 H 2 i i X (iS (kN f s (A.take i))) (E2 (by omega))
    cases hk:decide (a.kd=0)with
    |true=>
     rw[hk]at hc
     simp only[acG]at hc
     simp only[go_sem,simprocAttr,hlt,ha,hk,fJ,hg,Dh (show i≤1000 by omega),zA,←hc,hw]
     exact⟨by first|trivial|omega,by first|trivial|rfl,trivial⟩
    |false=>
     rw[hk]at hc
     simp only[acJ]at hc
     simp only[go_sem,simprocAttr,hlt,ha,hk,fJ,h5,hg,Dh (show i≤1000 by omega),zA,←hc,hw]
     exact⟨by first|trivial|omega,by first|trivial|rfl,trivial⟩
   ·obtain rfl:i=A.length:=by omega
    have hlt:¬A.length<A.length:=by omega
    rw[adF]
    have hfz:=fun H v=>(Still.ints (kN f s A)).fz 0 H 5 v A.length 1 false (by simp[iS,kN])
    simp only[go_sem,simprocAttr,hlt,hfz,he0]
def Gb(f:Fi)(i:Int):Bool:=decide (0≤i)&&decide (i<(f.K.length:Int))
def cT(f:Fi)(i:Int):Int×Int:=f.K.getD i.toNat (0,0)
def Lb(f:Fi)(s x y:Int):Int:=bif okF f then(bif Gb f x&&Gb f y then(bif Gl f s then(bif decide (xl (cT f x).1 (cT f x).2 s=0)&&decide (Fw (cT f y).1 (cT f y).2 s=0)then 0 else 15)else 12)else 7)else 1
def BX(f:Fi)(s x y:Int):Bool:=decide (Lb f s x y=0)&&(decide (BP (cT f y).1 (cT f y).2 s≤nn (cT f x).1 (cT f x).2 s)&&decide (nn (cT f x).1 (cT f x).2 s≤Cg (cT f y).1 (cT f y).2 s))
theorem Cz{f:Fi}{i:Int}(h:Gb f i=false):decide (i<0)=true∨decide (i<0)=false∧decide ((f.K.length:Int)≤i)=true:=by
 simp only[Gb,aec,acx,acr]at *;omega
theorem Al{f:Fi}{i:Int}(h:Gb f i=true):decide (i<0)=false∧decide ((f.K.length:Int)≤i)=false∧∃j:Nat,i=j∧j<f.K.length∧f.K[j]?=some (cT f i):=by
 simp only[Gb,acw,acr]at h
 refine⟨acs (by omega),acs (by omega),?_⟩
 obtain⟨j,rfl⟩:=aed h.1
 have hj:j<f.K.length:=by omega
 exact⟨j,rfl,hj,by rw[cT,adg,adl,acK hj];rfl⟩
theorem Yw(n:Nat)(H:ab)(f:Fi)(s x y:Int)(hb:Bd f):aa T (n+9) (.fn 23) [.agg (tS f),af5 s,af5 x,af5 y] H=some (.bc [.bool (BX f s x y),af5 (Lb f s x y)],H):=by
 have h1:=fun H=>YT n H f hb
 have h2:=fun H=>ZF (n+7) H f s
 unfold vo at h1
 refine ae e23 (by rfl) ?_
 unfold BX Lb
 cases a1:okF f with
 |false=>rw[a1]at h1;simp only[Fs,ah,go_sem,simprocAttr,h1,G.aM,ac3]
 |true=>
  rw[a1]at h1
  cases b1:Gb f x with
  |false=>
   rcases Cz b1 with g1|⟨g1,g2⟩
   ·simp only[Fs,ah,go_sem,simprocAttr,h1,G.aM,g1,ac3]
   ·simp only[Fs,ah,go_sem,simprocAttr,h1,G.aM,g1,g2,ac3]
  |true=>
   obtain⟨g1,g2,i,hi,hil,hig⟩:=Al b1
   cases b2:Gb f y with
   |false=>
    rcases Cz b2 with g3|⟨g3,g4⟩
    ·simp only[Fs,ah,go_sem,simprocAttr,h1,G.aM,g1,g2,g3,ac3,adk]
    ·simp only[Fs,ah,go_sem,simprocAttr,h1,G.aM,g1,g2,g3,g4,ac3,adk]
   |true=>
    obtain⟨g3,g4,j,hj,hjl,hjg⟩:=Al b2
    cases a3:Gl f s with
    |false=>rw[a3]at h2;simp only[Fs,ah,go_sem,simprocAttr,h1,h2,G.aM,g1,g2,g3,g4,acW,ac3]
    |true=>
     rw[a3]at h2
     have h5:=fun H a b=>XO (n+2) H a b s
     have h6:=fun H a b=>TE (n+2) H a b s
     generalize cT f x=p at hig⊢
     generalize cT f y=q at hjg⊢
     subst hi
     subst hj
     cases b5:decide (xl p.1 p.2 s=0)with
     |false=>simp only[Fs,ah,go_sem,simprocAttr,h1,h2,G.aM,g1,g2,g3,g4,hil,hjl,hig,hjg,h5,h6,b5,acW,ac3]
     |true=>
      cases b6:decide (Fw q.1 q.2 s=0)with
      |false=>simp only[Fs,ah,go_sem,simprocAttr,h1,h2,G.aM,g1,g2,g3,g4,hil,hjl,hig,hjg,h5,h6,b5,b6,acW,ac3,adk]
      |true=>
       cases b7:decide (BP q.1 q.2 s≤nn p.1 p.2 s)<;>simp only[Fs,ah,go_sem,simprocAttr,h1,h2,G.aM,g1,g2,g3,g4,hil,hjl,hig,hjg,h5,h6,b5,b6,b7,acW,ac9,ac3]
def Q7(o d t:Int):Int:=bif pN o d then(bif decide (0≤t)&&decide (t≤1099511627776)then 0 else 2)else 1
def Vr(o d t:Int):Int:=bif decide (Q7 o d t=0)then nu o d t else 0
theorem SH(n:Nat)(H:ab)(o d t:Int):aa T (n+3) (.fn 138) [.agg [af5 o,af5 d],af5 t] H=some (.bc [af5 (Vr o d t),af5 (Q7 o d t)],H):=by
 have h60:=fun H=>Rt (n+1) H o d
 have h123:=fun bl es ro=>IG (n+1) bl es ro o d
 have h166:=fun b H hb=>JC n b H t o d hb
 unfold sj at h60
 unfold Vr Q7
 refine ae SE (by rfl) ?_
 cases hc:pN o d with
 |false=>rw[hc]at h60;simp only[Eh,ah,go_sem,simprocAttr,h60]
 |true=>
  rw[hc]at h60
  cases k1:decide (t<0)with
  |true=>
   have k2:decide (0≤t)=false:=by simp only[acr,acx]at *;omega
   simp only[Eh,ah,go_sem,simprocAttr,h60,k1,k2,ac3]
  |false=>
   have k2:decide (0≤t)=true:=by simp only[acr,acx]at *;omega
   cases k3:decide (1099511627776<t)with
   |true=>
    have k4:decide (t≤1099511627776)=false:=by simp only[acr,acx]at *;omega
    simp only[Eh,ah,go_sem,simprocAttr,h60,k1,k2,k3,k4,adk]
   |false=>
    have k4:decide (t≤1099511627776)=true:=by simp only[acr,acx]at *;omega
    simp only[Eh,ah,go_sem,simprocAttr,h60,h123,h166,k1,k2,k3,k4,acW]
def xt(s:Int):Bool:=decide (0≤s)&&decide (s≤109951162)
theorem U4(n:Nat)(H:ab)(s:Int):aa T (n+1) (.fn 137) [af5 s] H=some (.bool (xt s),H):=by
 unfold xt
 refine ae T2 (by rfl) ?_
 cases h:decide (0≤s)<;>simp only[MK,ah,go_sem,simprocAttr,h,ac9,ac3]
def Tq(o d s t:Int):Int:=bif pN o d then(bif xt s&&(decide (0≤t)&&decide (t≤1099511627776))then 0 else 2)else 1
def tn(o d s t:Int):Int:=bif decide (Tq o d s t=0)then bb (nu o d t-(s*10000+2120))else 0
theorem s83(n:Nat)(H:ab)(o d s t:Int):aa T (n+4) (.fn 83) [.agg [af5 o,af5 d],af5 s,af5 t] H=some (.bc [af5 (tn o d s t),af5 (Tq o d s t)],H):=by
 have h60:=fun H=>Rt (n+2) H o d
 have h137:=fun H=>U4 (n+2) H s
 have h138:=fun H=>SH n H o d t
 unfold sj at h60
 unfold Vr Q7 at h138
 unfold tn Tq
 refine ae e83 (by rfl) ?_
 cases hc:pN o d with
 |false=>rw[hc]at h60;simp only[K4,ah,go_sem,simprocAttr,h60]
 |true=>
  rw[hc]at h60 h138
  cases hs:xt s with
  |false=>rw[hs]at h137;simp only[K4,ah,go_sem,simprocAttr,h60,h137,ac3]
  |true=>
   rw[hs]at h137
   have hs2:0≤s∧s≤109951162:=by simpa[xt]using hs
   have hw:bb (bb (s*10000)+2120)=s*10000+2120:=by rw[al (n:=s*10000) (by omega) (by omega)];exact al (by omega) (by omega)
   cases k1:decide (t<0)with
   |true=>
    have k2:decide (0≤t)=false:=by simp only[acr,acx]at *;omega
    simp only[K4,ah,go_sem,simprocAttr,h60,h137,k1,k2,ac3,adk]
   |false=>
    have k2:decide (0≤t)=true:=by simp only[acr,acx]at *;omega
    cases k3:decide (1099511627776<t)with
    |true=>
     have k4:decide (t≤1099511627776)=false:=by simp only[acr,acx]at *;omega
     simp only[K4,ah,go_sem,simprocAttr,h60,h137,k1,k2,k3,k4,adk]
    |false=>
     have k4:decide (t≤1099511627776)=true:=by simp only[acr,acx]at *;omega
     rw[k2,k4]at h138
     simp only[acW,acG,decide_true]at h138
     simp only[K4,ah,go_sem,simprocAttr,h60,h137,h138,k1,k2,k3,k4,acW,hw,decide_true]
def BU(a:Ac):Int:=bif decide (zo a=0)then bb (32*bb ((bif decide (a.k=2)then 20 else((KQ a).size:Int))+6))else 0
abbrev Il(a:Ac):List SV:=[af5 a.k,af5 a.s,af5 a.d,af5 a.q,af5 a.o,af5 a.c,af5 a.m,af5 a.e,af5 a.t,af5 a.u,af5 a.v,.str a.x]
theorem YQ(n:Nat)(H:ab)(a:Ac):aa T (n+9) (.fn 78) [.agg (Il a)] H=some (.bc [af5 (BU a),af5 (zo a)],H):=by
 have h:=fun H=>ft.Ny n H a.k a.s a.d a.q a.o a.c a.m a.e a.t a.u a.v a.x
 rw[ze]at h
 unfold BU
 refine ae e78 (by rfl) ?_
 cases h0:decide (zo a=0)with
 |false=>simp only[W3,ah,go_sem,simprocAttr,h,h0]
 |true=>
  have h1:=acQ h0
  cases hk:decide (a.k=2)<;>simp only[W3,ah,go_sem,simprocAttr,h,h0,h1,hk]
theorem s14(n:Nat)(H:ab)(a:Ac):aa T (n+6) (.fn 14) [.agg (Il a)] H=some (.bc [af5 (BU a),af5 (zo a)],H):=by
 have h:=fun H=>ft.s51 a.k a.s a.d a.q a.o a.c a.m a.e a.t a.u a.v a.x n H
 rw[ze]at h
 unfold BU
 refine ae OP (by rfl) ?_
 cases h0:decide (zo a=0)with
 |false=>simp only[Tu,ah,go_sem,simprocAttr,h,h0]
 |true=>
  have h1:=acQ h0
  cases hk:decide (a.k=2)<;>simp only[Tu,ah,go_sem,simprocAttr,h,h0,h1,hk]
end Go.Sh
