/- Part of the proof of FieldSlotsSaid: texts ShFr, K19c, K19d, K19e, K19f, K19g, K19u, K19h, K19pb, K19pc, K19pd, K19pe, K19pf, K19pg, K19ph, K19pi, K19pj, K19pk, K19pl, K19pme, K19pm, K19pn, K19pr, K19ps, K19pt, K19pu, K19pv, K19pw, K19pxs, K19i, K19j, K19k. -/
import Derived.Test.YtcfgikdpokjhpaaGreatB3
import Derived.Test.YtcfgikdpokjhpaaGreatB5
namespace Go.Sh
set_option linter.unusedSectionVars false
set_option linter.unnecessarySimpa false
set_option linter.unusedSimpArgs false
set_option linter.unusedVariables false
set_option maxRecDepth 100000
set_option maxHeartbeats 4000000
section
section
variable{A:Type}(bl l:List A)(x:A)(k j:Nat)
theorem aF:(bl++l)[bl.length]?=l[0]?:=by rw[abH (aa8 _),ad3]
theorem aB:(bl++l)[bl.length+k]?=l[k]?:=by rw[abH (by omega),adO]
theorem aE:(bl++l).set bl.length x=bl++l.set 0 x:=by rw[adw _ _ (aa8 _),ad3]
theorem aD:(bl++l).set (bl.length+k) x=bl++l.set k x:=by rw[adw _ _ (by omega),adO]
theorem au:(bl++l).take bl.length=bl:=by simp
theorem al:(bl++l).take (bl.length+k)=bl++l.take k:=by rw[List.take_append,abu (by omega)];simp
theorem ao:(bl++l).drop bl.length=l:=by simp
theorem aq:(bl++l).drop (bl.length+k)=l.drop k:=by rw[List.drop_append,acM (by omega)];simp
end
section
variable(a r k j:Nat)
theorem bg:decide (a+j≤a+k)=decide (j≤k):=by rw[adf];omega
theorem aN:decide (a≤a+k)=true:=aaV (by omega)
theorem bb:decide (a+j<a+k)=decide (j<k):=by rw[adf];omega
theorem aQ:decide (a<a+(k+1))=true:=aaV (by omega)
theorem aM:decide (a+k<a)=false:=aaZ (by omega)
theorem aP:decide (min r a≤a)=true:=aaV (by omega)
theorem aI:decide (min r a≤a+k)=true:=aaV (by omega)
theorem aO:(a+j==a+k)=(j==k):=by rw[abG];simp
theorem an(x y z:Nat):decide (max x y≤z)=(decide (x≤z)&&decide (y≤z)):=by rw[abG];simp;omega
theorem ai:decide (a≤a)=true:=aaV (aa8 a)
theorem bA:decide (0≤a)=true:=aaV (adb a)
theorem bz:decide (a+(k+1)≤a)=false:=aaZ (by omega)
theorem aH:(a==a+(k+1))=false:=by simp
theorem aG:(a+(k+1)==a)=false:=by simp
end
theorem gf{A:Type}{bl l:List A}{b:Nat}{x:A}(h:bl[b]?=some x):(bl++l)[b]?=some x:=by
 rw[aa6 (aaS.1 h).1];exact h
theorem mB{F:aC}{xs:List SV}(h:0<SV.refs.aJ xs):eI F xs=false:=by
 unfold eI
 rw[acH]
 left
 simp;omega
theorem dW{T:FuncId→Option aC}{f:FuncId}{F:aC}{xs:List SV}{n:Nat}{H:ae}{v:SV}(hT:T f=some F)(hk:F.keep=false)(hs:jH v=true)
 (h:∀(R:Type) (k:SV→ae→Option R) (bl:List aK) (ro:Nat) (r:Option R),(bl=[]∧SV.refs.aJ xs=0∨bl=H.bl)→(∀ext,k v ⟨bl++ext,[],min ro bl.length⟩=r)→
  runK (aa T n) (ov F.res k) F.body [] (dV xs) ⟨bl,[],min ro bl.length⟩ ()=r) :
 aa T (n+1) (.fn f) xs H=some (v,H):=by
 have hfz:∀N H',eh N H' cE v=some v:=fun N H'=>by
  cases v<;>simp only[jH,abE]at hs<;>simp[cE,eh,SV.refs]
 cases hp:eI F xs with
 |true=>
  refine ab hT hp ?_
  have hr:SV.refs.aJ xs=0:=by
   unfold eI at hp
   simp only[aa1,ab0]at hp
   exact hp.1
  exact h SV (fun v H'=>eh 0 H' cE v) [] 0 _ (.inl ⟨rfl,hr⟩) (fun ext=>hfz _ _)
 |false=>
  refine bm hT hp ?_
  refine h _ (fun v H'=>cR F.keep H v H') H.bl H.ro _ (.inr rfl) (fun ext=>?_)
  rw[hk,oE,hfz]
  obtain⟨bl,es,ro⟩:=H
  simp[Sh.da]
end
def HC(a:Int):Int:=bif decide (a.tmod 1000000000<0)then bj (bj (a.tdiv 1000000000)-1)else bj (a.tdiv 1000000000)
theorem RF(n:Nat)(H:ae)(a:Int):aa T (n+1) (.fn 167) [aew a,aew 1000000000] H=some (aew (HC a),H):=by
 refine ab R4 (by rfl) ?_
 simp only[LR,ah,go_sem,simprocAttr,HC]
 repeat' (with_reducible refine aA (fun _=>?_) (fun _=>?_)<;>simp only[*,go_sem,simprocAttr,HC])
theorem Uo(n:Nat)(H:ae)(a:Int):aa T (n+1) (.fn 126) [aew a,aew 1000000000] H=some (aew (HC a),H):=by
 refine ab T2 (by rfl) ?_
 simp only[Nd,ah,go_sem,simprocAttr,HC]
 repeat' (with_reducible refine aA (fun _=>?_) (fun _=>?_)<;>simp only[*,go_sem,simprocAttr,HC])
def pf(o d:Int):Bool:=decide (-1099511627776≤o)&&decide (o≤1099511627776)&&decide (-100000≤d)&&decide (d≤100000)
def o7(o d:Int):Int:=bif pf o d then 0 else 1
theorem yv(o d:Int):o7 o d=if -1099511627776≤o∧o≤1099511627776∧ -100000≤d∧d≤100000 then 0 else 1:=by
 unfold o7 pf
 by_cases h1: -1099511627776≤o<;>by_cases h2:o≤1099511627776<;>by_cases h3: -100000≤d<;>by_cases h4:d≤100000<;>simp[h1,h2,h3,h4]
theorem OS(n:Nat)(H:ae)(o d:Int):aa T (n+1) (.fn 60) [.agg [aew o,aew d]] H=some (aew (o7 o d),H):=by
 refine ab e60 (by rfl) ?_
 simp only[XL,ah,go_sem,simprocAttr]
 repeat' (with_reducible refine aA (fun _=>?_) (fun _=>?_)<;>simp only[*,go_sem,simprocAttr])
 all_goals (refine congrArg some (congrArg (SV.int .i64) ?_);simp only[aaX,aa0]at *;rw[yv];split<;>omega)
theorem PA(n:Nat)(H:ae)(o d:Int):aa T (n+1) (.fn 69) [.agg [aew o,aew d]] H=some (aew (o7 o d),H):=by
 refine ab ZE (by rfl) ?_
 simp only[XE,ah,go_sem,simprocAttr]
 repeat' (with_reducible refine aA (fun _=>?_) (fun _=>?_)<;>simp only[*,go_sem,simprocAttr])
 all_goals (refine congrArg some (congrArg (SV.int .i64) ?_);simp only[aaX,aa0]at *;rw[yv];split<;>omega)
def qU(o d t:Int):Int:=bj (bj (o+t)+HC (bj (t*d)))
theorem G4(n b:Nat)(H:ae)(t o d:Int)(hb:H.bl[b]?=some (.box [aew o,aew d])):aa T (n+2) (.fn 166) [aew t,.ptr b 0 0 0] H=some (aew (qU o d t),H):=by
 refine dW Vq rfl rfl (fun R k bl ro r hbl hk=>?_)
 have hb':bl[b]?=some (.box [aew o,aew d]):=by
  rcases hbl with⟨rfl,h0⟩|rfl
  ·simp[SV.refs.aJ,SV.refs]at h0
  ·exact hb
 have hB:∀l:List aK,(bl++l)[b]?=some (.box [aew o,aew d]):=fun l=>gf hb'
 simp only[Lc,aF,aB,aE,aD,au,al,ao,aq,bg,aN,bb,aQ,aM,aP,aI,aO,aH,aG,an,ai,bA,bz,aaU,aaT,aa5,go_sem,simprocAttr,hb',hB,RF]
 have:=hk []
 rw[abQ]at this
 exact this
theorem WV(n:Nat)(H:ae)(t o d:Int):aa T (n+2) (.fn 71) [.agg [aew o,aew d],aew t] H=some (aew (qU o d t),H):=by
 refine ab Zc (by rfl) ?_
 simp only[XT,ah,go_sem,simprocAttr,Uo,qU]
theorem Tm(n b b1 b2:Nat)(H:ae)(t o d x:Int)(hb:H.bl[b]?=some (.box [aew o,aew d]))(hb1:H.bl[b1]?=some (.box [.fn 166 [.ptr b 0 0 0]]))(hb2:H.bl[b2]?=some (.box [aew x])) :
 aa T (n+3) (.fn 169) [aew t,.ptr b1 0 0 0,.ptr b2 0 0 0] H=some (.bool (decide (x≤qU o d t)),H):=by
 refine dW WD rfl rfl (fun R k bl ro r hbl hk=>?_)
 obtain rfl:bl=H.bl:=by
  rcases hbl with⟨rfl,h0⟩|rfl
  ·simp[SV.refs.aJ,SV.refs]at h0
  ·rfl
 have h6:=fun H' (h:H'.bl=H.bl)=>G4 n b H' t o d (by rw[h];exact hb)
 simp only[LQ,aF,aB,aE,aD,au,al,ao,aq,bg,aN,bb,aQ,aM,aP,aI,aO,aH,aG,an,ai,bA,bz,aaU,aaT,aa5,go_sem,simprocAttr,hb1,hb2,h6]
 have:=hk []
 rw[abQ]at this
 exact this
def bs(q:Int→Bool):Nat→Int×Int
 |0=>(0,1099511627776)
 |i+1=>bif decide ((bs q i).1<(bs q i).2)then(bif q (((bs q i).1+(bs q i).2)/2)then((bs q i).1,((bs q i).1+(bs q i).2)/2)else(((bs q i).1+(bs q i).2)/2+1,(bs q i).2))else bs q i
theorem sE(q:Int→Bool):∀i,0≤(bs q i).1∧(bs q i).1≤(bs q i).2∧(bs q i).2≤1099511627776∧((bs q i).2-(bs q i).1)*2 ^ i≤1099511627776
 |0=>by simp[bs]
 |i+1=>by
  obtain⟨h1,h2,h3,h4⟩:=sE q i
  rw[bs]
  generalize hl:(bs q i).1=l at *
  generalize hh:(bs q i).2=h at *
  have hp:(0:Int)≤2 ^ i:=Int.pow_nonneg (by omega)
  have key:∀d:Int,2*d≤h-l→d*2 ^ (i+1)≤1099511627776:=fun d hd=>by
   rw[Int.pow_succ,aeb (2 ^ i) 2,←Int.mul_assoc,aeb d 2]
   exact Int.le_trans (Int.mul_le_mul_of_nonneg_right hd hp) h4
  cases hlt:decide (l<h)with
  |true=>
   simp only[aaX]at hlt
   cases q ((l+h)/2)with
   |true=>
    simp only[abb]
    exact⟨by omega,by omega,by omega,key _ (by omega)⟩
   |false=>
    simp only[abb,abc]
    exact⟨by omega,by omega,by omega,key _ (by omega)⟩
  |false=>
   simp only[aa0]at hlt
   simp only[abc]
   rw[hl,hh]
   exact⟨h1,h2,h3,by rw[show h-l=0 by omega];omega⟩
theorem Br(q:Int→Bool):(bs q 41).1=(bs q 41).2:=by
 obtain⟨h1,h2,h3,h4⟩:=sE q 41
 have:((2:Int) ^ 41)=2199023255552:=by decide
 rw[this]at h4
 omega
theorem Ai(q:Int→Bool)(i:Nat)(h:decide ((bs q i).1<(bs q i).2)=false):∀k,bs q (i+k)=bs q i
 |0=>rfl
 |k+1=>by
  have e:=Ai q i h k
  rw[←aa5,bs,e,h]
  rfl
def D3(q:Int→Bool):Int:=(bs q 41).1
theorem yu(q:Int→Bool)(i:Nat)(hi:i≤41)(h:decide ((bs q i).1<(bs q i).2)=false):D3 q=(bs q i).1:=by
 have:=Ai q i h (41-i)
 rw[D3,show 41=i+(41-i) by omega,this]
theorem EG{z:Int}(h0:0≤z)(h1:z≤2199023255552):bj ((IntKind.u64.wrap z).fdiv (2 ^ min 1 64))=z/2:=by
 have e:IntKind.u64.wrap z=z%18446744073709551616:=by simp[IntKind.wrap,IntKind.bits,IntKind.signed]
 have e2:(2:Int) ^ min 1 64=2:=by decide
 rw[e,e2,ade _ (by omega),Int.emod_eq_of_lt h0 (by omega)]
 exact ax (by omega) (by omega)
theorem VH(n b b1 b2:Nat)(H:ae)(o d x:Int)(hb:H.bl[b]?=some (.box [aew o,aew d]))(hb1:H.bl[b1]?=some (.box [.fn 166 [.ptr b 0 0 0]]))(hb2:H.bl[b2]?=some (.box [aew x])) :
 aa T (n+4) (.fn 168) [aew 1099511627776,.fn 169 [.ptr b1 0 0 0,.ptr b2 0 0 0]] H=some (aew (D3 fun t=>decide (x≤qU o d t)),H):=by
 refine dW Wq rfl rfl (fun R k bl ro r hbl hk=>?_)
 obtain rfl:bl=H.bl:=by
  rcases hbl with⟨rfl,h0⟩|rfl
  ·simp[SV.refs.aJ,SV.refs]at h0
  ·rfl
 have h6:=fun t H' (h:H'.bl=H.bl)=>Tm n b b1 b2 H' t o d x (by rw[h];exact hb) (by rw[h];exact hb1) (by rw[h];exact hb2)
 obtain⟨q,hq⟩:∃q:Int→Bool,q=fun t=>decide (x≤qU o d t):=⟨_,rfl⟩
 rw[←hq]at hk
 simp only[Oj,aF,aB,aE,aD,au,al,ao,aq,bg,aN,bb,aQ,aM,aP,aI,aO,aH,aG,an,ai,bA,bz,aaU,aaT,aa5,go_sem,simprocAttr]
 refine aY (fun i=>([(1,.fn 169 [.ptr b1 0 0 0,.ptr b2 0 0 0]),(5,aew (bs q i).1),(6,aew (bs q i).2)],⟨H.bl,[],min ro H.bl.length⟩)) (fun _=>True) 41 ?_ trivial ?_
 ·have l1:decide (b1+1≤H.bl.length)=true:=aaV (aaS.1 hb1).1
  have l2:decide (b2+1≤H.bl.length)=true:=aaV (aaS.1 hb2).1
  simp only[aF,aB,aE,aD,au,al,ao,aq,bg,aN,bb,aQ,aM,aP,aI,aO,aH,aG,an,ai,bA,bz,aaU,aaT,aa5,go_sem,simprocAttr,bs,l1,l2]
 ·intro i hi _
  have l1:decide (b1+1≤H.bl.length)=true:=aaV (aaS.1 hb1).1
  have l2:decide (b2+1≤H.bl.length)=true:=aaV (aaS.1 hb2).1
  obtain⟨g1,g2,g3,_⟩:=sE q i
  cases hlt:decide ((bs q i).1<(bs q i).2)with
  |false=>
   simp only[aF,aB,aE,aD,au,al,ao,aq,bg,aN,bb,aQ,aM,aP,aI,aO,aH,aG,an,ai,bA,bz,aaU,aaT,aa5,go_sem,simprocAttr,hlt]
   have:=hk []
   rw[abQ,yu q i hi hlt]at this
   exact this
  |true=>
   have hw:bj ((bs q i).1+(bs q i).2)=(bs q i).1+(bs q i).2:=ax (by omega) (by omega)
   have hm:=EG (z:=(bs q i).1+(bs q i).2) (by omega) (by omega)
   have hw2:bj (((bs q i).1+(bs q i).2)/2+1)=((bs q i).1+(bs q i).2)/2+1:=ax (by omega) (by omega)
   have hi2:i<41:=by
    rcases aa4 i 41 with h|h
    ·exact h
    ·obtain rfl:i=41:=by omega
     rw[Br,aaX]at hlt
     omega
   have hb:bs q (i+1)=bif q (((bs q i).1+(bs q i).2)/2)then((bs q i).1,((bs q i).1+(bs q i).2)/2)else(((bs q i).1+(bs q i).2)/2+1,(bs q i).2):=by rw[bs,hlt];rfl
   have h6:=h6 (((bs q i).1+(bs q i).2)/2) ⟨H.bl,[],min ro H.bl.length⟩ rfl
   rw[show decide (x≤qU o d (((bs q i).1+(bs q i).2)/2))=q (((bs q i).1+(bs q i).2)/2) by rw[hq]]at h6
   cases hv:q (((bs q i).1+(bs q i).2)/2)with
   |false=>
    rw[hv]at h6 hb
    simp only[aF,aB,aE,aD,au,al,ao,aq,bg,aN,bb,aQ,aM,aP,aI,aO,aH,aG,an,ai,bA,bz,aaU,aaT,aa5,go_sem,simprocAttr,hlt,hw,hm,h6,hw2,hb,l1,l2]
    exact⟨hi2,trivial,trivial⟩
   |true=>
    rw[hv]at h6 hb
    simp only[aF,aB,aE,aD,au,al,ao,aq,bg,aN,bb,aQ,aM,aP,aI,aO,aH,aG,an,ai,bA,bz,aaU,aaT,aa5,go_sem,simprocAttr,hlt,hw,hm,h6,hb,l1,l2]
    exact⟨hi2,trivial,trivial⟩
theorem AV{T:FuncId→Option aC}{f:FuncId}{F:aC}{xs:List SV}{n:Nat}{H:ae}{a c:Int}(hT:T f=some F)(hk:F.keep=false)
 (h:∀(R:Type) (k:SV→ae→Option R) (bl:List aK) (ro:Nat) (r:Option R),(bl=[]∧SV.refs.aJ xs=0∨bl=H.bl)→(∀ext,k (.bk [aew a,aew c]) ⟨bl++ext,[],min ro bl.length⟩=r)→
  runK (aa T n) (ov F.res k) F.body [] (dV xs) ⟨bl,[],min ro bl.length⟩ ()=r) :
 aa T (n+1) (.fn f) xs H=some (.bk [aew a,aew c],H):=by
 have hfz:∀N H',eh N H' cE (.bk [aew a,aew c])=some (.bk [aew a,aew c]):=fun N H'=>by simp[cE,eh,bQ]
 cases hp:eI F xs with
 |true=>
  refine ab hT hp ?_
  have hr:SV.refs.aJ xs=0:=by
   unfold eI at hp
   simp only[aa1,ab0]at hp
   exact hp.1
  exact h SV (fun v H'=>eh 0 H' cE v) [] 0 _ (.inl ⟨rfl,hr⟩) (fun ext=>hfz _ _)
 |false=>
  refine bm hT hp ?_
  refine h _ (fun v H'=>cR F.keep H v H') H.bl H.ro _ (.inr rfl) (fun ext=>?_)
  rw[hk,oE,hfz]
  obtain⟨bl,es,ro⟩:=H
  simp[Sh.da]
def rV(o d x:Int):Int:=bif decide (qU o d 1099511627776<x)then 0 else D3 fun t=>decide (x≤qU o d t)
def rE(o d x:Int):Int:=bif decide (qU o d 1099511627776<x)then 15 else 0
theorem Gd(n b:Nat)(H:ae)(o d x:Int)(hb:H.bl[b]?=some (.box [aew o,aew d])) :
 aa T (n+5) (.fn 124) [.agg [.fn 166 [.ptr b 0 0 0]],aew x] H=some (.bk [aew (rV o d x),aew (rE o d x)],H):=by
 refine AV Ww rfl (fun R k bl ro r hbl hk=>?_)
 obtain rfl:bl=H.bl:=by
  rcases hbl with⟨rfl,h0⟩|rfl
  ·simp[SV.refs.aJ,SV.refs]at h0
  ·rfl
 have h6:=fun t H' (h:H'.bl[b]?=some (.box [aew o,aew d]))=>G4 (n+2) b H' t o d h
 have h7:=fun H' hb hb1 hb2=>VH n b H.bl.length (H.bl.length+1) H' o d x hb hb1 hb2
 have hB:∀l:List aK,(H.bl++l)[b]?=some (.box [aew o,aew d]):=fun l=>gf hb
 unfold rV rE at hk
 cases hc:decide (qU o d 1099511627776<x)with
 |true=>
  rw[hc]at hk
  simp only[HN,aF,aB,aE,aD,au,al,ao,aq,bg,aN,bb,aQ,aM,aP,aI,aO,aH,aG,an,ai,bA,bz,aaU,aaT,aa5,go_sem,simprocAttr,h6,hB,hc]
  exact hk _
 |false=>
  rw[hc]at hk
  simp only[HN,aF,aB,aE,aD,au,al,ao,aq,bg,aN,bb,aQ,aM,aP,aI,aO,aH,aG,an,ai,bA,bz,aaU,aaT,aa5,go_sem,simprocAttr,h6,h7,hB,hc]
  exact hk _
theorem Hf(n:Nat)(bl es ro)(o d:Int):aa T (n+1) (.qX 123) [.agg [aew o,aew d]] ⟨bl,es,ro⟩=
 some (.agg [.fn 166 [.ptr bl.length 0 0 0]],⟨bl++[.box [aew o,aew d],.box [.fn 166 [.ptr bl.length 0 0 0]]],es,ro⟩):=by
 refine eP Wk ?_
 simp only[DR,aF,aB,aE,aD,au,al,ao,aq,bg,aN,bb,aQ,aM,aP,aI,aO,aH,aG,an,ai,bA,bz,aaU,aaT,aa5,go_sem,simprocAttr]
def vS(o d s:Int):Bool:=pf o d&&(decide (0≤s)&&decide (s≤109951162))
def CU(o d s:Int):Int:=bif pf o d then(bif decide (0≤s)&&decide (s≤109951162)then 0 else 2)else 1
theorem LI(n:Nat)(H:ae)(o d s:Int):aa T (n+2) (.fn 122) [.agg [aew o,aew d],aew s] H=some (aew (CU o d s),H):=by
 have h6:=fun H=>OS n H o d
 unfold CU
 unfold o7 at h6
 cases hc:pf o d with
 |false=>
  rw[hc]at h6
  (refine ab EU (by rfl) ?_;simp only[BT,ah,go_sem,simprocAttr,h6])
 |true=>
  rw[hc]at h6
  by_cases h1:s<0
  ·have e1:decide (s<0)=true:=aaV h1
   have e2:decide (0≤s)=false:=aaZ (by omega)
   (refine ab EU (by rfl) ?_;simp only[BT,ah,go_sem,simprocAttr,h6,e1,e2])
  ·have e1:decide (s<0)=false:=aaZ h1
   have e2:decide (0≤s)=true:=aaV (by omega)
   by_cases h3:s≤109951162
   ·have e3:decide (s≤109951162)=true:=aaV h3
    have e4:decide (109951162<s)=false:=aaZ (by omega)
    (refine ab EU (by rfl) ?_;simp only[BT,ah,go_sem,simprocAttr,h6,e1,e2,e3,e4])
   ·have e3:decide (s≤109951162)=false:=aaZ h3
    have e4:decide (109951162<s)=true:=aaV (by omega)
    (refine ab EU (by rfl) ?_;simp only[BT,ah,go_sem,simprocAttr,h6,e1,e2,e3,e4])
def tp(o d s:Int):Int:=bif vS o d s then rV o d (s*10000+2120)else 0
def zN(o d s:Int):Int:=bif vS o d s then rE o d (s*10000+2120)else CU o d s
def GO(o d s:Int):Int:=bif vS o d s then rE o d (s*10000+3221)else CU o d s
def Gu(o d s:Int):Int:=bif vS o d s&&decide (s*10000+3221≤qU o d 1099511627776)then rV o d (s*10000+1020)else 0
def Gp(o d s:Int):Int:=bif vS o d s&&decide (s*10000+3221≤qU o d 1099511627776)then bj (rV o d (s*10000+3221)-1)else 0
theorem qd{o d s:Int}(h:vS o d s=true):pf o d=true∧0≤s∧s≤109951162∧CU o d s=0:=by
 unfold vS at h
 unfold CU
 cases h1:pf o d
 ·rw[h1,abk]at h;cases h
 ·rw[h1,abo]at h
  rw[h]
  simp only[aa1,aaX]at h
  exact⟨rfl,h.1,h.2,rfl⟩
theorem xj{o d s:Int}(h:vS o d s=false):decide (CU o d s=0)=false:=by
 unfold vS at h
 unfold CU
 cases h1:pf o d
 ·rfl
 ·rw[h1,abo]at h
  rw[h]
  rfl
theorem Yg(n:Nat)(H:ae)(o d s:Int):aa T (n+6) (.fn 66) [.agg [aew o,aew d],aew s] H=some (.bk [aew (tp o d s),aew (zN o d s)],H):=by
 have h122:=fun H=>LI (n+3) H o d s
 have h123:=fun bl es ro=>Hf (n+4) bl es ro o d
 unfold tp zN
 cases hb:vS o d s with
 |false=>
  have h0:=xj hb
  (refine ab Xy (by rfl) ?_;simp only[RN,ah,go_sem,simprocAttr,h122,h0])
 |true=>
  obtain⟨h1,h2,h3,h4⟩:=qd hb
  rw[h4]at h122
  have hw:bj (bj (s*10000)+2120)=s*10000+2120:=by rw[ax (n:=s*10000) (by omega) (by omega)];exact ax (by omega) (by omega)
  have h124:=fun H hb=>Gd n 1 H o d (s*10000+2120) hb
  (refine ab Xy (by rfl) ?_;simp only[RN,ah,go_sem,simprocAttr,h122,h123,h124,hw])
theorem X7(n:Nat)(H:ae)(o d s:Int):aa T (n+6) (.fn 67) [.agg [aew o,aew d],aew s] H=some (.bk [aew (Gu o d s),aew (Gp o d s),aew (GO o d s)],H):=by
 have h122:=fun H=>LI (n+3) H o d s
 have h123:=fun bl es ro=>Hf (n+4) bl es ro o d
 unfold Gu Gp GO
 cases hb:vS o d s with
 |false=>
  have h0:=xj hb
  (refine ab O6 (by rfl) ?_;simp only[Kt,ah,go_sem,simprocAttr,h122,h0])
 |true=>
  obtain⟨h1,h2,h3,h4⟩:=qd hb
  rw[h4]at h122
  have hw0:bj (bj (s*10000)+2120)=s*10000+2120:=by rw[ax (n:=s*10000) (by omega) (by omega)];exact ax (by omega) (by omega)
  have hw1:bj (s*10000+2120-1100)=s*10000+1020:=by rw[ax (by omega) (by omega)];omega
  have hw2:bj (bj (s*10000+2120+1100)+1)=s*10000+3221:=by rw[ax (n:=s*10000+2120+1100) (by omega) (by omega),ax (by omega) (by omega)];omega
  have h124:=fun H hb=>Gd n 1 H o d (s*10000+1020) hb
  have h125:=fun H hb=>Gd n 3 H o d (s*10000+3221) hb
  cases hc:decide (s*10000+3221≤qU o d 1099511627776)with
  |true=>
   have hE1:rE o d (s*10000+1020)=0:=by unfold rE;rw[aaZ (by rw[aaX]at hc;omega)];rfl
   have hE2:rE o d (s*10000+3221)=0:=by unfold rE;rw[aaZ (by rw[aaX]at hc;omega)];rfl
   rw[hE1]at h124
   rw[hE2]at h125
   (refine ab O6 (by rfl) ?_;simp only[Kt,ah,go_sem,simprocAttr,h122,h123,h124,h125,hw0,hw1,hw2,hE2])
  |false=>
   have hE2:rE o d (s*10000+3221)=15:=by unfold rE;rw[aaV (by rw[aa0]at hc;omega)];rfl
   rw[hE2]at h125
   cases hd:decide (rE o d (s*10000+1020)=0)with
   |true=>
    (refine ab O6 (by rfl) ?_;simp only[Kt,ah,go_sem,simprocAttr,h122,h123,h124,h125,hw0,hw1,hw2,hE2,hd])
   |false=>
    (refine ab O6 (by rfl) ?_;simp only[Kt,ah,go_sem,simprocAttr,h122,h123,h124,h125,hw0,hw1,hw2,hE2,hd])
theorem ZL(n:Nat)(H:ae)(o d x:Int)(hk:pf o d=true):aa T (n+3) (.fn 88) [.agg [aew o,aew d],aew x] H=some (.bk [aew (rV o d x),aew (rE o d x)],H):=by
 refine ab e88 (by rfl) ?_
 have h69:=fun H=>PA (n+1) H o d
 unfold o7 at h69
 rw[hk]at h69
 have h71:=fun H t=>WV n H t o d
 unfold rV rE
 cases hc:decide (qU o d 1099511627776<x)with
 |true=>simp only[Rq,ah,go_sem,simprocAttr,h69,h71,hc]
 |false=>
  simp only[Rq,ah,go_sem,simprocAttr,h69,h71,hc]
  obtain⟨q,hq⟩:∃q:Int→Bool,q=fun t=>decide (x≤qU o d t):=⟨_,rfl⟩
  rw[←hq]
  refine aY (fun i=>([(1,aew x),(2,.ptr 0 0 0 0),(6,aew (bs q i).1),(7,aew (bs q i).2)],⟨[.box [aew o,aew d]],[],0⟩)) (fun _=>True) 41 ?_ trivial ?_
  ·simp only[go_sem,simprocAttr,bs]<;>rfl
  ·intro i hi _
   obtain⟨g1,g2,g3,_⟩:=sE q i
   cases hlt:decide ((bs q i).1<(bs q i).2)with
   |false=>
    simp only[go_sem,simprocAttr,hlt,yu q i hi hlt]
   |true=>
    have hw:bj ((bs q i).1+(bs q i).2)=(bs q i).1+(bs q i).2:=ax (by omega) (by omega)
    have ht:((bs q i).1+(bs q i).2).tdiv 2=((bs q i).1+(bs q i).2)/2:=acJ (by omega)
    have hm:bj (((bs q i).1+(bs q i).2)/2)=((bs q i).1+(bs q i).2)/2:=ax (by omega) (by omega)
    have hw2:bj (((bs q i).1+(bs q i).2)/2+1)=((bs q i).1+(bs q i).2)/2+1:=ax (by omega) (by omega)
    have hi2:i<41:=by
     rcases aa4 i 41 with h|h
     ·exact h
     ·obtain rfl:i=41:=by omega
      rw[Br,aaX]at hlt
      omega
    have hb:bs q (i+1)=bif q (((bs q i).1+(bs q i).2)/2)then((bs q i).1,((bs q i).1+(bs q i).2)/2)else(((bs q i).1+(bs q i).2)/2+1,(bs q i).2):=by rw[bs,hlt];rfl
    have hv':decide (x≤qU o d (((bs q i).1+(bs q i).2)/2))=q (((bs q i).1+(bs q i).2)/2):=by rw[hq]
    cases hv:q (((bs q i).1+(bs q i).2)/2)with
    |false=>
     rw[hv]at hv' hb
     simp only[go_sem,simprocAttr,hlt,hw,ht,hm,h71,hv',hw2,hb]
     refine⟨hi2,?_,?_⟩<;>first|trivial|rfl
    |true=>
     rw[hv]at hv' hb
     simp only[go_sem,simprocAttr,hlt,hw,ht,hm,h71,hv',hb]
     refine⟨hi2,?_,?_⟩<;>first|trivial|rfl
theorem UI(n:Nat)(H:ae)(o d s x:Int)(hx0:0≤x)(hx:x≤10000):aa T (n+4) (.fn 50) [.agg [aew o,aew d],aew s,aew x] H=
 some (.bk [aew (bif vS o d s then rV o d (s*10000+x)else 0),aew (bif vS o d s then rE o d (s*10000+x)else CU o d s)],H):=by
 have h69:=fun H=>PA (n+2) H o d
 unfold o7 at h69
 cases hb:vS o d s with
 |false=>
  unfold CU
  unfold vS at hb
  cases hc:pf o d with
  |false=>
   rw[hc]at h69
   (refine ab Om (by rfl) ?_;simp only[N1,ah,go_sem,simprocAttr,h69])
  |true=>
   rw[hc]at h69 hb
   rw[abo]at hb
   by_cases h1:s<0
   ·have e1:decide (s<0)=true:=aaV h1
    (refine ab Om (by rfl) ?_;simp only[N1,ah,go_sem,simprocAttr,h69,e1,hb])
   ·have e1:decide (s<0)=false:=aaZ h1
    have e2:decide (0≤s)=true:=aaV (by omega)
    rw[e2,abo]at hb
    have e4:decide (109951162<s)=true:=by simp only[aaX,aa0]at *;omega
    (refine ab Om (by rfl) ?_;simp only[N1,ah,go_sem,simprocAttr,h69,e1,e2,hb,e4])
 |true=>
  obtain⟨h1,h2,h3,h4⟩:=qd hb
  rw[h1]at h69
  have e1:decide (s<0)=false:=aaZ (by omega)
  have e4:decide (109951162<s)=false:=aaZ (by omega)
  have hw:bj (bj (s*10000)+x)=s*10000+x:=by rw[ax (n:=s*10000) (by omega) (by omega)];exact ax (by omega) (by omega)
  have h88:=fun H=>ZL n H o d (s*10000+x) h1
  (refine ab Om (by rfl) ?_;simp only[N1,ah,go_sem,simprocAttr,h69,e1,e4,hw,h88])
theorem YV(n:Nat)(H:ae)(o d s:Int):aa T (n+5) (.fn 13) [.agg [aew o,aew d],aew s] H=some (.bk [aew (tp o d s),aew (zN o d s)],H):=by
 have h50:=fun H=>UI n H o d s 2120 (by omega) (by omega)
 (refine ab J8 (by rfl) ?_;simp only[WN,ah,go_sem,simprocAttr,h50,tp,zN])
theorem Ya(n:Nat)(H:ae)(o d s:Int):aa T (n+5) (.fn 54) [.agg [aew o,aew d],aew s] H=some (.bk [aew (Gu o d s),aew (Gp o d s),aew (GO o d s)],H):=by
 have h50:=fun H=>UI n H o d s 3221 (by omega) (by omega)
 have h51:=fun H=>UI n H o d s 1020 (by omega) (by omega)
 unfold Gu Gp GO
 cases hb:vS o d s with
 |false=>
  rw[hb]at h50 h51
  have h0:=xj hb
  (refine ab Vu (by rfl) ?_;simp only[Ok,ah,go_sem,simprocAttr,h50,h51,h0])
 |true=>
  rw[hb]at h50 h51
  cases hc:decide (s*10000+3221≤qU o d 1099511627776)with
  |true=>
   have hE2:rE o d (s*10000+3221)=0:=by unfold rE;rw[aaZ (by rw[aaX]at hc;omega)];rfl
   rw[hE2]at h50
   (refine ab Vu (by rfl) ?_;simp only[Ok,ah,go_sem,simprocAttr,h50,h51,hE2])
  |false=>
   have hE2:rE o d (s*10000+3221)=15:=by unfold rE;rw[aaV (by rw[aa0]at hc;omega)];rfl
   rw[hE2]at h50
   (refine ab Vu (by rfl) ?_;simp only[Ok,ah,go_sem,simprocAttr,h50,h51,hE2])
namespace G
abbrev pt(a b:Int):SV:=.agg [aew a,aew b]
abbrev wl(a b c d f:Int):SV:=.agg [aew a,aew b,aew c,aew d,aew f]
def pg(a b:Int):Int:=if a<b then -1 else if b<a then 1 else 0
def fj(a b c d x y:Int):Int:=pg (bj (bj (c-a)*bj (y-b))) (bj (bj (d-b)*bj (x-a)))
def jG(a b c d x y:Int):Int:=if bj (bj (bj (c-a)*bj (y-b))-bj (bj (d-b)*bj (x-a)))>0 then 1 else if bj (bj (bj (c-a)*bj (y-b))-bj (bj (d-b)*bj (x-a)))<0 then -1 else 0
def dE(p q a b c d:Int):Bool:=decide (min a c≤p)&&decide (p≤max a c)&&decide (min b d≤q)&&decide (q≤max b d)
def Fc(p q a b c d:Int):Bool:=(decide (p=a)&&decide (q=b))||(decide (p=c)&&decide (q=d))||(decide (fj a b c d p q=0)&&dE p q a b c d)
def pP(a b c d x y z t:Int):Bool:=Fc x y a b c d||Fc z t a b c d||Fc a b x y z t||Fc c d x y z t ||
 (decide (bj (fj a b c d x y*fj a b c d z t)<0)&&decide (bj (fj x y z t a b*fj x y z t c d)<0))
def qC(a b c d x y z t:Int):Bool:=(decide (bj (jG a b c d x y*jG a b c d z t)<0)&&decide (bj (jG x y z t a b*jG x y z t c d)<0)) ||
 (decide (jG a b c d x y=0)&&dE x y a b c d)||(decide (jG a b c d z t=0)&&dE z t a b c d)||(decide (jG x y z t a b=0)&&dE a b x y z t)||(decide (jG x y z t c d=0)&&dE c d x y z t)
theorem Wm(n id:Nat)(H:ae)(L:List (List SV))(fl:Bool)(p:List SV→Bool)(hr:∀r∈L,r.length=2)(hm:L.length≤maxLen)
 (hc:∀r∈L,∀H,aa T n (.fn id) [.agg r] H=some (.bool (p r),H)):aa T (n+1) (.fn 155) [.ay 2 L fl,.fn id []] H=some (aew (jz p L),H):=by
 refine ab UH (by rfl) ?_
 simp only[Mh,ah,go_sem,Nat.reduceAdd,Nat.reduceBEq]
 refine aY (fun i=>([(0,.ay 2 L fl),(1,.fn id []),(7,aew L.length),(8,aew i)],⟨[],[],0⟩)) (fun i=>∀(j:Nat) r,j<i→L[j]?=some r→p r=false) L.length ?_ (fun j r h=>by omega) ?_
 ·simp only[go_sem,Nat.reduceAdd,Nat.reduceBEq,Nat.reduceLeDiff]<;>rfl
 ·intro i hi hP
  have hm:maxLen=maxLen:=rfl
  rcases aa4 i L.length with hlt|hge
  ·obtain⟨r,hr'⟩:∃r,L[i]?=some r:=⟨L[i],aa9 hlt⟩
   have hmem:=aa3 hr'
   have h1:=hr _ hmem
   have ht:List.take 2 r=r:=abu (by omega)
   have hw:bj ((i:Int)+1)=((i+1:Nat):Int):=by
    rw[ax]<;>simp[maxLen]at * <;>omega
   cases hp:p r with
   |true=>
    have hx:=kQ hr' hp hP
    simp only[go_sem,Nat.reduceAdd,Nat.reduceBEq,Nat.reduceLeDiff,hlt,hr',hc r hmem,hw,h1,ht,hp,hx]
   |false=>
    simp only[go_sem,Nat.reduceAdd,Nat.reduceBEq,Nat.reduceLeDiff,hlt,hr',hc r hmem,hw,h1,ht,hp]
    refine⟨trivial,trivial,fun j r' hj hr2=>?_⟩
    rcases aa4 j i with hlt2|hge2
    ·exact hP j r' hlt2 hr2
    ·have:j=i:=by omega
     subst this
     rw[hr']at hr2
     cases hr2
     exact hp
  ·have hlt:¬i<L.length:=by omega
   have hx:jz p L= -1:=gE (fun j a hj=>hP j a (by have:=(aaS.1 hj).1;omega) hj)
   simp only[go_sem,Nat.reduceAdd,Nat.reduceBEq,Nat.reduceLeDiff,hlt,hx]
theorem UA(n id:Nat)(H:ae)(L:List (List SV))(fl:Bool)(p:List SV→Bool)(hr:∀r∈L,∃x,r=[x])(hm:L.length≤maxLen)
 (hc:∀r∈L,∀H,aa T n (.fn id) [r.headD .undef] H=some (.bool (p r),H)):aa T (n+1) (.fn 156) [.ay 1 L fl,.fn id []] H=some (aew (jz p L),H):=by
 refine ab Sl (by rfl) ?_
 simp only[Kx,ah,go_sem,Nat.reduceAdd,Nat.reduceBEq]
 refine aY (fun i=>([(0,.ay 1 L fl),(1,.fn id []),(7,aew L.length),(8,aew i)],⟨[],[],0⟩)) (fun i=>∀(j:Nat) r,j<i→L[j]?=some r→p r=false) L.length ?_ (fun j r h=>by omega) ?_
 ·simp only[go_sem,Nat.reduceAdd,Nat.reduceBEq,Nat.reduceLeDiff]<;>rfl
 ·intro i hi hP
  have hm:maxLen=maxLen:=rfl
  rcases aa4 i L.length with hlt|hge
  ·obtain⟨r,hr'⟩:∃r,L[i]?=some r:=⟨L[i],aa9 hlt⟩
   have hmem:=aa3 hr'
   have h1:=hr _ hmem
   obtain⟨x,rfl⟩:=h1
   have hcr:=hc _ hmem
   simp only[List.headD_cons]at hcr
   have hw:bj ((i:Int)+1)=((i+1:Nat):Int):=by
    rw[ax]<;>simp[maxLen]at * <;>omega
   cases hp:p [x]with
   |true=>
    have hx:=kQ hr' hp hP
    simp only[go_sem,Nat.reduceAdd,Nat.reduceBEq,Nat.reduceLeDiff,hlt,hr',hcr,hw,hp,hx]
   |false=>
    simp only[go_sem,Nat.reduceAdd,Nat.reduceBEq,Nat.reduceLeDiff,hlt,hr',hcr,hw,hp]
    refine⟨trivial,trivial,fun j r' hj hr2=>?_⟩
    rcases aa4 j i with hlt2|hge2
    ·exact hP j r' hlt2 hr2
    ·have:j=i:=by omega
     subst this
     rw[hr']at hr2
     cases hr2
     exact hp
  ·have hlt:¬i<L.length:=by omega
   have hx:jz p L= -1:=gE (fun j a hj=>hP j a (by have:=(aaS.1 hj).1;omega) hj)
   simp only[go_sem,Nat.reduceAdd,Nat.reduceBEq,Nat.reduceLeDiff,hlt,hx]
def cW(L:List (Int×Int)):List (List SV):=L.map fun p=>[aew p.1,aew p.2]
theorem ue{L:List (Int×Int)}:∀r∈cW L,r.length=2:=by
 intro r hr;simp only[cW,acd]at hr;obtain⟨p,_,rfl⟩:=hr;rfl
theorem AO{p:List SV→Bool}{q:Int×Int→Bool}(h:∀a b,p [aew a,aew b]=q (a,b))(L:List (Int×Int)):(cW L).any p=L.any q:=by
 induction L with
 |nil=>rfl
 |cons a l ih=>simp only[cW,abB,ael,h]at *;rw[ih]
theorem QS(n id:Nat)(H:ae)(L:List (List SV))(fl:Bool)(p:List SV→Bool)(hr:∀r∈L,r.length=2)(hm:L.length≤maxLen)
 (hc:∀r∈L,∀H,aa T n (.fn id) [.agg r] H=some (.bool (p r),H)):aa T (n+2) (.fn 108) [.ay 2 L fl,.fn id []] H=some (.bool (L.any p),H):=by
 refine ab Qd (by rfl) ?_
 simp only[Nf,ah,go_sem,Nat.reduceAdd,Nat.reduceBEq,Wm n id _ L fl p hr hm hc,iE]
theorem Rh(n id:Nat)(H:ae)(L:List (List SV))(fl:Bool)(p:List SV→Bool)(hr:∀r∈L,∃x,r=[x])(hm:L.length≤maxLen)
 (hc:∀r∈L,∀H,aa T n (.fn id) [r.headD .undef] H=some (.bool (p r),H)):aa T (n+2) (.fn 109) [.ay 1 L fl,.fn id []] H=some (.bool (L.any p),H):=by
 refine ab SL (by rfl) ?_
 simp only[KG,ah,go_sem,Nat.reduceAdd,Nat.reduceBEq,UA n id _ L fl p hr hm hc,iE]
def jN(a:Int):Prop:= -20000≤a∧a≤20000
theorem KX{u v:Int}(hu:u.natAbs≤40000)(hv:v.natAbs≤40000):(u*v).natAbs≤1600000000:=by
 rw[Int.natAbs_mul];exact aeg hu hv
theorem ph{a b c d x y:Int}(ha:jN a)(hb:jN b)(hc:jN c)(hd:jN d)(hx:jN x)(hy:jN y):jG a b c d x y=fj a b c d x y:=by
 unfold jN at *
 have e1:bj (c-a)=c-a:=ax (by omega) (by omega)
 have e2:bj (y-b)=y-b:=ax (by omega) (by omega)
 have e3:bj (d-b)=d-b:=ax (by omega) (by omega)
 have e4:bj (x-a)=x-a:=ax (by omega) (by omega)
 have b1:=KX (u:=c-a) (v:=y-b) (by omega) (by omega)
 have b2:=KX (u:=d-b) (v:=x-a) (by omega) (by omega)
 unfold jG fj pg
 rw[e1,e2,e3,e4]
 generalize (c-a)*(y-b)=P at *
 generalize (d-b)*(x-a)=Q at *
 have e5:bj P=P:=ax (by omega) (by omega)
 have e6:bj Q=Q:=ax (by omega) (by omega)
 have e7:bj (P-Q)=P-Q:=ax (by omega) (by omega)
 rw[e5,e6,e7]
 repeat' split
 all_goals omega
theorem ve(P:Int):pg P P=0:=by unfold pg;rw[if_neg (by omega),if_neg (by omega)]
theorem Kf(p q a b c d:Int):Fc p q a b c d=(decide (fj a b c d p q=0)&&dE p q a b c d):=by
 unfold Fc
 rw[abG]
 simp only[abS,aa1,aaX]
 constructor
 ·rintro((⟨rfl,rfl⟩|⟨rfl,rfl⟩)|h)
  ·refine⟨?_,?_⟩
   ·unfold fj
    have:bj 0=0:=by decide
    simp only[Int.sub_self,this,Int.mul_zero,ve]
   ·unfold dE;simp only[aa1,aaX];omega
  ·refine⟨?_,?_⟩
   ·unfold fj
    rw[aeb (bj (q-b)),ve]
   ·unfold dE;simp only[aa1,aaX];omega
  ·exact h
 ·exact fun h=>.inr h
theorem zW{a b c d x y z t:Int}(ha:jN a)(hb:jN b)(hc:jN c)(hd:jN d)(hx:jN x)(hy:jN y)(hz:jN z)(ht:jN t):pP a b c d x y z t=qC a b c d x y z t:=by
 unfold pP qC
 simp only[Kf,ph ha hb hc hd hx hy,ph ha hb hc hd hz ht,ph hx hy hz ht ha hb,ph hx hy hz ht hc hd]
 generalize (decide (fj a b c d x y=0)&&dE x y a b c d)=A
 generalize (decide (fj a b c d z t=0)&&dE z t a b c d)=B
 generalize (decide (fj x y z t a b=0)&&dE a b x y z t)=C
 generalize (decide (fj x y z t c d=0)&&dE c d x y z t)=D
 generalize (decide (bj (fj a b c d x y*fj a b c d z t)<0)&&decide (bj (fj x y z t a b*fj x y z t c d)<0))=E
 cases A<;>cases B<;>cases C<;>cases D<;>cases E<;>rfl
structure Wl where
 a:Int
 b:Int
 c:Int
 d:Int
 f:Int
abbrev OD(w:Wl):List SV:=[aew w.a,aew w.b,aew w.c,aew w.d,aew w.f]
def ey(W:List Wl):List (List SV):=W.map OD
def cM(P:List Int):List (List SV):=P.map fun p=>[aew p]
@[go_sem] theorem CH {W:List Wl}:(ey W).length=W.length:=by simp[ey]
@[go_sem] theorem yN {W:List Int}:(cM W).length=W.length:=by simp[cM]
@[go_sem] theorem aL {W:List (Int×Int)}:(cW W).length=W.length:=by simp[cW]
abbrev st(N:List (Int×Int))(P:List Int)(W:List Wl)(f1 f2 f3:Bool)(ex no th:Int):SV:=.agg [.ay 2 (cW N) f1,.ay 1 (cM P) f2,.ay 5 (ey W) f3,aew ex,aew no,aew th]
def bW(a b:Int):Bool:=decide (0≤a)&&decide (a≤10000)&&decide (0≤b)&&decide (b≤10000)
theorem Gy(n:Nat)(H:ae)(a b:Int):aa T (n+1) (.fn 107) [pt a b] H=some (.bool (bW a b),H):=by
 refine ab Q5 (by rfl) ?_
 simp only[MJ,ah,go_sem,simprocAttr]
 repeat' (with_reducible refine aA (fun _=>?_) (fun _=>?_)<;>simp only[*,go_sem,simprocAttr])
 all_goals (simp only[aaX,aa0]at *;simp only[bW];congr 2;rw[abG];simp only[aa1,aaX,abE,false_iff];omega)
def cO(n:Int):Bool:=decide (0≤n)&&decide (n≤68719476736)
theorem Gq(n:Nat)(H:ae)(a:Int):aa T (n+1) (.fn 111) [aew a] H=some (.bool (cO a),H):=by
 refine ab QL (by rfl) ?_
 simp only[Mv,ah,go_sem,simprocAttr]
 repeat' (with_reducible refine aA (fun _=>?_) (fun _=>?_)<;>simp only[*,go_sem,simprocAttr])
 all_goals (simp only[cO];grind)
theorem ti(n:Nat)(H:ae)(a:Int):aa T (n+1) (.fn 130) [aew a] H=some (.bool (cO a),H):=by
 refine ab KT (by rfl) ?_
 simp only[Hj,ah,go_sem,simprocAttr]
 repeat' (with_reducible refine aA (fun _=>?_) (fun _=>?_)<;>simp only[*,go_sem,simprocAttr])
 all_goals (simp only[cO];grind)
theorem GQ(n:Nat)(H:ae)(a b:Int):aa T (n+2) (.fn 106) [pt a b] H=some (.bool (!bW a b),H):=by
 refine ab Ro (by rfl) ?_
 simp only[Lp,ah,go_sem,simprocAttr,Gy]
theorem VQ(n:Nat)(H:ae)(a:Int):aa T (n+2) (.fn 110) [aew a] H=some (.bool (!cO a),H):=by
 refine ab RY (by rfl) ?_
 simp only[NN,ah,go_sem,simprocAttr,Gq]
theorem nY(n:Nat)(H:ae)(a b:Int):aa T (n+1) (.fn 129) [pt a b] H=some (.bool (bW a b),H):=by
 refine ab Lw (by rfl) ?_
 simp only[HO,ah,go_sem,simprocAttr]
 repeat' (with_reducible refine aA (fun _=>?_) (fun _=>?_)<;>simp only[*,go_sem,simprocAttr])
 all_goals (simp only[bW];grind)
def mi(t m:Int):Bool:=decide (1000≤t)&&decide (t≤100000)&&decide (1≤m)&&decide (m≤68719476736)
theorem KW(n:Nat)(H:ae)(t m:Int):aa T (n+1) (.fn 128) [aew t,aew m] H=some (.bool (mi t m),H):=by
 refine ab VP (by rfl) ?_
 simp only[Oe,ah,go_sem,simprocAttr]
 repeat' (with_reducible refine aA (fun _=>?_) (fun _=>?_)<;>simp only[*,go_sem,simprocAttr])
 all_goals (simp only[mi];grind)
def xi(p f:Int):Bool:=cO p&&decide (0≤f)&&decide (f≤1000)
def HF(p f:Int):Int:=if xi p f=true then bj ((bj (p*f)).tdiv 1000)else 0
def O1(p f:Int):Int:=if xi p f=true then 0 else 2
def DV(N:List (Int×Int))(P:List Int)(W:List Wl):Bool:=decide (N.length≤40)&&decide (P.length≤40)&&decide (W.length≤40)
theorem YH(n:Nat)(H:ae)(N P W f1 f2 f3 ex no th):aa T (n+1) (.fn 86) [st N P W f1 f2 f3 ex no th] H=some (.bool (DV N P W),H):=by
 refine ab ZX (by rfl) ?_
 simp only[Yd,ah,go_sem,simprocAttr,CH,yN,aL]
 repeat' (with_reducible refine aA (fun _=>?_) (fun _=>?_)<;>simp only[*,go_sem,simprocAttr])
 all_goals (simp only[DV];refine congrArg some (congrArg SV.bool ?_);rw[abG];grind)
def Sz(a b c d:Int):Int:=bj (bj (bj (a-c)*bj (a-c))+bj (bj (b-d)*bj (b-d)))
theorem CL(a b c d:Int):bj (bj (bj (a-c)*bj (a-c))+bj (bj (b-d)*bj (b-d)))=Sz a b c d:=rfl
def mI(a b c d:Int):Int:=max (Sz a b c d) 100
theorem FN(a b c d:Int):max (Sz a b c d) 100=mI a b c d:=rfl
theorem Fo(a b c d:Int):decide (mI a b c d=0)=false:=by
 have:100≤mI a b c d:=Int.le_max_right _ _
 rw[aa0];omega
def kc(ex a b p c d:Int):Int:=let p1:=bj ((bj (p*100)).tdiv (mI a b c d));if ex=4 then bj ((bj (p1*100)).tdiv (mI a b c d))else p1
def iF(a b c d p:Int)(w:Wl):Int:=if qC a b c d w.a w.b w.c w.d=true then bj ((bj (p*w.f)).tdiv 1000)else p
def atR(W:List Wl)(ex a b p c d:Int):Int:=W.foldl (iF a b c d) (kc ex a b p c d)
theorem eW{A B:Type}(f:A→B→A)(z:A){l:List B}{i:Nat}{x:B}(h:l[i]?=some x):(l.take (i+1)).foldl f z=f ((l.take i).foldl f z) x:=by
 rw[acu,h];simp
@[go_sem] theorem NC (W:List Wl)(i:Nat):(ey W)[i]?=(W[i]?).map OD:=by simp[ey]
@[go_sem] theorem ID (W:List Int)(i:Nat):(cM W)[i]?=(W[i]?).map (fun p=>[aew p]):=by simp[cM]
@[go_sem] theorem Mq (W:List (Int×Int))(i:Nat):(cW W)[i]?=(W[i]?).map (fun p=>[aew p.1,aew p.2]):=by simp[cW]
theorem kn{i n:Nat}(h:i<n)(hn:n≤maxLen):bj ((i:Int)+1)=((i+1:Nat):Int):=by
 simp only[maxLen]at hn
 rw[ax (by omega) (by omega)];omega
def lD(a b c d p:Int)(w:Wl):Int:=if pP a b c d w.a w.b w.c w.d=true then HF p w.f else p
theorem jh{A R:Type}{v:Option A}{f:A→Option R}{t:oK f}{r:Option R}(o:A)(h:v=some o)(k:f o=r):aT v f t=r:=by rw[h];exact k
def zQ(W:List Wl)(ex a b p c d:Int):Int:=W.foldl (lD a b c d) (kc ex a b p c d)
def jb(w:Wl):Bool:=!bW w.a w.b||!bW w.c w.d||decide (w.f<0)||decide (1000<w.f)
theorem RI(n:Nat)(X0:aK)(w:Wl):aa T (n+3) (.fn 113) [.agg (OD w),.ptr 1 0 0 0] ⟨[X0,.box [.fn 106 []]],[],0⟩=some (.bool (jb w),⟨[X0,.box [.fn 106 []]],[],0⟩):=by
 refine bm UM (by rfl) ?_
 simp only[Nq,go_sem,simprocAttr,GQ]
 repeat' (with_reducible refine aA (fun _=>?_) (fun _=>?_)<;>simp only[*,go_sem,simprocAttr,GQ])
 all_goals (simp only[jb];grind)
theorem Ts(n id:Nat)(X0 X1:aK)(L:List (List SV))(fl:Bool)(p:List SV→Bool)(hr:∀r∈L,r.length=5)(hm:L.length≤maxLen)
 (hc:∀r∈L,aa T n (.fn id) [.agg r,.ptr 1 0 0 0] ⟨[X0,X1],[],0⟩=some (.bool (p r),⟨[X0,X1],[],0⟩)) :
 aa T (n+1) (.fn 157) [.ay 5 L fl,.fn id [.ptr 1 0 0 0]] ⟨[X0,X1],[],0⟩=some (aew (jz p L),⟨[X0,X1],[],0⟩):=by
 refine bm Wh (by rfl) ?_
 simp only[KK,go_sem,simprocAttr]
 refine aY (fun i=>([(0,.ay 5 L fl),(1,.fn id [.ptr 1 0 0 0]),(7,aew L.length),(8,aew i)],⟨[X0,X1],[],0⟩)) (fun i=>∀(j:Nat) r,j<i→L[j]?=some r→p r=false) L.length ?_ (fun j r h=>by omega) ?_
 ·simp only[go_sem,simprocAttr]
  rfl
 ·intro i hi hP
  rcases aa4 i L.length with hlt|hge
  ·obtain⟨r,hr'⟩:∃r,L[i]?=some r:=⟨L[i],aa9 hlt⟩
   have hmem:=aa3 hr'
   have h1:=hr _ hmem
   have ht:List.take 5 r=r:=abu (by omega)
   have hw:=kn hlt hm
   cases hp:p r with
   |true=>
    have hx:=kQ hr' hp hP
    simp only[go_sem,simprocAttr,hlt,hr',hc r hmem,hw,h1,ht,hp,hx]
   |false=>
    simp only[go_sem,simprocAttr,hlt,hr',hc r hmem,hw,h1,ht,hp]
    refine⟨trivial,rfl,fun j r' hj hr2=>?_⟩
    rcases aa4 j i with hlt2|hge2
    ·exact hP j r' hlt2 hr2
    ·have:j=i:=by omega
     subst this
     rw[hr']at hr2
     cases hr2
     exact hp
  ·have hlt:¬i<L.length:=by omega
   have hx:jz p L= -1:=gE (fun j a hj=>hP j a (by have:=(aaS.1 hj).1;omega) hj)
   simp only[go_sem,simprocAttr,hlt,hx]
theorem RQ(n id:Nat)(X0 X1:aK)(L:List (List SV))(fl:Bool)(p:List SV→Bool)(hr:∀r∈L,r.length=5)(hm:L.length≤maxLen)
 (hc:∀r∈L,aa T n (.fn id) [.agg r,.ptr 1 0 0 0] ⟨[X0,X1],[],0⟩=some (.bool (p r),⟨[X0,X1],[],0⟩)) :
 aa T (n+2) (.fn 112) [.ay 5 L fl,.fn id [.ptr 1 0 0 0]] ⟨[X0,X1],[],0⟩=some (.bool (L.any p),⟨[X0,X1],[],0⟩):=by
 refine bm Vk (by rfl) ?_
 simp only[Lb,go_sem,simprocAttr,Ts n id X0 X1 L fl p hr hm hc,iE]
def MU(r:List SV):Wl:=match r with|[.int _ a,.int _ b,.int _ c,.int _ d,.int _ f]=>⟨a,b,c,d,f⟩|_=>⟨0,0,0,0,0⟩
theorem any_map'{A B:Type}(f:A→B)(p:B→Bool)(q:A→Bool)(h:∀a,p (f a)=q a)(l:List A):(l.map f).any p=l.any q:=by
 induction l with
 |nil=>rfl
 |cons a l ih=>simp only[abB,ael,h,ih]
def WU(r:List SV):Bool:=match r with|[.int _ a,.int _ b]=>!bW a b|_=>false
def Xk(r:List SV):Bool:=match r with|[.int _ a]=>!cO a|_=>false
def okB(n p w:Nat)(A B C:Bool)(ex no th:Int):Bool:=decide (2≤n)&&decide (n≤32)&&!A&&decide (p=n)&&!B&&decide (w≤32)&&!C&&(decide (ex=2)||decide (ex=4))&&mi th no
def eJ(N:List (Int×Int))(P:List Int)(W:List Wl)(ex no th:Int):Bool:=okB N.length P.length W.length (N.any (fun p=>!bW p.1 p.2)) (P.any (fun p=>!cO p)) (W.any jb) ex no th
def pa(N:List (Int×Int))(P:List Int)(W:List Wl)(ex no th:Int):Int:=bif eJ N P W ex no th then 0 else 1
theorem IY(n:Nat)(H:ae)(N P W f1 f2 f3 ex no th)(hN:N.length≤maxLen)(hP:P.length≤maxLen)(hW:W.length≤maxLen):aa T (n+6) (.fn 61) [st N P W f1 f2 f3 ex no th] H=some (aew (pa N P W ex no th),H):=by
 refine ab YR (by rfl) ?_
 have h38:=fun H=>QS (n+3) (id:=106) H (cW N) f1 WU ue (by simpa[cW]using hN) (fun r hr H=>by
  simp only[cW,acd]at hr;obtain⟨p,_,rfl⟩:=hr;exact GQ (n+1) H p.1 p.2)
 have h48:=fun H=>Rh (n+3) (id:=110) H (cM P) f2 Xk (fun r hr=>by simp only[cM,acd]at hr;obtain⟨p,_,rfl⟩:=hr;exact⟨_,rfl⟩) (by simpa[cM]using hP) (fun r hr H=>by
  simp only[cM,acd]at hr;obtain⟨p,_,rfl⟩:=hr;exact VQ (n+1) H p)
 have h50:=fun X0=>RQ (n+3) (id:=113) X0 (.box [.fn 106 []]) (ey W) f3 (fun r=>jb (MU r)) (fun r hr=>by simp only[ey,acd]at hr;obtain⟨p,_,rfl⟩:=hr;rfl) (by simpa[ey]using hW) (fun r hr=>by
  simp only[ey,acd]at hr;obtain⟨w,_,rfl⟩:=hr;exact RI n X0 w)
 have a38:(cW N).any WU=N.any (fun p=>!bW p.1 p.2):=any_map' _ _ _ (fun _=>rfl) N
 have a48:(cM P).any Xk=P.any (fun p=>!cO p):=any_map' _ _ _ (fun _=>rfl) P
 have a50:(ey W).any (fun r=>jb (MU r))=W.any jb:=any_map' _ _ _ (fun _=>rfl) W
 rw[a38]at h38
 rw[a48]at h48
 simp only[a50]at h50
 simp only[Yh,ah,go_sem,simprocAttr,h38]
 repeat' (with_reducible refine aA (fun _=>?_) (fun _=>?_)<;>simp only[*,go_sem,simprocAttr,h38,h48,h50])
 all_goals
  clear h38 h48 h50 a38 a48 a50
  refine congrArg some (congrArg (SV.int .i64) ?_)
  simp only[pa,eJ]
  generalize (N.any fun p=>!bW p.fst p.snd)=A at *
  generalize (P.any fun p=>!cO p)=B at *
  generalize W.any jb=C at *
  generalize N.length=ln at *
  generalize P.length=lp at *
  generalize W.length=lw at *
  generalize hq:okB ln lp lw A B C ex no th=q
  simp only[okB,mi]at hq
  cases q<;>simp only[abb,abc]<;>grind
theorem nN{A:Type}{q:A→Bool}{l:List A}{i:Nat}{a:A}(h:l[i]?=some a)(hp:q a=true):l.any q=true:=ab5.2 ⟨a,aa3 h,hp⟩
theorem xw{A:Type}{q:A→Bool}{l:List A}(h:∀(i:Nat) a,l[i]?=some a→q a=false):l.any q=false:=by
 rw[ab3]
 intro a ha
 obtain⟨i,hi⟩:=acG.1 ha
 rw[h i a hi];simp
theorem get_some{A:Type}{l:List A}{i:Nat}(h:i<l.length):∃a,l[i]?=some a:=⟨l[i],aa9 h⟩
theorem wx{N:List (Int×Int)}{P:List Int}{W:List Wl}{ex no th:Int}(h:eJ N P W ex no th=false):pa N P W ex no th=1:=by simp only[pa,h,abc]
theorem C9{N:List (Int×Int)}{P:List Int}{W:List Wl}{ex no th:Int}(h:eJ N P W ex no th=true):pa N P W ex no th=0:=by simp only[pa,h,abb]
theorem Ej{N:List (Int×Int)}{P:List Int}{W:List Wl}{ex no th:Int}{i:Nat}{p:Int×Int}(h:N[i]?=some p)(hp:bW p.1 p.2=false):eJ N P W ex no th=false:=by
 have:(N.any fun p=>!bW p.1 p.2)=true:=nN h (by simp[hp])
 simp only[eJ,this,okB,abJ,abt,abk]
theorem Eo{N:List (Int×Int)}{P:List Int}{W:List Wl}{ex no th:Int}{i:Nat}{p:Int}(h:P[i]?=some p)(hp:cO p=false):eJ N P W ex no th=false:=by
 have:(P.any fun p=>!cO p)=true:=nN h (by simp[hp])
 simp only[eJ,this,okB,abJ,abt,abk]
theorem Ew{N:List (Int×Int)}{P:List Int}{W:List Wl}{ex no th:Int}{i:Nat}{p:Wl}(h:W[i]?=some p)(hp:jb p=true):eJ N P W ex no th=false:=by
 have:W.any jb=true:=nN h hp
 simp only[eJ,this,okB,abJ,abt,abk]
theorem J7(n:Nat)(H:ae)(N P W f1 f2 f3 ex no th)(hW:W.length≤maxLen)(hN:N.length≤maxLen):aa T (n+6) (.fn 75) [st N P W f1 f2 f3 ex no th] H=some (aew (pa N P W ex no th),H):=by
 refine ab Yz (by rfl) ?_
 simp only[XH,ah,go_sem,simprocAttr,KW]
 repeat' (with_reducible refine aA (fun _=>?_) (fun _=>?_)<;>simp only[*,go_sem,simprocAttr,KW])
 all_goals try (
  with_reducible refine congrArg some (congrArg (SV.int .i64) ?_)
  simp only[pa,eJ]
  generalize (N.any fun p=>!bW p.fst p.snd)=A at *
  generalize (P.any fun p=>!cO p)=B at *
  generalize W.any jb=C at *
  generalize N.length=ln at *
  generalize P.length=lp at *
  generalize W.length=lw at *
  generalize hq:okB ln lp lw A B C ex no th=q
  simp only[okB,mi]at *
  cases q<;>simp only[abb,abc]<;>grind)
 all_goals
  refine aY (fun i=>([(1,.ptr 0 0 0 0),(3,aew N.length),(4,aew i)],⟨[.box [.ay 2 (cW N) f1,.ay 1 (cM P) f2,.ay 5 (ey W) f3,aew ex,aew no,aew th]],[],0⟩))
   (fun i=>∀(j:Nat),j<i→(∀p,N[j]?=some p→bW p.1 p.2=true)∧(∀p,P[j]?=some p→cO p=true)) N.length ?_ (fun j h=>by omega) ?_
  ·simp only[go_sem,simprocAttr]
   rfl
  ·intro i hi hI
   have hlen:P.length=N.length:=by simp_all;omega
   rcases aa4 i N.length with hlt|hge
   ·obtain⟨p,hp⟩:=get_some hlt
    obtain⟨q,hq⟩:=get_some (l:=P) (i:=i) (by omega)
    have hlt2:i<P.length:=by omega
    have hs:=kn hlt hN
    cases h1:bW p.1 p.2 with
    |false=>simp only[go_sem,simprocAttr,hlt,hp,nY,h1,wx (Ej hp h1)]
    |true=>
     cases h2:cO q with
     |false=>simp only[go_sem,simprocAttr,hlt,hlt2,hp,hq,nY,ti,h1,h2,wx (Eo hq h2)]
     |true=>
      simp only[go_sem,simprocAttr,hlt,hlt2,hp,hq,nY,ti,h1,h2,hs]
      refine⟨trivial,rfl,fun j hj=>?_⟩
      rcases aa4 j i with h3|h3
      ·exact hI j h3
      ·have:j=i:=by omega
       subst this
       exact⟨fun p' hp'=>by rw[hp]at hp';cases hp';exact h1,fun p' hp'=>by rw[hq]at hp';cases hp';exact h2⟩
   ·have hlt:¬i<N.length:=by omega
    simp only[go_sem,simprocAttr,hlt]
    refine aY (fun i=>([(1,.ptr 0 0 0 0),(5,aew i)],⟨[.box [.ay 2 (cW N) f1,.ay 1 (cM P) f2,.ay 5 (ey W) f3,aew ex,aew no,aew th]],[],0⟩))
     (fun i=>∀(j:Nat),j<i→(∀p,W[j]?=some p→jb p=false)) W.length ?_ (fun j h=>by omega) ?_
    ·simp only[go_sem,simprocAttr]
     rfl
    ·intro k hk hK
     rcases aa4 k W.length with hlt3|hge3
     ·obtain⟨w,hw⟩:=get_some hlt3
      have hs:=kn hlt3 hW
      cases h1:jb w with
      |true=>
       have hb:=h1
       simp only[jb]at hb
       have hch:=wx (N:=N) (P:=P) (ex:=ex) (no:=no) (th:=th) (Ew hw h1)
       simp only[go_sem,simprocAttr,hlt3,hw,nY,hch]
       repeat' (with_reducible refine kU (fun _=>?_) (fun _=>?_)<;>simp only[*,go_sem,simprocAttr,nY])
       all_goals (exfalso;simp_all)
      |false=>
       have hb:=h1
       simp only[jb,acq]at hb
       obtain⟨⟨⟨b1,b2⟩,b3⟩,b4⟩:=hb
       simp only[go_sem,simprocAttr,hlt3,hw,nY,b1,b2,b3,b4,hs]
       refine⟨trivial,rfl,fun j hj=>?_⟩
       rcases aa4 j k with h3|h3
       ·exact hK j h3
       ·have:j=k:=by omega
        subst this
        exact fun p' hp'=>by rw[hw]at hp';cases hp';exact h1
     ·have hlt3:¬k<W.length:=by omega
      have hA:(N.any fun p=>!bW p.1 p.2)=false:=xw (fun j p hj=>by
       have:=(hI j (by have:=(aaS.1 hj).1;omega)).1 p hj
       simp[this])
      have hB:(P.any fun p=>!cO p)=false:=xw (fun j p hj=>by
       have:=(hI j (by have:=(aaS.1 hj).1;omega)).2 p hj
       simp[this])
      have hC:W.any jb=false:=xw (fun j p hj=>hK j (by have:=(aaS.1 hj).1;omega) p hj)
      have hok:eJ N P W ex no th=true:=by
       simp only[eJ,hA,hB,hC,okB,mi]at *
       simp_all
       omega
      simp only[go_sem,simprocAttr,hlt3,C9 hok]
@[go_sem] theorem YN (N P W ex no th):decide (pa N P W ex no th=0)=eJ N P W ex no th:=by
  unfold pa;cases eJ N P W ex no th<;>rfl
def j0(a b p c d:Int):Bool:=bW a b&&bW c d&&cO p
def mv(v:Int)(ok arg:Bool):Int:=bif ok&&arg then v else 0
def tE(ok arg:Bool)(e:Int):Int:=bif ok then(bif arg then 0 else e)else 1
def nZ(N:List (Int×Int))(x y:Int):Bool:=decide (0≤x)&&decide (x<N.length)&&decide (0≤y)&&decide (y<N.length)
def nd(N:List (Int×Int))(i:Nat):Int×Int:=N.getD i (0,0)
def ri(at1:Int→Int→Int→Int→Int→Int)(N:List (Int×Int))(P:List Int)(x y:Int):Int:=
 bif decide (x=y)then 0 else at1 (nd N x.toNat).1 (nd N x.toNat).2 (P.getD x.toNat 0) (nd N y.toNat).1 (nd N y.toNat).2
theorem wo{N:List (Int×Int)}{P:List Int}{W:List Wl}{ex no th:Int}(h:eJ N P W ex no th=true):P.length=N.length∧N.length≤32∧W.length≤32∧2≤N.length:=by
 simp only[eJ,okB,aa1,aaX]at h
 omega
theorem kS{N:List (Int×Int)}{x y:Int}:nZ N x y=true↔(0≤x∧x<N.length)∧0≤y∧y<N.length:=by
 simp only[nZ,aa1,aaX,and_assoc]
theorem iw{p:Int}:cO p=true↔0≤p∧p≤68719476736:=by simp only[cO,aa1,aaX]
theorem AR{p m:Int}(hp:cO p=true)(hm:100≤m):cO (bj ((bj (p*100)).tdiv m))=true∧bj ((bj (p*100)).tdiv m)=p*100/m:=by
 rw[iw]at hp
 have e1:bj (p*100)=p*100:=ax (by omega) (by omega)
 have e2:(p*100).tdiv m=p*100/m:=acJ (by omega)
 have h0:0≤p*100/m:=Int.ediv_nonneg (by omega) (by omega)
 have h1:p*100/m≤p:=Int.ediv_le_of_le_mul (by omega) (acD hm hp.1)
 have e3:bj (p*100/m)=p*100/m:=ax (by omega) (by omega)
 rw[e1,e2,e3]
 exact⟨iw.2 (by omega),rfl⟩
theorem Fz(a b c d:Int):100≤mI a b c d:=Int.le_max_right _ _
theorem yR{ex a b p c d:Int}(hp:cO p=true):cO (kc ex a b p c d)=true:=by
 have h1:=(AR hp (Fz a b c d)).1
 have h2:=(AR h1 (Fz a b c d)).1
 simp only[kc]
 split
 ·exact h2
 ·exact h1
theorem BZ{p f:Int}(hp:cO p=true)(h0:0≤f)(h1:f≤1000):bj ((bj (p*f)).tdiv 1000)=p*f/1000∧0≤p*f/1000∧p*f/1000≤p:=by
 rw[iw]at hp
 have k0:0≤p*f:=aeh hp.1 h0
 have k1:p*f≤p*1000:=acD h1 hp.1
 have e1:bj (p*f)=p*f:=ax (by omega) (by omega)
 rw[e1,acJ k0]
 have e3:bj (p*f/1000)=p*f/1000:=ax (by omega) (by omega)
 rw[e3]
 omega
theorem Cv{w:Wl}:jb w=false↔bW w.a w.b=true∧bW w.c w.d=true∧0≤w.f∧w.f≤1000:=by
 simp only[jb,acq,Bool.not_eq_false',aa0,and_assoc,Int.not_lt]
theorem eu{a b:Int}(h:bW a b=true):jN a∧jN b:=by
 simp only[bW,aa1,aaX]at h
 unfold jN
 omega
theorem step_eq{a b c d p:Int}{w:Wl}(h1:bW a b=true)(h2:bW c d=true)(hp:cO p=true)(hw:jb w=false):lD a b c d p w=iF a b c d p w∧cO (iF a b c d p w)=true∧iF a b c d p w≤p:=by
 obtain⟨k1,k2,k3,k4⟩:=Cv.1 hw
 have hc:=zW (eu h1).1 (eu h1).2 (eu h2).1 (eu h2).2 (eu k1).1 (eu k1).2 (eu k2).1 (eu k2).2
 have hs:=BZ hp k3 k4
 have hok:xi p w.f=true:=by simp only[xi,hp,abo,aa1,aaX];exact⟨k3,k4⟩
 unfold lD iF
 rw[hc]
 split
 ·simp only[HF,hok,if_true]
  rw[hs.1]
  rw[iw]at hp⊢
  exact⟨trivial,by omega,by omega⟩
 ·exact⟨rfl,hp,adV _⟩
theorem fold_eq{a b c d:Int}(h1:bW a b=true)(h2:bW c d=true):∀(W:List Wl) (p:Int),cO p=true→W.any jb=false→W.foldl (lD a b c d) p=W.foldl (iF a b c d) p∧cO (W.foldl (iF a b c d) p)=true∧W.foldl (iF a b c d) p≤p
 |[],p,hp,_=>⟨rfl,hp,adV _⟩
 |w::W,p,hp,hW=>by
  simp only[ael,acq]at hW
  obtain⟨e1,e2,e3⟩:=step_eq h1 h2 hp hW.1
  obtain⟨f1,f2,f3⟩:=fold_eq h1 h2 W _ e2 hW.2
  simp only[ab1,e1]
  exact⟨f1,f2,by omega⟩
theorem uX{N:List (Int×Int)}{P:List Int}{W:List Wl}{ex no th:Int}(h:eJ N P W ex no th=true):W.any jb=false∧(∀p∈N,bW p.1 p.2=true)∧(∀p∈P,cO p=true):=by
 simp only[eJ,okB,aa1,abx]at h
 obtain⟨⟨⟨⟨⟨⟨⟨⟨_,_⟩,h1⟩,_⟩,h2⟩,_⟩,h3⟩,_⟩,_⟩:=h
 refine⟨h3,fun p hp=>?_,fun p hp=>?_⟩
 ·have:=ab3.1 h1 p hp;simpa using this
 ·have:=ab3.1 h2 p hp;simpa using this
theorem BI{N:List (Int×Int)}{P:List Int}{W:List Wl}{ex no th a b p c d:Int}(h:eJ N P W ex no th=true)(ha:j0 a b p c d=true):zQ W ex a b p c d=atR W ex a b p c d∧cO (atR W ex a b p c d)=true:=by
 simp only[j0,aa1]at ha
 obtain⟨⟨h1,h2⟩,h3⟩:=ha
 have:=fold_eq h1 h2 W _ (yR (ex:=ex) (a:=a) (b:=b) (c:=c) (d:=d) h3) (uX h).1
 exact⟨this.1,this.2.1⟩
theorem HT(N:List (Int×Int))(P:List Int)(W:List Wl)(ex no th a b p c d:Int):mv (zQ W ex a b p c d) (eJ N P W ex no th) (j0 a b p c d)=mv (atR W ex a b p c d) (eJ N P W ex no th) (j0 a b p c d):=by
 cases h:eJ N P W ex no th with
 |false=>rfl
 |true=>
  cases h':j0 a b p c d with
  |false=>rfl
  |true=>simp only[mv,abo,abb,(BI h h').1]
theorem wK{N:List (Int×Int)}{P:List Int}{W:List Wl}{ex no th x y:Int}(h:eJ N P W ex no th=true)(hin:nZ N x y=true):ri (zQ W ex) N P x y=ri (atR W ex) N P x y∧cO (ri (atR W ex) N P x y)=true:=by
 have hl:=(wo h).1
 have hw:=uX h
 rw[kS]at hin
 obtain⟨p,hp⟩:=get_some (l:=N) (i:=x.toNat) (by omega)
 obtain⟨q,hq⟩:=get_some (l:=N) (i:=y.toNat) (by omega)
 obtain⟨r,hr⟩:=get_some (l:=P) (i:=x.toNat) (by omega)
 have harg:j0 p.1 p.2 r q.1 q.2=true:=by
  simp only[j0,aa1]
  exact⟨⟨hw.2.1 _ (aa3 hp),hw.2.1 _ (aa3 hq)⟩,hw.2.2 _ (aa3 hr)⟩
 have he:=BI h harg
 simp only[ri,nd,abA,hp,hq,hr,acj]
 cases decide (x=y)with
 |true=>exact⟨rfl,rfl⟩
 |false=>exact he
theorem HS(N:List (Int×Int))(P:List Int)(W:List Wl)(ex no th x y:Int):mv (ri (zQ W ex) N P x y) (eJ N P W ex no th) (nZ N x y)=mv (ri (atR W ex) N P x y) (eJ N P W ex no th) (nZ N x y):=by
 cases h:eJ N P W ex no th with
 |false=>rfl
 |true=>
  cases h':nZ N x y with
  |false=>rfl
  |true=>simp only[mv,abo,abb,(wK h h').1]
end G
namespace U
theorem PE:T 158=some (kR true 7):=U2
theorem Xc:T 160=some (kR true 6):=RO
theorem XU:T 114=some (uL 158):=Rw
theorem O2:T 117=some (uL 160):=Vw
def bP(c:Int):Bool:=decide (0≤c)&&decide (c<16)
theorem vN(n:Nat)(H:ae)(c:Int):aa T (n+1) (.fn 159) [aew c] H=some (.bool (bP c),H):=by
 refine ab Sc (by rfl) ?_
 simp only[MD,ah,go_sem,simprocAttr]
 repeat' (with_reducible refine aA (fun _=>?_) (fun _=>?_)<;>simp only[*,go_sem,simprocAttr])
 all_goals (simp only[bP];refine congrArg some (congrArg SV.bool ?_);rw[abG];grind)
theorem FW(n:Nat)(H:ae)(c:Int):aa T (n+1) (.fn 98) [aew c] H=some (.bool (bP c),H):=by
 refine ab Yl (by rfl) ?_
 simp only[WO,ah,go_sem,simprocAttr]
 repeat' (with_reducible refine aA (fun _=>?_) (fun _=>?_)<;>simp only[*,go_sem,simprocAttr])
 all_goals (simp only[bP];refine congrArg some (congrArg SV.bool ?_);rw[abG];grind)
def Hg(c:Int):Bool:=decide (0≤c)&&decide (c<32)
theorem No(n:Nat)(H:ae)(c:Int):aa T (n+1) (.fn 162) [aew c] H=some (.bool (Hg c),H):=by
 refine ab WC (by rfl) ?_
 simp only[JA,ah,go_sem,simprocAttr]
 repeat' (with_reducible refine aA (fun _=>?_) (fun _=>?_)<;>simp only[*,go_sem,simprocAttr])
 all_goals (simp only[Hg];refine congrArg some (congrArg SV.bool ?_);rw[abG];grind)
def uc(c:Int):Bool:=decide (-1≤c)&&decide (c<32)
theorem JI(n:Nat)(H:ae)(c:Int):aa T (n+2) (.fn 161) [aew c] H=some (.bool (uc c),H):=by
 refine ab TT (by rfl) ?_
 simp only[NS,ah,go_sem,simprocAttr,No]
 repeat' (with_reducible refine aA (fun _=>?_) (fun _=>?_)<;>simp only[*,go_sem,simprocAttr,No])
 all_goals (simp only[uc,Hg];refine congrArg some (congrArg SV.bool ?_);rw[abG];grind)
def mH(a b:Int):Bool:=decide (0≤a)&&decide (a≤b)&&decide (b≤1099511627776)
theorem Ey(n:Nat)(H:ae)(a b:Int):aa T (n+1) (.fn 163) [aew a,aew b] H=some (.bool (mH a b),H):=by
 refine ab Vl (by rfl) ?_
 simp only[Jw,ah,go_sem,simprocAttr]
 repeat' (with_reducible refine aA (fun _=>?_) (fun _=>?_)<;>simp only[*,go_sem,simprocAttr])
 all_goals (simp only[mH];grind)
theorem FJ(n:Nat)(H:ae)(a b:Int):aa T (n+1) (.fn 99) [aew a,aew b] H=some (.bool (mH a b),H):=by
 refine ab YF (by rfl) ?_
 simp only[WY,ah,go_sem,simprocAttr]
 repeat' (with_reducible refine aA (fun _=>?_) (fun _=>?_)<;>simp only[*,go_sem,simprocAttr])
 all_goals (simp only[mH];grind)
abbrev pt(a b:Int):SV:=.agg [aew a,aew b]
def bW(a b:Int):Bool:=decide (0≤a)&&decide (a≤10000)&&decide (0≤b)&&decide (b≤10000)
theorem nY(n:Nat)(H:ae)(a b:Int):aa T (n+1) (.fn 129) [pt a b] H=some (.bool (bW a b),H):=by
 refine ab Lw (by rfl) ?_
 simp only[HO,ah,go_sem,simprocAttr]
 repeat' (with_reducible refine aA (fun _=>?_) (fun _=>?_)<;>simp only[*,go_sem,simprocAttr])
 all_goals (simp only[bW];grind)
def cO(n:Int):Bool:=decide (0≤n)&&decide (n≤68719476736)
theorem ti(n:Nat)(H:ae)(a:Int):aa T (n+1) (.fn 130) [aew a] H=some (.bool (cO a),H):=by
 refine ab KT (by rfl) ?_
 simp only[Hj,ah,go_sem,simprocAttr]
 repeat' (with_reducible refine aA (fun _=>?_) (fun _=>?_)<;>simp only[*,go_sem,simprocAttr])
 all_goals (simp only[cO];grind)
structure Fd where
 a:Int
 b:Int
 c:Int
 x:Int
 y:Int
 f:Int
abbrev Dy(w:Fd):List SV:=[aew w.a,aew w.b,aew w.c,aew w.x,aew w.y,aew w.f]
def rF(w:Fd):Bool:=uc w.a&&uc w.b&&(decide (w.c= -1)||bP w.c)&&mH w.x w.y&&decide (0≤w.f)&&decide (w.f≤1000)
theorem Q1(n:Nat)(H:ae)(w:Fd):aa T (n+3) (.fn 119) [.agg (Dy w)] H=some (.bool (rF w),H):=by
 refine ab Ru (by rfl) ?_
 simp only[Km,ah,go_sem,simprocAttr,JI,vN,Ey]
 repeat' (with_reducible refine aA (fun _=>?_) (fun _=>?_)<;>simp only[*,go_sem,simprocAttr,JI,vN,Ey])
 all_goals (simp only[rF];grind)
theorem UP(n:Nat)(H:ae)(w:Fd):aa T (n+2) (.fn 132) [.agg (Dy w)] H=some (.bool (rF w),H):=by
 refine ab T7 (by rfl) ?_
 simp only[Kq,ah,go_sem,simprocAttr,FJ]
 repeat' (with_reducible refine aA (fun _=>?_) (fun _=>?_)<;>simp only[*,go_sem,simprocAttr,FJ])
 all_goals (simp only[rF,uc,bP];refine congrArg some (congrArg SV.bool ?_);rw[abG];grind)
theorem MI(n:Nat)(H:ae)(w:Fd):aa T (n+4) (.fn 118) [.agg (Dy w)] H=some (.bool (!rF w),H):=by
 refine ab Wu (by rfl) ?_
 simp only[JJ,ah,go_sem,simprocAttr,Q1]
structure Src where
 a:Int
 b:Int
 p:Int
 C:List Int
 f:Bool
 fU:Int
 fr:Int
 to:Int
abbrev zX(s:Src):List SV:=[aew s.a,aew s.b,aew s.p,.ay 1 (iS s.C) s.f,aew s.fU,aew s.fr,aew s.to]
def dU(C:List Int)(i:Nat):Bool:=match C[i]? with
 |some c=>!bP c||(decide (0<(i:Int))&&match C[i-1]? with|some d=>decide (c≤d)|none=>false)
 |none=>false
theorem ql{C:List Int}{i:Nat}{c:Int}(h:C[i]?=some c)(hz:decide (0<(i:Int))=false):dU C i=!bP c:=by simp only[dU,h,hz,abk,aci]
theorem rz{C:List Int}{i k:Nat}{c d:Int}(h:C[i]?=some c)(hi:i=k+1)(hd:C[k]?=some d):dU C i=(!bP c||decide (c≤d)):=by
 have h1:decide (0<(i:Int))=true:=aaV (by omega)
 have h2:i-1=k:=by omega
 simp only[dU,h,h1,h2,hd,abo]
def wN(C:List Int):Bool:=!((List.range C.length).any (dU C))
theorem kL{C:List Int}{i:Nat}{c:Int}(h:C[i]?=some c)(hb:dU C i=true):wN C=false:=by
 have:(List.range C.length).any (dU C)=true:=ab5.2 ⟨i,abr.2 (aaS.1 h).1,hb⟩
 simp[wN,this]
theorem uA{C:List Int}(h:∀j,j<C.length→dU C j=false):wN C=true:=by
 have:(List.range C.length).any (dU C)=false:=by
  rw[ab3]
  intro j hj
  rw[h j (abr.1 hj)];simp
 simp[wN,this]
def rf(fU fr to:Int):Bool:=decide (0≤fr)&&decide (fr≤to)&&decide (to≤fU)&&decide (1≤fU)&&decide (fU≤1000000000)
def n7(s:Src):Bool:=bW s.a s.b&&cO s.p&&wN s.C&&rf s.fU s.fr s.to
theorem kO{s:Src}(h:wN s.C=false):n7 s=false:=by simp[n7,h]
theorem BK{s:Src}(h:(bW s.a s.b&&cO s.p)=false):n7 s=false:=by simp[n7,h]
theorem xJ{s:Src}(h:(bW s.a s.b&&cO s.p)=true)(hc:wN s.C=true):n7 s=rf s.fU s.fr s.to:=by simp[n7,h,hc]
theorem Rv(n:Nat)(H:ae)(s:Src)(hC:s.C.length≤maxLen):aa T (n+2) (.fn 116) [.agg (zX s)] H=some (.bool (n7 s),H):=by
 refine ab UZ (by rfl) ?_
 simp only[M4,ah,go_sem,simprocAttr]
 repeat' (with_reducible refine aA (fun _=>?_) (fun _=>?_)<;>simp only[*,go_sem,simprocAttr])
 all_goals try (
  with_reducible refine congrArg some (congrArg SV.bool ?_)
  rw[BK (by rw[adW];simp only[bW,cO,ne_eq,aa1,aaX];grind)]
  done)
 have hpp:(bW s.a s.b&&cO s.p)=true:=by
  simp only[bW,cO,aa1,aaX];grind
 refine aY (fun i=>([(1,.ptr 0 0 0 0),(34,.ay 1 (iS s.C) s.f),(35,aew s.C.length),(36,aew i)],⟨[.box (zX s)],[],0⟩)) (fun i=>∀(j:Nat),j<i→dU s.C j=false) s.C.length ?_ (fun j h=>by omega) ?_
 ·simp only[go_sem,simprocAttr]<;>rfl
 ·intro i hi hP
  rcases aa4 i s.C.length with hlt|hge
  ·obtain⟨c,hc⟩:=bF hlt
   have hw:=br hlt hC
   have hgo:dU s.C i=false→∀j,j<i+1→dU s.C j=false:=fun hb j hj=>by
    rcases aa4 j i with h3|h3
    ·exact hP j h3
    ·have:j=i:=by omega
     subst this
     exact hb
   cases hz:decide (0<(i:Int))with
   |false=>
    have hb:=ql hc hz
    cases hx:bP c with
    |false=>
     simp only[go_sem,simprocAttr,hlt,hc,vN,hx]
     rw[kO (kL hc (by rw[hb,hx];rfl))]
    |true=>
     simp only[go_sem,simprocAttr,hlt,hc,vN,hx,hw,hz]
     refine⟨by first|trivial|omega,by first|trivial|rfl,?_⟩
     exact hgo (by rw[hb,hx];rfl)
   |true=>
    obtain⟨k,hk⟩:∃k,i=k+1:=⟨i-1,by have:=abC hz;omega⟩
    have hkl:k<s.C.length:=by omega
    obtain⟨d,hd⟩:=bF hkl
    have hb:=rz hc hk hd
    have hsub:bj ((i:Int)-1)=(k:Int):=by
     have:((i:Int)-1)=((k:Nat):Int):=by omega
     rw[this];exact ax (by omega) (by simp only[maxLen]at hC;omega)
    cases hx:bP c with
    |false=>
     simp only[go_sem,simprocAttr,hlt,hc,vN,hx]
     rw[kO (kL hc (by rw[hb,hx];rfl))]
    |true=>
     simp only[go_sem,simprocAttr,hlt,hc,vN,hx,hw,hsub,hz,hd,hkl]
     cases hm:decide (c≤d)with
     |true=>
      simp only[go_sem,simprocAttr]
      rw[kO (kL hc (by rw[hb,hm];simp))]
     |false=>
      simp only[go_sem,simprocAttr,hw]
      refine⟨by first|trivial|omega,by first|trivial|rfl,?_⟩
      exact hgo (by rw[hb,hx,hm];rfl)
  ·have hlt:¬i<s.C.length:=by omega
   have hd:=uA (C:=s.C) (fun j hj=>hP j (by omega))
   rw[xJ hpp hd]
   simp only[go_sem,simprocAttr,hlt]
   repeat' (with_reducible refine aA (fun _=>?_) (fun _=>?_)<;>simp only[*,go_sem,simprocAttr])
   all_goals (simp only[rf];refine congrArg some (congrArg SV.bool ?_);rw[abG];grind)
theorem MC(n:Nat)(H:ae)(s:Src)(hC:s.C.length≤maxLen):aa T (n+2) (.fn 131) [.agg (zX s)] H=some (.bool (n7 s),H):=by
 refine ab RJ (by rfl) ?_
 simp only[Js,ah,go_sem,simprocAttr]
 refine aY (fun i=>([(1,.ptr 0 0 0 0),(3,aew i)],⟨[.box (zX s)],[],0⟩)) (fun i=>∀(j:Nat),j<i→dU s.C j=false) s.C.length ?_ (fun j h=>by omega) ?_
 ·simp only[go_sem,simprocAttr]<;>rfl
 ·intro i hi hP
  rcases aa4 i s.C.length with hlt|hge
  ·obtain⟨c,hc⟩:=bF hlt
   have hw:=br hlt hC
   have hgo:dU s.C i=false→∀j,j<i+1→dU s.C j=false:=fun hb j hj=>by
    rcases aa4 j i with h3|h3
    ·exact hP j h3
    ·have:j=i:=by omega
     subst this
     exact hb
   cases hz:decide (0<(i:Int))with
   |false=>
    have hb:=ql hc hz
    cases hx:bP c with
    |false=>
     simp only[go_sem,simprocAttr,hlt,hc,FW,hx]
     rw[kO (kL hc (by rw[hb,hx];rfl))]
    |true=>
     simp only[go_sem,simprocAttr,hlt,hc,FW,hx,hw,hz]
     refine⟨by first|trivial|omega,by first|trivial|rfl,?_⟩
     exact hgo (by rw[hb,hx];rfl)
   |true=>
    obtain⟨k,hk⟩:∃k,i=k+1:=⟨i-1,by have:=abC hz;omega⟩
    have hkl:k<s.C.length:=by omega
    obtain⟨d,hd⟩:=bF hkl
    have hb:=rz hc hk hd
    have hsub:bj ((i:Int)-1)=(k:Int):=by
     have:((i:Int)-1)=((k:Nat):Int):=by omega
     rw[this];exact ax (by omega) (by simp only[maxLen]at hC;omega)
    cases hx:bP c with
    |false=>
     simp only[go_sem,simprocAttr,hlt,hc,FW,hx]
     rw[kO (kL hc (by rw[hb,hx];rfl))]
    |true=>
     simp only[go_sem,simprocAttr,hlt,hc,FW,hx,hw,hsub,hz,hd,hkl]
     cases hm:decide (c≤d)with
     |true=>
      simp only[go_sem,simprocAttr]
      rw[kO (kL hc (by rw[hb,hm];simp))]
     |false=>
      simp only[go_sem,simprocAttr,hw]
      refine⟨by first|trivial|omega,by first|trivial|rfl,?_⟩
      exact hgo (by rw[hb,hx,hm];rfl)
  ·have hlt:¬i<s.C.length:=by omega
   have hd:=uA (C:=s.C) (fun j hj=>hP j (by omega))
   simp only[go_sem,simprocAttr,hlt,nY,ti]
   cases hpp:(bW s.a s.b&&cO s.p)with
   |true=>
    rw[xJ hpp hd]
    rw[aa1]at hpp
    simp only[go_sem,simprocAttr,nY,ti,hpp.1,hpp.2]
    repeat' (with_reducible refine aA (fun _=>?_) (fun _=>?_)<;>simp only[*,go_sem,simprocAttr,nY,ti])
    all_goals (simp only[rf];refine congrArg some (congrArg SV.bool ?_);rw[abG];grind)
   |false=>
    rw[BK hpp]
    repeat' (with_reducible refine aA (fun _=>?_) (fun _=>?_)<;>simp only[*,go_sem,simprocAttr,nY,ti])
    all_goals (rw[acH]at hpp;grind)
theorem Ly(n:Nat)(H:ae)(s:Src)(hC:s.C.length≤maxLen):aa T (n+3) (.fn 115) [.agg (zX s)] H=some (.bool (!n7 s),H):=by
 have h:=fun H=>Rv n H s hC
 refine ab Rm (by rfl) ?_
 simp only[LZ,ah,go_sem,simprocAttr,h]
def Fp(s:Src)(x y:Int):Bool:=
 if x=y∨s.fr=s.to then false else
 (decide (x%s.fU<s.to)&&decide (s.fr<x%s.fU+y-x))||decide (s.fr+s.fU<x%s.fU+y-x)
def Jd(s:Src)(x y:Int):Bool:=n7 s&&mH x y&&Fp s x y
theorem xZ{s:Src}(h:n7 s=true):rf s.fU s.fr s.to=true:=by
 simp only[n7,aa1]at h;exact h.2
def c0(L:List Src):List (List SV):=L.map zX
def cZ(L:List Fd):List (List SV):=L.map Dy
@[go_sem] theorem Jy {L:List Src}:(c0 L).length=L.length:=by simp[c0]
@[go_sem] theorem N8 {L:List Fd}:(cZ L).length=L.length:=by simp[cZ]
@[go_sem] theorem JQ {L:List Src}{i:Nat}:(c0 L)[i]?=(L[i]?).map zX:=by simp[c0]
@[go_sem] theorem My {L:List Fd}{i:Nat}:(cZ L)[i]?=(L[i]?).map Dy:=by simp[cZ]
theorem yz{L:List Src}:∀r∈c0 L,r.length=7:=by
 intro r hr
 simp only[c0,acd]at hr
 obtain⟨h,_,rfl⟩:=hr
 rfl
theorem xX{L:List Fd}:∀r∈cZ L,r.length=6:=by
 intro r hr
 simp only[cZ,acd]at hr
 obtain⟨h,_,rfl⟩:=hr
 rfl
def toSr(r:List SV):Src:=match r with
 |[.int _ a,.int _ b,.int _ p,.ay _ L f,.int _ fU,.int _ fr,.int _ to]=>⟨a,b,p,L.map (fun c=>match c with|[.int _ x]=>x|_=>0),f,fU,fr,to⟩
 |_=>⟨0,0,0,[],true,0,0,0⟩
theorem toSr_of(s:Src):toSr (zX s)=s:=by
 obtain⟨a,b,p,C,f,fU,fr,to⟩:=s
 simp[toSr,iS,Function.comp_def]
def toFd(r:List SV):Fd:=match r with
 |[.int _ a,.int _ b,.int _ c,.int _ x,.int _ y,.int _ f]=>⟨a,b,c,x,y,f⟩
 |_=>⟨0,0,0,0,0,0⟩
theorem toFd_of(w:Fd):toFd (Dy w)=w:=rfl
theorem As(p:Src→Bool)(L:List Src):(c0 L).any (fun r=>p (toSr r))=L.any p:=by
 simp only[c0,List.any_map]
 congr 1
 funext h
 exact congrArg p (toSr_of h)
theorem zR(p:Fd→Bool)(L:List Fd):(cZ L).any (fun r=>p (toFd r))=L.any p:=by
 simp only[cZ,List.any_map]
 rfl
abbrev sp(S:List Src)(f1:Bool)(F:List Fd)(f2:Bool):SV:=.agg [.ay 7 (c0 S) f1,.ay 6 (cZ F) f2]
def tZ(S:List Src):Prop:=S.length≤maxLen∧∀s∈S,s.C.length≤maxLen
def ji(S:List Src)(F:List Fd):Bool:=decide (S.length≤16)&&decide (F.length≤64)&&!S.any (fun s=>!n7 s)&&!F.any (fun w=>!rF w)
def ck(S:List Src)(F:List Fd):Int:=bif ji S F then 0 else 1
theorem Qp(n:Nat)(H:ae)(S F f1 f2)(z2:Nat)(hz:z2=6∨F=[])(hS:tZ S)(hF:F.length≤maxLen):aa T (n+7) (.fn 62) [.agg [.ay 7 (c0 S) f1,.ay z2 (cZ F) f2]] H=some (aew (ck S F),H):=by
 refine ab WW (by rfl) ?_
 have h33:=fun H=>jS (T:=T) (f:=114) (n:=n+4) (H:=H) (ag:=true) (z:=7) (id:=115) (caps:=[]) (v:=.ay 7 (c0 S) f1) (L:=c0 S) (p:=fun r=>!n7 (toSr r)) XU PE (.ay 7 f1 (.inl rfl)) yz (fun h=>by cases h) (by simpa[c0]using hS.1)
  (fun r hr bl ro _=>by
   simp only[c0,acd]at hr
   obtain⟨h,hh,rfl⟩:=hr
   simp only[toSr_of]
   exact Ly (n+1) ⟨bl,[],ro⟩ h (hS.2 h hh)) (by simp[SV.refs.aJ])
 rw[As (fun s=>!n7 s)]at h33
 have h36:=fun H=>jS (T:=T) (f:=117) (n:=n+4) (H:=H) (ag:=true) (z:=6) (id:=118) (caps:=[]) (v:=.ay z2 (cZ F) f2) (L:=cZ F) (p:=fun r=>!rF (toFd r)) O2 Xc (.ay z2 f2 (hz.imp id (by rintro rfl;rfl))) xX (fun h=>by cases h) (by simpa[cZ]using hF)
  (fun r hr bl ro _=>by
   simp only[cZ,acd]at hr
   obtain⟨h,hh,rfl⟩:=hr
   simp only[toFd_of]
   exact MI n ⟨bl,[],ro⟩ h) (by simp[SV.refs.aJ])
 rw[zR (fun s=>!rF s)]at h36
 simp only[UN,ah,go_sem,simprocAttr]
 repeat' (with_reducible refine aA (fun _=>?_) (fun _=>?_)<;>simp only[*,go_sem,simprocAttr,h33,h36])
 all_goals
  clear h33 h36
  refine congrArg some (congrArg (SV.int .i64) ?_)
  simp only[ck,ji]
  generalize (S.any fun s=>!n7 s)=A at *
  generalize (F.any fun s=>!rF s)=B at *
  generalize S.length=ls at *
  generalize F.length=lf at *
  cases A<;>cases B<;>simp only[abJ,acb,acy,abt,abc,aep,aa1,aaX]<;>grind
theorem XP(n:Nat)(H:ae)(S F f1 f2)(hS:tZ S)(hF:F.length≤maxLen):aa T (n+7) (.fn 62) [sp S f1 F f2] H=some (aew (ck S F),H):=Qp n H S F f1 f2 6 (.inl rfl) hS hF
theorem VB{S:List Src}{F:List Fd}{i:Nat}{s:Src}(h:S[i]?=some s)(hb:n7 s=false):ck S F=1:=by
 have:S.any (fun s=>!n7 s)=true:=ab5.2 ⟨s,aa3 h,by simp[hb]⟩
 simp only[ck,ji,this,abJ,abt,abk,abc]
theorem TN{S:List Src}{F:List Fd}{i:Nat}{s:Fd}(h:F[i]?=some s)(hb:rF s=false):ck S F=1:=by
 have:F.any (fun s=>!rF s)=true:=ab5.2 ⟨s,aa3 h,by simp[hb]⟩
 simp only[ck,ji,this,abJ,abt,abk,abc]
theorem Mw{S:List Src}{F:List Fd}(h1:S.length≤16)(h2:F.length≤64)(hS:∀(j:Nat) s,S[j]?=some s→n7 s=true)(hF:∀(j:Nat) s,F[j]?=some s→rF s=true):ck S F=0:=by
 have a:S.any (fun s=>!n7 s)=false:=by
  rw[ab3];intro s hs
  obtain⟨j,hj⟩:=acG.1 hs
  simp[hS j s hj]
 have b:F.any (fun s=>!rF s)=false:=by
  rw[ab3];intro s hs
  obtain⟨j,hj⟩:=acG.1 hs
  simp[hF j s hj]
 simp only[ck,ji,a,b,h1,h2,ace,acb,acy,abb]
theorem Vo(n:Nat)(H:ae)(S F f1 f2)(hS:tZ S)(hF:F.length≤maxLen):aa T (n+3) (.fn 76) [sp S f1 F f2] H=some (aew (ck S F),H):=by
 refine ab Yo (by rfl) ?_
 simp only[Xs,ah,go_sem,simprocAttr]
 repeat' (with_reducible refine aA (fun _=>?_) (fun _=>?_)<;>simp only[*,go_sem,simprocAttr])
 all_goals try (
  with_reducible refine congrArg some (congrArg (SV.int .i64) ?_)
  simp only[ck,ji,aep,aa1,aaX]
  simp only[aaX]at *
  rw[if_neg (by omega)]
  done)
 have hl1:S.length≤16:=by simp only[aa0]at *;omega
 have hl2:F.length≤64:=by simp only[aa0]at *;omega
 refine aY (fun i=>([(1,.ptr 0 0 0 0),(3,aew i)],⟨[.box [.ay 7 (c0 S) f1,.ay 6 (cZ F) f2]],[],0⟩)) (fun i=>∀(j:Nat) s,j<i→S[j]?=some s→n7 s=true) S.length ?_ (fun j s h=>by omega) ?_
 ·simp only[go_sem,simprocAttr]<;>rfl
 ·intro i hi hP
  rcases aa4 i S.length with hlt|hge
  ·obtain⟨s,hs⟩:=bF hlt
   have hw:=br hlt hS.1
   have h39:=fun H=>MC n H s (hS.2 s (aa3 hs))
   cases hb:n7 s with
   |false=>simp only[go_sem,simprocAttr,hlt,hs,h39,hb,VB hs hb]
   |true=>
    simp only[go_sem,simprocAttr,hlt,hs,h39,hb,hw]
    refine⟨by first|trivial|omega,by first|trivial|rfl,?_⟩
    intro j s' hj hs'
    rcases aa4 j i with h3|h3
    ·exact hP j s' h3 hs'
    ·have:j=i:=by omega
     subst this
     rw[hs]at hs';cases hs'
     exact hb
  ·have hlt:¬i<S.length:=by omega
   simp only[go_sem,simprocAttr,hlt]
   refine aY (fun i=>([(1,.ptr 0 0 0 0),(4,aew i)],⟨[.box [.ay 7 (c0 S) f1,.ay 6 (cZ F) f2]],[],0⟩)) (fun i=>∀(j:Nat) s,j<i→F[j]?=some s→rF s=true) F.length ?_ (fun j s h=>by omega) ?_
   ·simp only[go_sem,simprocAttr]<;>rfl
   ·intro k hk hK
    rcases aa4 k F.length with hlt3|hge3
    ·obtain⟨s,hs⟩:=bF hlt3
     have hw:=br hlt3 hF
     have h40:=fun H=>UP n H s
     cases hb:rF s with
     |false=>simp only[go_sem,simprocAttr,hlt3,hs,h40,hb,TN hs hb]
     |true=>
      simp only[go_sem,simprocAttr,hlt3,hs,h40,hb,hw]
      refine⟨by first|trivial|omega,by first|trivial|rfl,?_⟩
      intro j s' hj hs'
      rcases aa4 j k with h3|h3
      ·exact hK j s' h3 hs'
      ·have:j=k:=by omega
       subst this
       rw[hs]at hs';cases hs'
       exact hb
    ·have hlt3:¬k<F.length:=by omega
     have hck:=Mw hl1 hl2 (fun j s hj=>hP j s (by have:=(aaS.1 hj).1;omega) hj) (fun j s hj=>hK j s (by have:=(aaS.1 hj).1;omega) hj)
     simp only[go_sem,simprocAttr,hlt3,hck]
def tN(S:List Src)(F:List Fd):Bool:=decide (S.length≤20)&&decide (F.length≤70)&&!S.any (fun s=>decide (20<s.C.length))
theorem HD{S:List Src}{F:List Fd}{i:Nat}{s:Src}(h:S[i]?=some s)(hb:20<s.C.length):tN S F=false:=by
 have:S.any (fun s=>decide (20<s.C.length))=true:=ab5.2 ⟨s,aa3 h,by simp[hb]⟩
 simp only[tN,this,abJ,abt]
theorem Ho{S:List Src}{F:List Fd}(h1:S.length≤20)(h2:F.length≤70)(hS:∀(j:Nat) s,S[j]?=some s→s.C.length≤20):tN S F=true:=by
 have a:S.any (fun s=>decide (20<s.C.length))=false:=by
  rw[ab3];intro s hs
  obtain⟨j,hj⟩:=acG.1 hs
  have:=hS j s hj
  simp;omega
 simp only[tN,a,h1,h2,ace,acb,acy]
theorem wD{S:List Src}{F:List Fd}(h:tN S F=true):S.length≤20∧F.length≤70∧∀s∈S,s.C.length≤20:=by
 simp only[tN,aa1,aaX,abx,ab3,Nat.not_lt]at h
 exact⟨h.1.1,h.1.2,h.2⟩
theorem s87(n:Nat)(H:ae)(S F f1 f2)(hS:S.length≤maxLen):aa T (n+2) (.fn 87) [sp S f1 F f2] H=some (.bool (tN S F),H):=by
 refine ab YD (by rfl) ?_
 simp only[XJ,ah,go_sem,simprocAttr]
 repeat' (with_reducible refine aA (fun _=>?_) (fun _=>?_)<;>simp only[*,go_sem,simprocAttr])
 all_goals try (
  with_reducible refine congrArg some (congrArg SV.bool ?_)
  simp only[aaX]at *
  rw[eq_comm,adW]
  intro hq
  have:=wD hq
  omega)
 have hl1:S.length≤20:=by simp only[aa0]at *;omega
 have hl2:F.length≤70:=by simp only[aa0]at *;omega
 refine aY (fun i=>([(1,.ptr 0 0 0 0),(3,aew i)],⟨[.box [.ay 7 (c0 S) f1,.ay 6 (cZ F) f2]],[],0⟩)) (fun i=>∀(j:Nat) s,j<i→S[j]?=some s→s.C.length≤20) S.length ?_ (fun j s h=>by omega) ?_
 ·simp only[go_sem,simprocAttr]<;>rfl
 ·intro i hi hP
  rcases aa4 i S.length with hlt|hge
  ·obtain⟨s,hs⟩:=bF hlt
   have hw:=br hlt hS
   rcases aa4 20 s.C.length with hb|hb
   ·have hb':decide (20<(s.C.length:Int))=true:=aaV (by omega)
    simp only[go_sem,simprocAttr,hlt,hs,hb',HD hs hb]
   ·have hb':decide (20<(s.C.length:Int))=false:=aaZ (by omega)
    simp only[go_sem,simprocAttr,hlt,hs,hb',hw]
    refine⟨by first|trivial|omega,by first|trivial|rfl,?_⟩
    intro j s' hj hs'
    rcases aa4 j i with h3|h3
    ·exact hP j s' h3 hs'
    ·have:j=i:=by omega
     subst this
     rw[hs]at hs';cases hs'
     exact hb
  ·have hlt:¬i<S.length:=by omega
   have hfo:=Ho hl1 hl2 (fun j s hj=>hP j s (by have:=(aaS.1 hj).1;omega) hj)
   simp only[go_sem,simprocAttr,hlt,hfo]
theorem Zd:T 192=some qP:=LF
theorem Ys:T 165=some (te 192):=Nc
theorem VA(n:Nat)(H:ae)(C:List Int)(f:Bool)(c:Int)(hC:C.length≤maxLen):aa T (n+2) (.fn 165) [.ay 1 (iS C) f,aew c] H=some (.bool (decide (c∈C)),H):=
 sa Ys Zd (.ay 1 f (.inl rfl)) hC
def EJ(c x y:Int)(s:Src):Bool:=decide (c∈s.C)&&Fp s x y
def kg{A:Type}(u:A→Src→A)(c x y:Int)(v:A)(s:Src):A:=if EJ c x y s=true then u v s else v
theorem eW{A B:Type}(f:A→B→A)(z:A){l:List B}{i:Nat}{x:B}(h:l[i]?=some x):(l.take (i+1)).foldl f z=f ((l.take i).foldl f z) x:=by
 rw[acu,h];simp
@[go_sem] theorem ck0 (S F):decide (ck S F=0)=ji S F:=by unfold ck;cases ji S F<;>rfl
def V3(a b c:Bool)(v:Int):Int:=bif a&&b&&c then v else 0
def E3(a b c:Bool):Int:=bif a then(bif b then(bif c then 0 else 2)else 7)else 1
def dQ(n:Nat)(a:Int):Bool:=decide (0≤a)&&decide (a<n)
theorem Cp{n:Nat}{a:Int}:dQ n a=true↔∃k:Nat,a=k∧k<n:=by
 unfold dQ
 rw[aa1,aaX,aaX]
 constructor
 ·rintro⟨h1,h2⟩;exact⟨a.toNat,by omega,by omega⟩
 ·rintro⟨k,rfl,h⟩;omega
theorem Ap{n:Nat}{a:Int}(h:dQ n a=false):decide (a<0)=true∨(decide (a<0)=false∧decide ((n:Int)≤a)=true):=by
 unfold dQ at h
 simp only[acH,aa0,aaX]at *
 omega
theorem GR{n k:Nat}(h:k<n):decide ((k:Int)<0)=false∧decide ((n:Int)≤(k:Int))=false:=by
 simp only[aa0];omega
theorem yA{S F}(h:ji S F=true):∀s∈S,n7 s=true:=by
 intro s hs
 simp only[ji,aa1,abx]at h
 have:=ab3.1 h.1.2 s hs
 simpa using this
def C2(N:List (Int×Int))(P:List Int)(W:List G.Wl)(ex no th:Int)(k:Nat)(s:Src):Int:=
 G.mv (G.zQ W ex s.a s.b s.p (G.nd N k).1 (G.nd N k).2) (G.eJ N P W ex no th) (G.j0 s.a s.b s.p (G.nd N k).1 (G.nd N k).2)
def zm(N:List (Int×Int))(P:List Int)(W:List G.Wl)(ex no th:Int)(k:Nat)(s:Src):Int:=
 G.mv (G.atR W ex s.a s.b s.p (G.nd N k).1 (G.nd N k).2) (G.eJ N P W ex no th) (G.j0 s.a s.b s.p (G.nd N k).1 (G.nd N k).2)
def yS(f:Src→Int)(S:List Src)(c x y:Int):Int:=S.foldl (kg (fun v s=>bj (v+f s)) c x y) 0
def qY(a b:Bool):Int:=bif a then(bif b then 0 else 7)else 1
abbrev IH(z1:Nat)(S:List Src)(f1:Bool)(z2:Nat)(F:List Fd)(f2:Bool):SV:=.agg [.ay z1 (c0 S) f1,.ay z2 (cZ F) f2]
theorem FY(n:Nat)(H:ae)(S F f1 f2)(z1 z2:Nat)(hz1:z1=7∨S=[])(hz:z2=6∨F=[])(hS:tZ S)(hF:F.length≤maxLen):aa T (n+7) (.fn 62) [IH z1 S f1 z2 F f2] H=some (aew (ck S F),H):=by
 refine ab WW (by rfl) ?_
 have h33:=fun H=>jS (T:=T) (f:=114) (n:=n+4) (H:=H) (ag:=true) (z:=7) (id:=115) (caps:=[]) (v:=.ay z1 (c0 S) f1) (L:=c0 S) (p:=fun r=>!n7 (toSr r)) XU PE (.ay z1 f1 (hz1.imp id (by rintro rfl;rfl))) yz (fun h=>by cases h) (by simpa[c0]using hS.1)
  (fun r hr bl ro _=>by
   simp only[c0,acd]at hr
   obtain⟨h,hh,rfl⟩:=hr
   simp only[toSr_of]
   exact Ly (n+1) ⟨bl,[],ro⟩ h (hS.2 h hh)) (by simp[SV.refs.aJ])
 rw[As (fun s=>!n7 s)]at h33
 have h36:=fun H=>jS (T:=T) (f:=117) (n:=n+4) (H:=H) (ag:=true) (z:=6) (id:=118) (caps:=[]) (v:=.ay z2 (cZ F) f2) (L:=cZ F) (p:=fun r=>!rF (toFd r)) O2 Xc (.ay z2 f2 (hz.imp id (by rintro rfl;rfl))) xX (fun h=>by cases h) (by simpa[cZ]using hF)
  (fun r hr bl ro _=>by
   simp only[cZ,acd]at hr
   obtain⟨h,hh,rfl⟩:=hr
   simp only[toFd_of]
   exact MI n ⟨bl,[],ro⟩ h) (by simp[SV.refs.aJ])
 rw[zR (fun s=>!rF s)]at h36
 simp only[UN,ah,go_sem,simprocAttr]
 repeat' (with_reducible refine aA (fun _=>?_) (fun _=>?_)<;>simp only[*,go_sem,simprocAttr,h33,h36])
 all_goals
  clear h33 h36
  refine congrArg some (congrArg (SV.int .i64) ?_)
  simp only[ck,ji]
  generalize (S.any fun s=>!n7 s)=A at *
  generalize (F.any fun s=>!rF s)=B at *
  generalize S.length=ls at *
  generalize F.length=lf at *
  cases A<;>cases B<;>simp only[abJ,acb,acy,abt,abc,aep,aa1,aaX]<;>grind
def NB(a b:Int)(w:Fd):Bool:=(decide (w.a= -1)||decide (w.a=a))&&(decide (w.b= -1)||decide (w.b=b))
def tG(a b c t:Int)(w:Fd):Bool:=NB a b w&&(decide (w.c= -1)||decide (w.c=c))&&decide (w.x≤t)&&decide (t<w.y)
def wq(p:Fd→Bool)(v:Int)(w:Fd):Int:=if p w=true then min v w.f else v
def vV(p:Fd→Bool)(F:List Fd):Int:=F.foldl (wq p) 1000
def vT(t:Int):Bool:=decide (0≤t)&&decide (t≤1099511627776)
theorem E4{p:Fd→Bool}{v:Int}{w:Fd}(h:p w=true):wq p v w=min v w.f:=by unfold wq;rw[if_pos h]
theorem Ht{p:Fd→Bool}{v:Int}{w:Fd}(h:p w=false):wq p v w=v:=by unfold wq;rw[if_neg (by simp[h])]
theorem in2(N:List (Int×Int))(a b:Int):(dQ N.length a&&dQ N.length b)=G.nZ N a b:=by
 simp only[dQ,G.nZ,aef]
def CR(p f:Int):Int:=bj ((bj (p*f)).tdiv 1000)
theorem BP{F:List Fd}(p:Fd→Bool)(h:∀w∈F,0≤w.f):0≤vV p F∧vV p F≤1000:=by
 have key:∀(F:List Fd) (v:Int),(∀w∈F,0≤w.f)→0≤v→v≤1000→0≤F.foldl (wq p) v∧F.foldl (wq p) v≤1000:=by
  intro F
  induction F with
  |nil=>intro v _ h1 h2;exact⟨h1,h2⟩
  |cons w F ih=>
   intro v hw h1 h2
   have hf:=hw w (by simp)
   refine ih _ (fun w' hw'=>hw w' (by simp[hw'])) ?_ ?_
   ·unfold wq;split<;>omega
   ·unfold wq;split<;>omega
 exact key F 1000 h (by omega) (by omega)
theorem Gg{S F}(h:ji S F=true):∀w∈F,rF w=true:=by
 intro w hw
 simp only[ji,aa1,abx]at h
 have:=ab3.1 h.2 w hw
 simpa using this
theorem Be{S F}(h:ji S F=true):∀w∈F,0≤w.f:=fun w hw=>by
 have:=Gg h w hw
 simp only[rF,aa1,aaX]at this
 exact this.1.2
theorem lK(a b c:Bool)(v:Int):V3 a b c v=bif a then(bif b then(bif c then v else 0)else 0)else 0:=by cases a<;>cases b<;>cases c<;>rfl
theorem J9{t:Int}(h:vT t=false):decide (t<0)=true∨(decide (t<0)=false∧decide (1099511627776<t)=true):=by
 simp only[vT,acH,aa0,aaX]at *;omega
theorem Gs{t:Int}(h:vT t=true):decide (t<0)=false∧decide (1099511627776<t)=false:=by
 simp only[vT,aa1,aaX,aa0]at *;omega
end U
namespace oT
theorem O2:T 192=some qP:=LF
theorem Y7:T 165=some (te 192):=Nc
theorem Yx{bl:List aK}{C:List Int}{f:Bool}:LV bl 1 (iS C) (.ay 1 (iS C) f):=.ay 1 f (.inl rfl)
def bP(c:Int):Bool:=decide (0≤c)&&decide (c<16)
theorem MW(n:Nat)(H:ae)(c:Int):aa T (n+1) (.fn 164) [aew c] H=some (.bool (bP c),H):=by
 refine ab Q7 (by rfl) ?_
 simp only[K6,ah,go_sem,simprocAttr]
 repeat' (with_reducible refine aA (fun _=>?_) (fun _=>?_)<;>simp only[*,go_sem,simprocAttr])
 all_goals (simp only[bP];refine congrArg some (congrArg SV.bool ?_);rw[abG];grind)
theorem Lk(n:Nat)(H:ae)(c:Int):aa T (n+1) (.fn 172) [aew c] H=some (.bool (bP c),H):=by
 refine ab RP (by rfl) ?_
 simp only[Mt,ah,go_sem,simprocAttr]
 repeat' (with_reducible refine aA (fun _=>?_) (fun _=>?_)<;>simp only[*,go_sem,simprocAttr])
 all_goals (simp only[bP];refine congrArg some (congrArg SV.bool ?_);rw[abG];grind)
def dU(C:List Int)(i:Nat):Bool:=match C[i]? with
 |some c=>!bP c||decide (c∈C.take i)
 |none=>false
theorem qx{C:List Int}{i:Nat}{c:Int}(h:C[i]?=some c):dU C i=(!bP c||decide (c∈C.take i)):=by simp[dU,h]
def o8(C:List Int):Bool:=!((List.range C.length).any (dU C))&&decide (0<C.length)
theorem mA{C:List Int}{i:Nat}{c:Int}(h:C[i]?=some c)(hb:dU C i=true):o8 C=false:=by
 have:(List.range C.length).any (dU C)=true:=ab5.2 ⟨i,abr.2 (aaS.1 h).1,hb⟩
 simp[o8,this]
theorem rn{C:List Int}(h:∀j,j<C.length→dU C j=false):o8 C=decide (0<C.length):=by
 have:(List.range C.length).any (dU C)=false:=by
  rw[ab3]
  intro j hj
  rw[h j (abr.1 hj)];simp
 simp[o8,this]
theorem Ul(n:Nat)(H:ae)(C:List Int)(f:Bool)(hC:C.length≤maxLen):aa T (n+3) (.fn 121) [.ay 1 (iS C) f] H=some (.bool (o8 C),H):=by
 refine ab Qo (by rfl) ?_
 simp only[Oh,ah,go_sem,simprocAttr]
 refine aY (fun i=>([(0,.ay 1 (iS C) f),(5,.ay 1 (iS C) f),(6,aew C.length),(7,aew i)],⟨[],[],0⟩)) (fun i=>∀(j:Nat),j<i→dU C j=false) C.length ?_ (fun j h=>by omega) ?_
 ·simp only[go_sem,simprocAttr]<;>rfl
 ·intro i hi hP
  rcases aa4 i C.length with hlt|hge
  ·obtain⟨c,hc⟩:=bF hlt
   have hw:=br hlt hC
   have hb:=qx hc
   have hle:decide ((i:Int)≤(C.length:Int))=true:=aaV (by omega)
   have h13:=fun H=>sa (n:=n) (H:=H) (v:=.ay 1 (iS (C.take i)) (f&&i==C.length)) (M:=C.take i) (x:=c) Y7 O2 (Yx) (by simp;omega)
   cases hx:bP c with
   |false=>
    simp only[go_sem,simprocAttr,hlt,hc,MW,hx]
    rw[mA hc (by rw[hb,hx];rfl)]
   |true=>
    simp only[go_sem,simprocAttr,hlt,hc,MW,hx,hle,xT,h13]
    cases hm:decide (c∈C.take i)with
    |true=>
     simp only[go_sem,simprocAttr]
     rw[mA hc (by rw[hb,hm];simp)]
    |false=>
     simp only[go_sem,simprocAttr,hw]
     refine⟨by first|trivial|omega,by first|trivial|rfl,?_⟩
     intro j hj
     rcases aa4 j i with h3|h3
     ·exact hP j h3
     ·have:j=i:=by omega
      subst this
      rw[hb,hx,hm];rfl
  ·have hlt:¬i<C.length:=by omega
   have hd:=rn (C:=C) (fun j hj=>hP j (by omega))
   simp only[go_sem,simprocAttr,hlt,hd]
   refine congrArg some (congrArg SV.bool ?_)
   rw[abG,aaX,aaX];omega
theorem Vv(n:Nat)(H:ae)(C:List Int)(f:Bool)(z:Nat)(c:Int)(hz:z=1∨C=[])(hC:C.length≤maxLen):aa T (n+1) (.fn 173) [.ay z (iS C) f,aew c] H=some (.bool (decide (c∈C)),H):=by
 refine ab QA (by rfl) ?_
 simp only[MS,ah,go_sem,simprocAttr]
 refine aY (fun i=>([(0,.ay z (iS C) f),(1,aew c),(5,aew i)],⟨[],[],0⟩)) (fun i=>∀(j:Nat) y,j<i→C[j]?=some y→y≠c) C.length ?_ (fun j y h=>by omega) ?_
 ·simp only[go_sem,simprocAttr]<;>rfl
 ·intro i hi hP
  rcases aa4 i C.length with hlt|hge
  ·obtain⟨y,hy⟩:=bF hlt
   have hw:=br hlt hC
   obtain rfl:z=1:=hz.resolve_right (by rintro rfl;simp at hlt)
   simp only[go_sem,simprocAttr,hlt,hy]
   cases hd:decide (y=c)with
   |true=>
    simp only[aaX]at hd
    subst hd
    simp only[go_sem,simprocAttr,aa3 hy]
   |false=>
    simp only[aa0]at hd
    simp only[go_sem,simprocAttr,hw]
    refine⟨by first|trivial|omega,by first|trivial|rfl,?_⟩
    intro j y' hj hy'
    rcases aa4 j i with h3|h3
    ·exact hP j y' h3 hy'
    ·have:j=i:=by omega
     subst this
     rw[hy]at hy';cases hy'
     exact hd
  ·have hlt:¬i<C.length:=by omega
   have hn:¬c∈C:=fun h=>by
    obtain⟨j,hj⟩:=acG.1 h
    exact hP j c (by have:=(aaS.1 hj).1;omega) hj rfl
   simp only[go_sem,simprocAttr,hlt,hn]
theorem Qe(n:Nat)(H:ae)(C:List Int)(f:Bool)(hC:C.length≤maxLen):aa T (n+2) (.fn 127) [.ay 1 (iS C) f] H=some (.bool (o8 C),H):=by
 refine ab R0 (by rfl) ?_
 simp only[Ll,ah,go_sem,simprocAttr]
 refine aY (fun i=>([(0,.ay 1 (iS C) f),(3,aew i)],⟨[],[],0⟩)) (fun i=>∀(j:Nat),j<i→dU C j=false) C.length ?_ (fun j h=>by omega) ?_
 ·simp only[go_sem,simprocAttr]<;>rfl
 ·intro i hi hP
  rcases aa4 i C.length with hlt|hge
  ·obtain⟨c,hc⟩:=bF hlt
   have hw:=br hlt hC
   have hb:=qx hc
   have hle:decide ((i:Int)≤(C.length:Int))=true:=aaV (by omega)
   have h45:=fun H=>Vv n H (C.take i) (f&&i==C.length) 1 c (.inl rfl) (by simp;omega)
   cases hx:bP c with
   |false=>
    simp only[go_sem,simprocAttr,hlt,hc,Lk,hx]
    rw[mA hc (by rw[hb,hx];rfl)]
   |true=>
    simp only[go_sem,simprocAttr,hlt,hc,Lk,hx,hle,xT,h45]
    cases hm:decide (c∈C.take i)with
    |true=>
     simp only[go_sem,simprocAttr]
     rw[mA hc (by rw[hb,hm];simp)]
    |false=>
     simp only[go_sem,simprocAttr,hw]
     refine⟨by first|trivial|omega,by first|trivial|rfl,?_⟩
     intro j hj
     rcases aa4 j i with h3|h3
     ·exact hP j h3
     ·have:j=i:=by omega
      subst this
      rw[hb,hx,hm];rfl
  ·have hlt:¬i<C.length:=by omega
   have hd:=rn (C:=C) (fun j hj=>hP j (by omega))
   simp only[go_sem,simprocAttr,hlt,hd]
   refine congrArg some (congrArg SV.bool ?_)
   rw[abG,aaX,aaX];omega
abbrev hl(v a b:Int)(z:Nat)(C:List Int)(f:Bool):SV:=.agg [aew v,aew a,aew b,.ay z (iS C) f]
def wg(v a b:Int)(C:List Int):Bool:=decide (0≤v)&&decide (v≤255)&&decide (0≤a)&&decide (a<b)&&decide (b≤109951163)&&o8 C
def CP(v a b:Int)(C:List Int):Int:=bif wg v a b C then 0 else 1
theorem xQ{v a b:Int}{C:List Int}(h:wg v a b C=true):CP v a b C=0:=by simp[CP,h]
theorem BF{v a b:Int}{C:List Int}(h:wg v a b C=false):CP v a b C=1:=by simp[CP,h]
theorem Xe(n:Nat)(H:ae)(v a b:Int)(C:List Int)(f:Bool)(hC:C.length≤maxLen):aa T (n+4) (.fn 64) [hl v a b 1 C f] H=some (aew (CP v a b C),H):=by
 refine ab ZH (by rfl) ?_
 have h37:=fun H=>Ul n H C f hC
 simp only[W8,ah,go_sem,simprocAttr,h37]
 repeat' (with_reducible refine aA (fun _=>?_) (fun _=>?_)<;>simp only[*,go_sem,simprocAttr,h37])
 all_goals
  clear h37
  refine congrArg some (congrArg (SV.int .i64) ?_)
  simp only[CP]
  generalize hq:wg v a b C=q
  simp only[wg]at hq
  generalize o8 C=D at *
  cases q<;>simp only[abb,abc]<;>grind
theorem XI(n:Nat)(H:ae)(v a b:Int)(C:List Int)(f:Bool)(hC:C.length≤maxLen):aa T (n+3) (.fn 72) [hl v a b 1 C f] H=some (aew (CP v a b C),H):=by
 refine ab Zo (by rfl) ?_
 have h43:=fun H=>Qe n H C f hC
 simp only[W0,ah,go_sem,simprocAttr,h43]
 repeat' (with_reducible refine aA (fun _=>?_) (fun _=>?_)<;>simp only[*,go_sem,simprocAttr,h43])
 all_goals
  clear h43
  refine congrArg some (congrArg (SV.int .i64) ?_)
  simp only[CP]
  generalize hq:wg v a b C=q
  simp only[wg]at hq
  generalize o8 C=D at *
  cases q<;>simp only[abb,abc]<;>grind
def EY(C:List Int)(s o:Int):Int:=C.getD ((s+o)%(C.length:Int)).toNat 0
def zM(v a b:Int)(C:List Int)(s o:Int):Int:=bif wg v a b C then(bif decide (a≤s)&&decide (s<b)then(bif decide (0≤o)&&decide (o<(C.length:Int))then 0 else 2)else 12)else 1
def qV(v a b:Int)(C:List Int)(s o:Int):Int:=bif decide (zM v a b C s o=0)then EY C s o else 0
theorem vQ{v a b:Int}{C:List Int}(h:wg v a b C=true):(0≤v∧v≤255)∧0≤a∧a<b∧b≤109951163∧o8 C=true:=by
 simp only[wg,aa1,aaX]at h
 exact⟨⟨h.1.1.1.1.1,h.1.1.1.1.2⟩,h.1.1.1.2,h.1.1.2,h.1.2,h.2⟩
theorem uu{C:List Int}(h:o8 C=true):0<C.length:=by
 simp only[o8,aa1,aaX]at h
 exact h.2
theorem s29(n:Nat)(H:ae)(v a b:Int)(C:List Int)(f:Bool)(s o:Int)(hC:C.length≤1000):aa T (n+4) (.fn 29) [hl v a b 1 C f,aew s,aew o] H=some (.bk [aew (qV v a b C s o),aew (zM v a b C s o)],H):=by
 refine ab ZQ (by rfl) ?_
 have h25:=fun H=>XI n H v a b C f (abv hC (by decide))
 cases hok:wg v a b C with
 |false=>
  rw[BF hok]at h25
  simp only[Um,ah,go_sem,simprocAttr,h25,qV,zM,hok]
 |true=>
  rw[xQ hok]at h25
  obtain⟨hv,ha,hab,hb,hd⟩:=vQ hok
  have hpos:=uu hd
  simp only[Um,ah,go_sem,simprocAttr,h25,qV,zM,hok]
  by_cases h1:s<a
  ·have e1:decide (s<a)=true:=aaV h1
   have e2:decide (a≤s)=false:=aaZ (by omega)
   simp only[e1,e2,go_sem,simprocAttr]
  ·have e1:decide (s<a)=false:=aaZ h1
   have e2:decide (a≤s)=true:=aaV (by omega)
   by_cases h2:b≤s
   ·have e3:decide (b≤s)=true:=aaV h2
    have e4:decide (s<b)=false:=aaZ (by omega)
    simp only[e1,e2,e3,e4,go_sem,simprocAttr]
   ·have e3:decide (b≤s)=false:=aaZ h2
    have e4:decide (s<b)=true:=aaV (by omega)
    by_cases h3:o<0
    ·have e5:decide (o<0)=true:=aaV h3
     have e6:decide (0≤o)=false:=aaZ (by omega)
     simp only[e1,e2,e3,e4,e5,e6,go_sem,simprocAttr]
    ·have e5:decide (o<0)=false:=aaZ h3
     have e6:decide (0≤o)=true:=aaV (by omega)
     by_cases h4:(C.length:Int)≤o
     ·have e7:decide ((C.length:Int)≤o)=true:=aaV h4
      have e8:decide (o<(C.length:Int))=false:=aaZ (by omega)
      simp only[e1,e2,e3,e4,e5,e6,e7,e8,go_sem,simprocAttr]
     ·have e7:decide ((C.length:Int)≤o)=false:=aaZ h4
      have e8:decide (o<(C.length:Int))=true:=aaV (by omega)
      have hw:bj (s+o)=s+o:=ax (by omega) (by omega)
      have hn0:decide ((C.length:Int)=0)=false:=aaZ (by omega)
      have htm:(s+o).tmod (C.length:Int)=(s+o)%(C.length:Int):=acK (by omega)
      have hm0:0≤(s+o)%(C.length:Int):=adP _ (by omega)
      have hm1:(s+o)%(C.length:Int)<C.length:=adq _ (by omega)
      have e9:decide (0≤(s+o)%(C.length:Int))=true:=aaV hm0
      have eZq:decide ((s+o)%(C.length:Int)<C.length)=true:=aaV hm1
      obtain⟨c,hc⟩:=bF (l:=C) (i:=((s+o)%(C.length:Int)).toNat) (by omega)
      simp only[e1,e2,e3,e4,e5,e6,e7,e8,hw,hn0,htm,e9,eZq,hc,go_sem,simprocAttr,EY,abA,acj]
theorem Va(n:Nat)(bl es ro)(C:List Int)(f:Bool)(x:Int):aa T (n+1) (.qX 154) [.ay 1 (iS C) f,aew x] ⟨bl,es,ro⟩=
 some (.fn 191 [.ptr bl.length 0 0 0,.ptr (bl.length+1) 0 0 0],⟨bl++[.box [.ay 1 (iS C) f],.box [aew x]],es,ro⟩):=by
 refine eP Qz ?_
 simp only[Jk,go_sem,simprocAttr,aaU,aaT]
def FM(C:List Int)(s:Int)(i:Nat):Int:=C.getD ((s+i)%(C.length:Int)).toNat 0
theorem TD(n o:Nat)(q:eU)(X0:aK)(X1 X2:Nat→aK)(C:List Int)(f:Bool)(s:Int)(hs:0≤s)(hs1:s<C.length)(ho:o<C.length)(hC:C.length≤1000)
 (hy:∀i,i<o→aa T n (.fA 5) [aew (FM C s i)] ⟨[X0,X1 i,X2 i,.box [.ay 1 (iS C) f],.box [aew s],.loop q .ready .normal],[],0⟩=
  some (.bool true,⟨[X0,X1 (i+1),X2 (i+1),.box [.ay 1 (iS C) f],.box [aew s],.loop q .ready .normal],[],0⟩))
 (Y1 Y2:aK) (st:LoopState) (pe:lG)
 (hyE:aa T n (.fA 5) [aew (FM C s o)] ⟨[X0,X1 o,X2 o,.box [.ay 1 (iS C) f],.box [aew s],.loop q .ready .normal],[],0⟩=
  some (.bool false,⟨[X0,Y1,Y2,.box [.ay 1 (iS C) f],.box [aew s],.loop q st pe],[],0⟩)) :
 aa T (n+1) (.fn 191) [.fA 5,.ptr 3 0 0 0,.ptr 4 0 0 0] ⟨[X0,X1 0,X2 0,.box [.ay 1 (iS C) f],.box [aew s],.loop q .ready .normal],[],0⟩=
  some (.bk [],⟨[X0,Y1,Y2,.box [.ay 1 (iS C) f],.box [aew s],.loop q st pe],[],0⟩):=by
 refine bm TG (by rfl) ?_
 simp only[Ke,go_sem,simprocAttr]
 refine aY (fun i=>([(0,.fA 5),(1,.ptr 3 0 0 0),(2,.ptr 4 0 0 0),(6,aew C.length),(7,aew i)],⟨[X0,X1 i,X2 i,.box [.ay 1 (iS C) f],.box [aew s],.loop q .ready .normal],[],0⟩)) (fun _=>True) o ?_ trivial ?_
 ·simp only[go_sem,simprocAttr]<;>rfl
 ·intro i hi _
  have hlt:i<C.length:=by omega
  have hw:bj (s+i)=s+i:=ax (by omega) (by omega)
  have hw1:=br hlt (abv hC (by decide))
  have hn0:decide ((C.length:Int)=0)=false:=aaZ (by omega)
  have htm:(s+i).tmod (C.length:Int)=(s+i)%(C.length:Int):=acK (by omega)
  have hm0:0≤(s+i)%(C.length:Int):=adP _ (by omega)
  have hm1:(s+i)%(C.length:Int)<C.length:=adq _ (by omega)
  have e9:decide (0≤(s+i)%(C.length:Int))=true:=aaV hm0
  have eZq:decide ((s+i)%(C.length:Int)<C.length)=true:=aaV hm1
  have hc:C[((s+i)%(C.length:Int)).toNat]?=some (FM C s i):=by
   rw[FM,abA,aa9 (by omega)];rfl
  rcases aa4 i o with hio|hio
  ·simp only[go_sem,simprocAttr,hlt,hw,hn0,htm,e9,eZq,hc,hy i hio,hw1]
   refine⟨by first|trivial|omega,by first|trivial|rfl,?_⟩
   trivial
  ·obtain rfl:i=o:=by omega
   simp only[go_sem,simprocAttr,hlt,hw,hn0,htm,e9,eZq,hc,hyE]
def Og(C:List Int)(s:Int):Nat→Int
 |0=>0
 |i+1=>FM C s i
def u6(o:Nat):Nat→Int
 |0=>(o:Int)
 |i+1=>(o:Int)-((i+1:Nat):Int)
theorem mY(o i:Nat):u6 o i=(o:Int)-i:=by
 cases i with
 |zero=>simp[u6]
 |succ i=>rfl
theorem jh{A R:Type}{v:Option A}{f:A→Option R}{t:oK f}{r:Option R}(o:A)(h:v=some o)(k:f o=r):aT v f t=r:=by rw[h];exact k
theorem TC(n:Nat)(H:ae)(v a b:Int)(C:List Int)(f:Bool)(s o:Int)(hC:C.length≤1000):aa T (n+5) (.fn 105) [hl v a b 1 C f,aew s,aew o] H=some (.bk [aew (qV v a b C s o),aew (zM v a b C s o)],H):=by
 refine ab Rg (by rfl) ?_
 have h24:=fun H=>Xe n H v a b C f (abv hC (by decide))
 cases hok:wg v a b C with
 |false=>
  rw[BF hok]at h24
  simp only[H7,ah,go_sem,simprocAttr,h24,qV,zM,hok]
 |true=>
  rw[xQ hok]at h24
  obtain⟨hv,ha,hab,hb,hd⟩:=vQ hok
  have hpos:=uu hd
  simp only[H7,ah,go_sem,simprocAttr,h24,qV,zM,hok]
  by_cases h1:s<a
  ·have e1:decide (s<a)=true:=aaV h1
   have e2:decide (a≤s)=false:=aaZ (by omega)
   simp only[e1,e2,go_sem,simprocAttr]
  ·have e1:decide (s<a)=false:=aaZ h1
   have e2:decide (a≤s)=true:=aaV (by omega)
   by_cases h2:b≤s
   ·have e3:decide (b≤s)=true:=aaV h2
    have e4:decide (s<b)=false:=aaZ (by omega)
    simp only[e1,e2,e3,e4,go_sem,simprocAttr]
   ·have e3:decide (b≤s)=false:=aaZ h2
    have e4:decide (s<b)=true:=aaV (by omega)
    by_cases h3:o<0
    ·have e5:decide (o<0)=true:=aaV h3
     have e6:decide (0≤o)=false:=aaZ (by omega)
     simp only[e1,e2,e3,e4,e5,e6,go_sem,simprocAttr]
    ·have e5:decide (o<0)=false:=aaZ h3
     have e6:decide (0≤o)=true:=aaV (by omega)
     by_cases h4:(C.length:Int)≤o
     ·have e7:decide ((C.length:Int)≤o)=true:=aaV h4
      have e8:decide (o<(C.length:Int))=false:=aaZ (by omega)
      simp only[e1,e2,e3,e4,e5,e6,e7,e8,go_sem,simprocAttr]
     ·have e7:decide ((C.length:Int)≤o)=false:=aaZ h4
      have e8:decide (o<(C.length:Int))=true:=aaV (by omega)
      have hn0:decide ((C.length:Int)=0)=false:=aaZ (by omega)
      have htm:s.tmod (C.length:Int)=s%(C.length:Int):=acK (by omega)
      obtain⟨o',rfl⟩:=ac8 (show 0≤o by omega)
      have hm0:0≤s%(C.length:Int):=adP _ (by omega)
      have hm1:s%(C.length:Int)<C.length:=adq _ (by omega)
      simp only[e1,e2,e3,e4,e5,e6,e7,e8,hn0,htm,go_sem,simprocAttr,Va]
      refine jh _ (TD (n+3) o' _ _ (fun i=>.box [aew (u6 o' i)]) (fun i=>.box [aew (Og C (s%(C.length:Int)) i)]) C f (s%(C.length:Int)) hm0 hm1 (by omega) hC ?_
       (.box [aex]) (.box [aew (FM C (s%(C.length:Int)) o')]) .done (.exit 1) ?_) ?_
      ·intro i hi
       refine nL rfl rfl ?_
       have g1:decide (u6 o' i=0)=false:=aaZ (by rw[mY];omega)
       have g2:bj (u6 o' i-1)=u6 o' (i+1):=by rw[mY,mY,ax (by omega) (by omega)];omega
       simp only[go_sem,simprocAttr,fJ,g1,g2,Og]
      ·refine nL rfl rfl ?_
       have g1:decide (u6 o' o'=0)=true:=aaV (by rw[mY];omega)
       have g0:u6 o' o'=0:=by rw[mY];omega
       simp only[go_sem,simprocAttr,fJ,g1,g0]
      ·have hfin:EY C s o'=FM C (s%(C.length:Int)) o':=by
        unfold EY FM
        rw[Int.emod_add_emod]
       simp only[go_sem,simprocAttr,hfin]
end oT
namespace fh
abbrev fr(k s d q o c m e t u v:Int)(x:ByteArray):List SV:=[aew k,aew s,aew d,aew q,aew o,aew c,aew m,aew e,aew t,aew u,aew v,.str x]
def dQ(x h:Int):Bool:=decide (0≤x)&&decide (x≤h)
def A7(x:Int):Bool:=decide (-32768≤x)&&decide (x≤32767)
theorem gr(n:Nat)(H:ae)(x h:Int):aa T (n+1) (.fn 196) [aew x,aew h] H=some (.bool (dQ x h),H):=by
 refine ab Ss (by rfl) ?_
 simp only[JG,ah,go_sem,simprocAttr,dQ]
 repeat' (with_reducible refine aA (fun _=>?_) (fun _=>?_)<;>simp only[*,go_sem,simprocAttr,dQ])
theorem sZ(n:Nat)(H:ae)(x h:Int):aa T (n+1) (.fn 142) [aew x,aew h] H=some (.bool (dQ x h),H):=by
 refine ab Tl (by rfl) ?_
 simp only[MB,ah,go_sem,simprocAttr,dQ]
 repeat' (with_reducible refine aA (fun _=>?_) (fun _=>?_)<;>simp only[*,go_sem,simprocAttr,dQ])
theorem s8(n:Nat)(H:ae)(x:Int):aa T (n+1) (.fn 214) [aew x] H=some (.bool (A7 x),H):=by
 refine ab SE (by rfl) ?_
 simp only[Ky,ah,go_sem,simprocAttr,A7]
 repeat' (with_reducible refine aA (fun _=>?_) (fun _=>?_)<;>simp only[*,go_sem,simprocAttr,A7])
def ua(s d:Int):Bool:=dQ d 31&&!decide (d=s)
theorem sQ(n:Nat)(H:ae)(k s d q o c m e t u v:Int)(x:ByteArray):aa T (n+2) (.fn 213) [.agg (fr k s d q o c m e t u v x)] H=some (.bool (ua s d),H):=by
 refine ab Qj (by rfl) ?_
 simp only[Nx,ah,go_sem,simprocAttr,ua,gr]
 cases dQ d 31<;>simp only[go_sem,simprocAttr,gr]
def Hz(k s d q o c m e t u v:Int)(x:ByteArray):SV:=
 bif decide (k=1)then .bk [.agg (fr k s d q o 0 0 e t u v ⟨#[]⟩),.bool (ua s d&&dQ c 255&&dQ m 65535)]
 else bif decide (k=2)then .bk [.agg (fr k s d q o c m 0 t u v x),.bool (ua s d&&A7 e)]
 else bif decide (k=3)then .bk [.agg (fr k s d q o c m e 0 0 0 ⟨#[]⟩),.bool (decide (d= -1)&&dQ t 109951162&&dQ u 65535&&dQ v 65535)]
 else bif decide (k=4)then .bk [.agg (fr k s d q o c m e t u v ⟨#[]⟩),.bool (decide (d= -1)||ua s d)]
 else .bk [.agg (fr k s d q o c m e t u v x),.bool false]
theorem VY(n:Nat)(H:ae)(k s d q o c m e t u v:Int)(x:ByteArray):aa T (n+3) (.fn 195) [.agg (fr k s d q o c m e t u v x)] H=some (Hz k s d q o c m e t u v x,H):=by
 refine ab V4 (by rfl) ?_
 simp only[JV,ah,go_sem,simprocAttr,gr,s8,sQ]
 cases h1:decide (k=1)with
 |true=>
  simp only[go_sem,simprocAttr,gr,s8,sQ,Hz,h1]
  cases h5:ua s d<;>cases h6:dQ c 255<;>simp only[go_sem,simprocAttr,gr,s8,sQ,h5,h6]
 |false=>
  cases h2:decide (k=2)with
  |true=>
   simp only[go_sem,simprocAttr,gr,s8,sQ,Hz,h1,h2]
   cases h5:ua s d<;>simp only[go_sem,simprocAttr,gr,s8,sQ,h5]
  |false=>
   cases h3:decide (k=3)with
   |true=>
    simp only[go_sem,simprocAttr,gr,s8,sQ,Hz,h1,h2,h3]
    cases h5:decide (d= -1)<;>cases h6:dQ t 109951162<;>cases h7:dQ u 65535<;>simp only[go_sem,simprocAttr,gr,s8,sQ,h5,h6,h7]
   |false=>
    cases h4:decide (k=4)with
    |true=>
     simp only[go_sem,simprocAttr,gr,s8,sQ,Hz,h1,h2,h3,h4]
     cases h5:decide (d= -1)<;>simp only[go_sem,simprocAttr,gr,s8,sQ,h5]
    |false=>simp only[go_sem,simprocAttr,Hz,h1,h2,h3,h4]
def z0(c:Int):Bool:=decide (c=0)
def lJ(k s d q o c m e t u v:Int)(x:ByteArray):Bool:=
 (bif decide (k=1)then(ua s d&&dQ c 255&&dQ m 65535)&&(decide (e=0)&&(decide (t=0)&&(decide (u=0)&&decide (v=0))))
 else bif decide (k=2)then(ua s d&&A7 e)&&(decide (c=0)&&(decide (m=0)&&(decide (t=0)&&(decide (u=0)&&(decide (v=0)&&decide (x=⟨#[]⟩))))))
 else bif decide (k=3)then(decide (d= -1)&&dQ t 109951162&&dQ u 65535&&dQ v 65535)&&(decide (c=0)&&(decide (m=0)&&decide (e=0)))
 else bif decide (k=4)then(decide (d= -1)||ua s d)&&(decide (c=0)&&(decide (m=0)&&(decide (e=0)&&(decide (t=0)&&(decide (u=0)&&decide (v=0))))))
 else false)&&(dQ s 31&&(dQ q 255&&dQ o 255))
theorem Qy(n:Nat)(H:ae)(k s d q o c m e t u v:Int)(x:ByteArray):aa T (n+4) (.fn 174) [.agg (fr k s d q o c m e t u v x)] H=some (aew (bif lJ k s d q o c m e t u v x then 0 else 1),H):=by
 refine ab Qk (by rfl) ?_
 simp only[Ma,ah,go_sem,simprocAttr,VY,gr]
 unfold Hz lJ
 cases h1:decide (k=1)with
 |true=>
  cases h5:(ua s d&&dQ c 255&&dQ m 65535)with
  |false=>simp only[go_sem,simprocAttr,gr,h1,h5]
  |true=>
   cases h6:(decide (e=0)&&(decide (t=0)&&(decide (u=0)&&decide (v=0))))<;>simp only[go_sem,simprocAttr,gr,h1,h5,h6]
   cases h7:dQ s 31<;>cases h8:dQ q 255<;>cases h9:dQ o 255<;>simp only[go_sem,simprocAttr,gr,h7,h8,h9]
 |false=>
  cases h2:decide (k=2)with
  |true=>
   cases h5:(ua s d&&A7 e)with
   |false=>simp only[go_sem,simprocAttr,gr,h1,h2,h5]
   |true=>
    cases h6:(decide (c=0)&&(decide (m=0)&&(decide (t=0)&&(decide (u=0)&&(decide (v=0)&&decide (x=⟨#[]⟩))))))<;>simp only[go_sem,simprocAttr,gr,h1,h2,h5,h6]
    cases h7:dQ s 31<;>cases h8:dQ q 255<;>cases h9:dQ o 255<;>simp only[go_sem,simprocAttr,gr,h7,h8,h9]
  |false=>
   cases h3:decide (k=3)with
   |true=>
    cases h5:(decide (d= -1)&&dQ t 109951162&&dQ u 65535&&dQ v 65535)with
    |false=>simp only[go_sem,simprocAttr,gr,h1,h2,h3,h5]
    |true=>
     cases h6:(decide (c=0)&&(decide (m=0)&&decide (e=0)))<;>simp only[go_sem,simprocAttr,gr,h1,h2,h3,h5,h6]
     cases h7:dQ s 31<;>cases h8:dQ q 255<;>cases h9:dQ o 255<;>simp only[go_sem,simprocAttr,gr,h7,h8,h9]
   |false=>
    cases h4:decide (k=4)with
    |true=>
     cases h5:(decide (d= -1)||ua s d)with
     |false=>simp only[go_sem,simprocAttr,gr,h1,h2,h3,h4,h5]
     |true=>
      cases h6:(decide (c=0)&&(decide (m=0)&&(decide (e=0)&&(decide (t=0)&&(decide (u=0)&&decide (v=0))))))<;>simp only[go_sem,simprocAttr,gr,h1,h2,h3,h4,h5,h6]
      cases h7:dQ s 31<;>cases h8:dQ q 255<;>cases h9:dQ o 255<;>simp only[go_sem,simprocAttr,gr,h7,h8,h9]
    |false=>simp only[go_sem,simprocAttr,gr,h1,h2,h3,h4]
end fh
namespace fh
def bt(b:Bool):Nat:=bif b then 1 else 0
theorem vR(b:Bool):bt b≤1:=by cases b<;>decide
def cY(bs:List Bool)(i:Nat):Nat:=bt ((bs[i]?).getD false)
theorem ig(bs:List Bool)(i:Nat):cY bs i≤1:=vR _
theorem mz{bs:List Bool}{i:Nat}(h:bs.length≤i):cY bs i=0:=by
 unfold cY;rw[aca h];rfl
theorem vm(bs:List Bool)(b:Bool)(i:Nat):cY (bs++[b]) i=cY bs i+(if i=bs.length then bt b else 0):=by
 by_cases h:i=bs.length
 ·subst h
  rw[if_pos rfl,mz (aa8 _)]
  simp[cY]
 ·rw[if_neg h]
  by_cases h2:i<bs.length
  ·simp[cY,aa6 h2]
  ·rw[mz (bs:=bs) (by omega),mz (by simp;omega)]
def di(bs:List Bool)(j:Nat):Nat:=
 cY bs (8*j)*128+cY bs (8*j+1)*64+cY bs (8*j+2)*32+cY bs (8*j+3)*16+cY bs (8*j+4)*8+cY bs (8*j+5)*4+cY bs (8*j+6)*2+cY bs (8*j+7)
theorem mO(bs:List Bool)(j:Nat):di bs j<256:=by
 have:=ig bs (8*j);have:=ig bs (8*j+1);have:=ig bs (8*j+2);have:=ig bs (8*j+3)
 have:=ig bs (8*j+4);have:=ig bs (8*j+5);have:=ig bs (8*j+6);have:=ig bs (8*j+7)
 unfold di;omega
theorem m8(n:Nat):n%8=0∨n%8=1∨n%8=2∨n%8=3∨n%8=4∨n%8=5∨n%8=6∨n%8=7:=by omega
theorem qh{bs:List Bool}{b:Bool}{j:Nat}(h:j≠bs.length/8):di (bs++[b]) j=di bs j:=by
 unfold di
 simp only[vm]
 rw[if_neg (by omega),if_neg (by omega),if_neg (by omega),if_neg (by omega),if_neg (by omega),if_neg (by omega),if_neg (by omega),if_neg (by omega)]
 simp only[acL]
theorem CG(bs:List Bool)(b:Bool):di (bs++[b]) (bs.length/8)=di bs (bs.length/8)+bt b*2 ^ (7-bs.length%8):=by
 unfold di
 simp only[vm]
 rcases m8 bs.length with h|h|h|h|h|h|h|h<;>rw[h]
 ·rw[if_pos (by omega),if_neg (by omega),if_neg (by omega),if_neg (by omega),if_neg (by omega),if_neg (by omega),if_neg (by omega),if_neg (by omega)];omega
 ·rw[if_neg (by omega),if_pos (by omega),if_neg (by omega),if_neg (by omega),if_neg (by omega),if_neg (by omega),if_neg (by omega),if_neg (by omega)];omega
 ·rw[if_neg (by omega),if_neg (by omega),if_pos (by omega),if_neg (by omega),if_neg (by omega),if_neg (by omega),if_neg (by omega),if_neg (by omega)];omega
 ·rw[if_neg (by omega),if_neg (by omega),if_neg (by omega),if_pos (by omega),if_neg (by omega),if_neg (by omega),if_neg (by omega),if_neg (by omega)];omega
 ·rw[if_neg (by omega),if_neg (by omega),if_neg (by omega),if_neg (by omega),if_pos (by omega),if_neg (by omega),if_neg (by omega),if_neg (by omega)];omega
 ·rw[if_neg (by omega),if_neg (by omega),if_neg (by omega),if_neg (by omega),if_neg (by omega),if_pos (by omega),if_neg (by omega),if_neg (by omega)];omega
 ·rw[if_neg (by omega),if_neg (by omega),if_neg (by omega),if_neg (by omega),if_neg (by omega),if_neg (by omega),if_pos (by omega),if_neg (by omega)];omega
 ·rw[if_neg (by omega),if_neg (by omega),if_neg (by omega),if_neg (by omega),if_neg (by omega),if_neg (by omega),if_neg (by omega),if_pos (by omega)];omega
theorem yF(bs:List Bool):∃a,di bs (bs.length/8)=2 ^ (8-bs.length%8)*a:=by
 have z:∀k,bs.length%8≤k→cY bs (8*(bs.length/8)+k)=0:=fun k hk=>mz (by omega)
 unfold di
 rcases m8 bs.length with h|h|h|h|h|h|h|h<;>rw[h]at z⊢
 ·rw[z 1 (by omega),z 2 (by omega),z 3 (by omega),z 4 (by omega),z 5 (by omega),z 6 (by omega),z 7 (by omega),show cY bs (8*(bs.length/8))=0 from z 0 (by omega)];exact⟨0,by omega⟩
 ·rw[z 1 (by omega),z 2 (by omega),z 3 (by omega),z 4 (by omega),z 5 (by omega),z 6 (by omega),z 7 (by omega)];exact⟨cY bs (8*(bs.length/8)),by omega⟩
 ·rw[z 2 (by omega),z 3 (by omega),z 4 (by omega),z 5 (by omega),z 6 (by omega),z 7 (by omega)];exact⟨cY bs (8*(bs.length/8))*2+cY bs (8*(bs.length/8)+1),by omega⟩
 ·rw[z 3 (by omega),z 4 (by omega),z 5 (by omega),z 6 (by omega),z 7 (by omega)];exact⟨cY bs (8*(bs.length/8))*4+cY bs (8*(bs.length/8)+1)*2+cY bs (8*(bs.length/8)+2),by omega⟩
 ·rw[z 4 (by omega),z 5 (by omega),z 6 (by omega),z 7 (by omega)];exact⟨cY bs (8*(bs.length/8))*8+cY bs (8*(bs.length/8)+1)*4+cY bs (8*(bs.length/8)+2)*2+cY bs (8*(bs.length/8)+3),by omega⟩
 ·rw[z 5 (by omega),z 6 (by omega),z 7 (by omega)];exact⟨cY bs (8*(bs.length/8))*16+cY bs (8*(bs.length/8)+1)*8+cY bs (8*(bs.length/8)+2)*4+cY bs (8*(bs.length/8)+3)*2+cY bs (8*(bs.length/8)+4),by omega⟩
 ·rw[z 6 (by omega),z 7 (by omega)];exact⟨cY bs (8*(bs.length/8))*32+cY bs (8*(bs.length/8)+1)*16+cY bs (8*(bs.length/8)+2)*8+cY bs (8*(bs.length/8)+3)*4+cY bs (8*(bs.length/8)+4)*2+cY bs (8*(bs.length/8)+5),by omega⟩
 ·rw[z 7 (by omega)];exact⟨cY bs (8*(bs.length/8))*64+cY bs (8*(bs.length/8)+1)*32+cY bs (8*(bs.length/8)+2)*16+cY bs (8*(bs.length/8)+3)*8+cY bs (8*(bs.length/8)+4)*4+cY bs (8*(bs.length/8)+5)*2+cY bs (8*(bs.length/8)+6),by omega⟩
theorem wy(b:Bool)(r:Nat)(h:r<8):bt b*2 ^ (7-r)<2 ^ (8-r):=by
 have:2 ^ (8-r)=2*2 ^ (7-r):=by rw[show 8-r=(7-r)+1 by omega,Nat.pow_succ,ad1]
 have hp:0<2 ^ (7-r):=Nat.pow_pos (by decide)
 cases b<;>simp[bt]<;>omega
theorem uY(bs:List Bool)(b:Bool):(di bs (bs.length/8)|||bt b*2 ^ (7-bs.length%8))=di (bs++[b]) (bs.length/8):=by
 rw[CG]
 obtain⟨a,ha⟩:=yF bs
 rw[ha]
 exact(Nat.two_pow_add_eq_or_of_lt (wy b _ (aeu _ (by decide))) a).symm
def nb(n:Nat):Nat:=(n+7)/8
def q9(bs:List Bool):List (List SV):=(List.range (nb bs.length)).map fun j=>[.int .u8 (di bs j:Nat)]
@[go_sem] theorem eD {bs:List Bool}:(q9 bs).length=nb bs.length:=by simp[q9]
theorem nz{bs:List Bool}{j:Nat}(h:j<nb bs.length):(q9 bs)[j]?=some [.int .u8 (di bs j:Nat)]:=by simp[q9,h]
theorem D2{bs:List Bool}{b:Bool}(h:bs.length%8≠0):(q9 bs).set (bs.length/8) [.int .u8 (di (bs++[b]) (bs.length/8):Nat)]=q9 (bs++[b]):=by
 have e:nb (bs.length+1)=nb bs.length:=by unfold nb;omega
 apply acU
 intro j
 rw[ady]
 by_cases hj:j<nb bs.length
 ·rw[nz (bs:=bs++[b]) (by simp[e,hj])]
  by_cases h2:bs.length/8=j
  ·subst h2
   rw[if_pos rfl,if_pos (by rw[eD];exact hj)]
  ·rw[if_neg h2,nz hj,qh (fun h=>h2 h.symm)]
 ·rw[if_neg (show ¬bs.length/8=j by unfold nb at hj;omega),aca (by rw[eD];omega),aca (by rw[eD,aaT];simp[e];omega)]
theorem Dj{bs:List Bool}{b:Bool}(h:bs.length%8=0):(q9 bs++[[SV.int .u8 0]]).set (bs.length/8) [.int .u8 (di (bs++[b]) (bs.length/8):Nat)]=q9 (bs++[b]):=by
 have e:nb (bs.length+1)=nb bs.length+1:=by unfold nb;omega
 have e2:nb bs.length=bs.length/8:=by unfold nb;omega
 apply acU
 intro j
 rw[ady]
 by_cases hj:j<nb bs.length+1
 ·rw[nz (bs:=bs++[b]) (by simp[e,hj])]
  by_cases h2:bs.length/8=j
  ·subst h2
   rw[if_pos rfl,if_pos (by rw[aaT,eD];simp;omega)]
  ·rw[if_neg h2,aa6 (by rw[eD];omega),nz (by omega),qh (fun h=>h2 h.symm)]
 ·rw[if_neg (show ¬bs.length/8=j by omega),aca (by rw[aaT,eD];simp;omega),aca (by rw[eD,aaT];simp[e];omega)]
theorem CB{bs:List Bool}(h:bs.length%8=0):(q9 bs++[[SV.int .u8 0]])[bs.length/8]?=some [.int .u8 (di bs (bs.length/8):Nat)]:=by
 have e2:nb bs.length=bs.length/8:=by unfold nb;omega
 have z:∀k,cY bs (8*(bs.length/8)+k)=0:=fun k=>mz (by omega)
 have hb:di bs (bs.length/8)=0:=by
  unfold di
  rw[z 1,z 2,z 3,z 4,z 5,z 6,z 7,show cY bs (8*(bs.length/8))=0 from z 0]
 rw[hb,←e2,←eD (bs:=bs),abH (aa8 _)]
 simp
theorem Aw{bs:List Bool}(h:bs.length%8≠0):(q9 bs)[bs.length/8]?=some [.int .u8 (di bs (bs.length/8):Nat)]:=nz (by unfold nb;omega)
def bits(w v:Nat):List Bool:=(List.range w).map fun i=>v.testBit (w-1-i)
theorem aw(w v:Nat):(bits w v).length=w:=by simp[bits]
theorem sx{w v j:Nat}(h:j<w):(bits w v).take (j+1)=(bits w v).take j++[v.testBit (w-1-j)]:=by
 rw[acu]
 simp[bits,h]
end fh
namespace fh
abbrev wB(bs:List Bool):aK:=.box [.bp 2 (nb bs.length) 0 (nb bs.length),aew bs.length,aex]
abbrev wA(bs:List Bool):aK:=.arr (nb bs.length) 1 (q9 bs) false
@[go_sem] theorem tm8 (n:Nat):(n:Int).tmod 8=((n%8:Nat):Int):=by rw[acK (by omega)];rfl
@[go_sem] theorem td8 (n:Nat):(n:Int).tdiv 8=((n/8:Nat):Int):=by rw[acJ (by omega)];rfl
theorem lL{n:Int}(h0:0≤n)(h1:n≤255):IntKind.u8.wrap n=n:=by
 have e:IntKind.u8.wrap n=n%256:=by simp[IntKind.wrap,IntKind.bits,IntKind.signed]
 rw[e];omega
theorem mG{n:Int}(h0:0≤n)(h1:n<2 ^ 64):IntKind.u64.wrap n=n:=by
 have e:IntKind.u64.wrap n=n%18446744073709551616:=by simp[IntKind.wrap,IntKind.bits,IntKind.signed]
 rw[e];omega
theorem fY(B j:Nat):((B:Int).fdiv (2 ^ j))=((B/2 ^ j:Nat):Int):=by
 have h:((2:Int) ^ j)=((2 ^ j:Nat):Int):=by rw[adQ];rfl
 rw[h,ade _ (Int.natCast_nonneg _),Int.natCast_ediv]
theorem zq(a:Nat)(h:a<2 ^ 64):(BitVec.ofInt 64 (a:Int)).toNat=a:=by
 rw[adR]
 omega
theorem gK(a:Nat)(h:a<256):(BitVec.ofInt 8 (a:Int)).toNat=a:=by
 rw[adR]
 omega
theorem wu(v i:Nat):bt (v.testBit i)=v/2 ^ i%2:=by
 rw[Nat.testBit_eq_decide_div_mod_eq]
 unfold bt
 rcases Nat.mod_two_eq_zero_or_one (v/2 ^ i)with h|h<;>rw[h]<;>rfl
theorem HP{v i:Nat}(hv:v<2 ^ 64)(hi:i<64):IntKind.u64.wrap ((BitVec.ofInt 64 ((v:Int).fdiv (2 ^ min i 64))&&&BitVec.ofInt 64 1).toNat:Nat)=(bt (v.testBit i):Nat):=by
 have h2:v/2 ^ i≤v:=Nat.div_le_self _ _
 have h3:(BitVec.ofInt 64 1).toNat=1:=by decide
 rw[ab2 (by omega),fY,aeq,zq _ (by omega),h3,Nat.and_one_is_mod,wu]
 exact mG (by omega) (by omega)
theorem ED{v i:Nat}(B:List Bool)(hv:v<2 ^ 64)(hi:i<64):IntKind.u8.wrap ((BitVec.ofInt 8 (di B (B.length/8):Nat)|||BitVec.ofInt 8 (IntKind.u8.wrap (IntKind.u8.wrap (IntKind.u64.wrap ((BitVec.ofInt 64 ((v:Int).fdiv (2 ^ min i 64))&&&BitVec.ofInt 64 1).toNat:Nat))*2 ^ min (7-B.length%8) 8))).toNat:Nat)=(di (B++[v.testBit i]) (B.length/8):Nat):=by
 have hb:=vR (v.testBit i)
 have h1:=wy (v.testBit i) (B.length%8) (aeu _ (by decide))
 have h2:2 ^ (8-B.length%8)≤2 ^ 8:=adl (by decide) (by omega)
 have h3:bt (v.testBit i)*2 ^ (7-B.length%8)<256:=by omega
 have h4:=mO B (B.length/8)
 have h5:=mO (B++[v.testBit i]) (B.length/8)
 have h6:((bt (v.testBit i):Nat):Int)*2 ^ (7-B.length%8)=((bt (v.testBit i)*2 ^ (7-B.length%8):Nat):Int):=by rw[aet,adQ];rfl
 rw[HP hv hi,lL (n:=((bt (v.testBit i):Nat):Int)) (by omega) (by omega),ab2 (by omega),h6,lL (n:=((bt (v.testBit i)*2 ^ (7-B.length%8):Nat):Int)) (by omega) (by omega),BitVec.toNat_or,gK _ h4,gK _ h3,uY]
 exact lL (by omega) (by omega)
theorem Hv(n:Nat)(b0:aK)(tl:List aK)(es:List (Nat×Nat))(bs:List Bool)(w v:Nat)(hw:w≤63)(hv:v<2 ^ 64)(hb:bs.length+w≤600000) :
 aa T (n+1) (.fn 241) [.ptr 1 0 0 0,aew w,.int .u64 v] ⟨b0::wB bs::wA bs::tl,es,0⟩=
  some (.bk [],⟨b0::wB (bs++bits w v)::wA (bs++bits w v)::tl,es++List.replicate (nb (bs.length+w)-nb bs.length) (1,3),0⟩):=by
 refine bm SG (by rfl) ?_
 simp only[Jg,go_sem,simprocAttr]
 have hw1:bj ((w:Int)-1)=(w:Int)-1:=ax (by omega) (by omega)
 have hN:decide (max 2 0≤tl.length+1+1+1)=true:=aaV (by omega)
 have l0:decide (0<tl.length+1+1+1)=true:=aaV (by omega)
 have l1:decide (1<tl.length+1+1+1)=true:=aaV (by omega)
 have l2:decide (2<tl.length+1+1+1)=true:=aaV (by omega)
 have l3':decide (tl.length+1+1+1<3)=false:=aaZ (by omega)
 have l3:decide (3≤tl.length+1+1+1)=true:=aaV (by omega)
 refine aY (fun j=>([(0,.ptr 1 0 0 0),(2,.int .u64 v),(6,aew ((w:Int)-1-(j:Int)))],⟨b0::wB (bs++(bits w v).take j)::wA (bs++(bits w v).take j)::tl,List.replicate (nb (bs.length+j)-nb bs.length) (1,3),0⟩)) (fun _=>True) w ?_ trivial ?_
 ·simp only[go_sem,simprocAttr,hw1,adn,abQ,ad3,ac0,acL,Int.sub_zero,hN,Int.natCast_zero,Int.ofNat_zero]
  try rfl
 ·intro j hj _
  rcases aa4 j w with hlt|hge
  ·have hx:decide ((0:Int)≤(w:Int)-1-j)=true:=aaV (by omega)
   have hs:bj ((w:Int)-1-j-1)=(w:Int)-1-(j+1:Nat):=by rw[ax (by omega) (by omega)];omega
   have hB:(bs++(bits w v).take j).length=bs.length+j:=by rw[aaT,abF,aw];omega
   have hB':bs++(bits w v).take (j+1)=(bs++(bits w v).take j)++[v.testBit (w-1-j)]:=by rw[sx hlt,aaU]
   obtain⟨b,hb'⟩:∃b,v.testBit (w-1-j)=b:=⟨_,rfl⟩
   obtain⟨B,hBd⟩:∃B,bs++(bits w v).take j=B:=⟨_,rfl⟩
   rw[hb',hBd]at hB'
   rw[hBd]at hB
   have gb:=fun H=>eo 1 H 2 (nb B.length) (nb B.length) [[.int .u8 0]] (q9 B) eD
   have hw8:bj ((B.length/8:Nat):Int)=((B.length/8:Nat):Int):=ax (by omega) (by omega)
   have hw7:bj (7-((B.length%8:Nat):Int))=((7-B.length%8:Nat):Int):=by rw[ax (by omega) (by omega)];omega
   have hnn:∀n:Nat,decide ((n:Int)<0)=false:=fun n=>aaZ (by omega)
   have hi:((w:Int)-1-j).toNat=w-1-j:=by omega
   have hE:=ED (v:=v) (i:=w-1-j) B hv (by omega)
   rw[hb']at hE
   have hw1':bj ((B.length:Int)+1)=((B.length+1:Nat):Int):=by rw[ax (by omega) (by omega)];omega
   have hl1:(B++[b]).length=B.length+1:=by simp
   by_cases h8:B.length%8=0
   ·have hq:decide (((B.length%8:Nat):Int)=0)=true:=aaV (by omega)
    have hr:decide ((nb B.length+1)*1≤bX)=true:=aaV (abv (show(nb B.length+1)*1≤1000000 by unfold nb;omega) (by decide))
    have e1:nb (B.length+1)=nb B.length+1:=by unfold nb;omega
    have e2:nb (bs.length+(j+1))-nb bs.length=nb (bs.length+j)-nb bs.length+1:=by unfold nb;omega
    have g0:=CB h8
    have hlt1:decide (B.length/8<nb B.length+1)=true:=aaV (by unfold nb;omega)
    simp only[go_sem,simprocAttr,hw8,hw7,g0,hlt1,abD,hx,hq,hBd,gb,hr,l0,l1,l2,l3,l3',hN,hi,hE,hw1',hs,hB',hl1,e1,e2,acP,aa7,abe,ite_self,if_true]
    refine⟨hlt,?_,trivial⟩
    erw [hE,Dj h8]
    simp only[wB,wA,hl1,e1]
   ·have hq:decide (((B.length%8:Nat):Int)=0)=false:=aaZ (by omega)
    have e1:nb (B.length+1)=nb B.length:=by unfold nb;omega
    have e2:nb (bs.length+(j+1))-nb bs.length=nb (bs.length+j)-nb bs.length:=by unfold nb;omega
    have g0:=Aw h8
    have hlt1:decide (B.length/8<nb B.length)=true:=aaV (by unfold nb;omega)
    simp only[go_sem,simprocAttr,hw8,hw7,g0,hlt1,abD,hx,hq,hBd,l0,l1,l2,l3,l3',hN,hi,hE,hw1',hs,hB',hl1,e1,e2,aa7,abe,ite_self,if_true]
    refine⟨hlt,?_,trivial⟩
    erw [hE,D2 h8]
    simp only[wB,wA,hl1,e1]
  ·obtain rfl:j=w:=by omega
   have hx:decide ((0:Int)≤(j:Int)-1-j)=false:=aaZ (by omega)
   have ht:(bits j v).take j=bits j v:=abu (by rw[aw];exact aa8 _)
   simp only[go_sem,simprocAttr,hx,ht,hN,l0,l1,l2,l3,l3',aa7,abe,ite_self,if_true]
end fh
namespace fh
def cc(x:Nat):Nat:=if x=0 then 0 else x.log2+1
theorem cK{x w:Nat}:cc x≤w↔x<2 ^ w:=by
 unfold cc
 by_cases h:x=0
 ·subst h;simp;exact Nat.pow_pos (by decide)
 ·rw[if_neg h,Nat.succ_le_iff,Nat.log2_lt h]
theorem gY{x k:Nat}(h:2 ^ k≤x):cc (x/2 ^ k)+k=cc x:=by
 have key:∀w,cc (x/2 ^ k)+k≤w↔cc x≤w:=fun w=>by
  by_cases hw:k≤w
  ·obtain⟨d,rfl⟩:=Nat.exists_eq_add_of_le hw
   rw[show(cc (x/2 ^ k)+k≤k+d)↔cc (x/2 ^ k)≤d by omega,cK,cK,Nat.pow_add,Nat.div_lt_iff_lt_mul (Nat.pow_pos (by decide)),ad1]
  ·rw[cK]
   have h2:2 ^ w≤2 ^ k:=adl (by decide) (by omega)
   omega
 exact Nat.le_antisymm ((key _).2 (aa8 _)) ((key _).1 (aa8 _))
def fC:ByteArray:=⟨⟨[0,1,2,2,3,3,3,3,4,4,4,4,4,4,4,4,5,5,5,5,5,5,5,5,5,5,5,5,5,5,5,5,6,6,6,6,6,6,6,6,6,6,6,6,6,6,6,6,6,6,6,6,6,6,6,6,6,6,6,6,6,6,6,6,7,7,7,7,7,7,7,7,7,7,7,7,7,7,7,7,7,7,7,7,7,7,7,7,7,7,7,7,7,7,7,7,7,7,7,7,7,7,7,7,7,7,7,7,7,7,7,7,7,7,7,7,7,7,7,7,7,7,7,7,7,7,7,7,8,8,8,8,8,8,8,8,8,8,8,8,8,8,8,8,8,8,8,8,8,8,8,8,8,8,8,8,8,8,8,8,8,8,8,8,8,8,8,8,8,8,8,8,8,8,8,8,8,8,8,8,8,8,8,8,8,8,8,8,8,8,8,8,8,8,8,8,8,8,8,8,8,8,8,8,8,8,8,8,8,8,8,8,8,8,8,8,8,8,8,8,8,8,8,8,8,8,8,8,8,8,8,8,8,8,8,8,8,8,8,8,8,8,8,8,8,8,8,8,8,8,8,8,8,8,8,8]⟩⟩
theorem z6:∀i:Fin 256,fC.data[(i:Nat)]?=some (UInt8.ofNat (cc i)):=by decide
theorem Ei(x:Nat):(x:Int).fdiv (2 ^ min 32 64)=((x/2 ^ 32:Nat):Int):=by rw[show min 32 64=32 from rfl,fY]
theorem Ep(x:Nat):(x:Int).fdiv (2 ^ min 16 64)=((x/2 ^ 16:Nat):Int):=by rw[show min 16 64=16 from rfl,fY]
theorem On(x:Nat):(x:Int).fdiv (2 ^ min 8 64)=((x/2 ^ 8:Nat):Int):=by rw[show min 8 64=8 from rfl,fY]
theorem Fl{x:Nat}(h:x<256):IntKind.u8.wrap (x:Int)=x:=lL (by omega) (by omega)
theorem il{x:Nat}(h:x<256):fC.data[x]?=some (UInt8.ofNat (cc x)):=z6 ⟨x,h⟩
theorem ofNat_toNat{a:Nat}(h:a<256):(UInt8.ofNat a).toNat=a:=by
 simp[UInt8.toNat_ofNat,aen h]
theorem Fs:bj (32+16)=48:=by decide
theorem E7:bj (48+8)=56:=by decide
theorem FO:bj (0+16)=16:=by decide
theorem E6:bj (16+8)=24:=by decide
theorem Fw:bj (32+8)=40:=by decide
theorem Ff:bj (0+8)=8:=by decide
theorem fc:fC.size=256:=by rfl
theorem SR(n:Nat)(H:ae)(x:Nat)(h:x<2 ^ 64):aa T (n+1) (.fn 246) [.int .u64 x] H=some (aew (cc x),H):=by
 refine ab QP (by rfl) ?_
 simp only[J5,ah,go_sem,Int.reduceToNat,Nat.reduceAdd,Nat.reduceBEq,Nat.reduceLeDiff,Nat.reduceLT,Nat.reduceMul,Nat.reduceSub,Int.reduceEq,Int.reduceLT,Int.reduceLE,Int.reduceNeg]
 rw[←fC]
 by_cases h32:4294967296≤x
 ·have hd32:decide ((4294967296:Int)≤(x:Int))=true:=aaV (by omega)
  have hl32:=gY (x:=x) (k:=32) (by omega)
  obtain⟨y32,hy32⟩:∃z,x/2 ^ 32=z:=⟨_,rfl⟩
  rw[hy32]at hl32
  have hb32:y32<4294967296:=by omega
  by_cases h16:65536≤y32
  ·have hd16:decide ((65536:Int)≤(y32:Int))=true:=aaV (by omega)
   have hl16:=gY (x:=y32) (k:=16) (by omega)
   obtain⟨y16,hy16⟩:∃z,y32/2 ^ 16=z:=⟨_,rfl⟩
   rw[hy16]at hl16
   have hb16:y16<65536:=by omega
   by_cases h8:256≤y16
   ·have hd8:decide ((256:Int)≤(y16:Int))=true:=aaV (by omega)
    have hl8:=gY (x:=y16) (k:=8) (by omega)
    obtain⟨y8,hy8⟩:∃z,y16/2 ^ 8=z:=⟨_,rfl⟩
    rw[hy8]at hl8
    have hb8:y8<256:=by omega
    have hu:=Fl (x:=y8) (by omega)
    have hg:=il (x:=y8) (by omega)
    have hn:(UInt8.ofNat (cc y8)).toNat=cc y8:=by have:=(cK (x:=y8) (w:=8)).2 (by omega);exact ofNat_toNat (by omega)
    have hn2:cc y8≤8:=(cK (x:=y8) (w:=8)).2 (by omega)
    have hz:decide ((y8:Int)<256)=true:=aaV (by omega)
    have hz0:decide ((0:Int)≤(y8:Int))=true:=aaV (by omega)
    have hw1:bj ((cc y8:Nat):Int)=(cc y8:Nat):=ax (by omega) (by omega)
    have hw2:bj (56+((cc y8:Nat):Int))=(cc x:Nat):=by rw[ax (by omega) (by omega)];omega
    simp only[go_sem,Int.reduceToNat,Nat.reduceAdd,Nat.reduceBEq,Nat.reduceLeDiff,Nat.reduceLT,Nat.reduceMul,Nat.reduceSub,Int.reduceEq,Int.reduceLT,Int.reduceLE,Int.reduceNeg,hd32,Ei,hy32,hd16,Ep,hy16,hd8,On,hy8,hu,hg,hn,hz,hz0,hw1,hw2,fc,abD,Fs,E7,FO,E6,Fw,Ff]
    try rfl
   ·have hd8:decide ((256:Int)≤(y16:Int))=false:=aaZ (by omega)
    have hu:=Fl (x:=y16) (by omega)
    have hg:=il (x:=y16) (by omega)
    have hn:(UInt8.ofNat (cc y16)).toNat=cc y16:=by have:=(cK (x:=y16) (w:=8)).2 (by omega);exact ofNat_toNat (by omega)
    have hn2:cc y16≤8:=(cK (x:=y16) (w:=8)).2 (by omega)
    have hz:decide ((y16:Int)<256)=true:=aaV (by omega)
    have hz0:decide ((0:Int)≤(y16:Int))=true:=aaV (by omega)
    have hw1:bj ((cc y16:Nat):Int)=(cc y16:Nat):=ax (by omega) (by omega)
    have hw2:bj (48+((cc y16:Nat):Int))=(cc x:Nat):=by rw[ax (by omega) (by omega)];omega
    simp only[go_sem,Int.reduceToNat,Nat.reduceAdd,Nat.reduceBEq,Nat.reduceLeDiff,Nat.reduceLT,Nat.reduceMul,Nat.reduceSub,Int.reduceEq,Int.reduceLT,Int.reduceLE,Int.reduceNeg,hd32,Ei,hy32,hd16,Ep,hy16,hd8,hu,hg,hn,hz,hz0,hw1,hw2,fc,abD,Fs,E7,FO,E6,Fw,Ff]
    try rfl
  ·have hd16:decide ((65536:Int)≤(y32:Int))=false:=aaZ (by omega)
   by_cases h8:256≤y32
   ·have hd8:decide ((256:Int)≤(y32:Int))=true:=aaV (by omega)
    have hl8:=gY (x:=y32) (k:=8) (by omega)
    obtain⟨y8,hy8⟩:∃z,y32/2 ^ 8=z:=⟨_,rfl⟩
    rw[hy8]at hl8
    have hb8:y8<256:=by omega
    have hu:=Fl (x:=y8) (by omega)
    have hg:=il (x:=y8) (by omega)
    have hn:(UInt8.ofNat (cc y8)).toNat=cc y8:=by have:=(cK (x:=y8) (w:=8)).2 (by omega);exact ofNat_toNat (by omega)
    have hn2:cc y8≤8:=(cK (x:=y8) (w:=8)).2 (by omega)
    have hz:decide ((y8:Int)<256)=true:=aaV (by omega)
    have hz0:decide ((0:Int)≤(y8:Int))=true:=aaV (by omega)
    have hw1:bj ((cc y8:Nat):Int)=(cc y8:Nat):=ax (by omega) (by omega)
    have hw2:bj (40+((cc y8:Nat):Int))=(cc x:Nat):=by rw[ax (by omega) (by omega)];omega
    simp only[go_sem,Int.reduceToNat,Nat.reduceAdd,Nat.reduceBEq,Nat.reduceLeDiff,Nat.reduceLT,Nat.reduceMul,Nat.reduceSub,Int.reduceEq,Int.reduceLT,Int.reduceLE,Int.reduceNeg,hd32,Ei,hy32,hd16,hd8,On,hy8,hu,hg,hn,hz,hz0,hw1,hw2,fc,abD,Fs,E7,FO,E6,Fw,Ff]
    try rfl
   ·have hd8:decide ((256:Int)≤(y32:Int))=false:=aaZ (by omega)
    have hu:=Fl (x:=y32) (by omega)
    have hg:=il (x:=y32) (by omega)
    have hn:(UInt8.ofNat (cc y32)).toNat=cc y32:=by have:=(cK (x:=y32) (w:=8)).2 (by omega);exact ofNat_toNat (by omega)
    have hn2:cc y32≤8:=(cK (x:=y32) (w:=8)).2 (by omega)
    have hz:decide ((y32:Int)<256)=true:=aaV (by omega)
    have hz0:decide ((0:Int)≤(y32:Int))=true:=aaV (by omega)
    have hw1:bj ((cc y32:Nat):Int)=(cc y32:Nat):=ax (by omega) (by omega)
    have hw2:bj (32+((cc y32:Nat):Int))=(cc x:Nat):=by rw[ax (by omega) (by omega)];omega
    simp only[go_sem,Int.reduceToNat,Nat.reduceAdd,Nat.reduceBEq,Nat.reduceLeDiff,Nat.reduceLT,Nat.reduceMul,Nat.reduceSub,Int.reduceEq,Int.reduceLT,Int.reduceLE,Int.reduceNeg,hd32,Ei,hy32,hd16,hd8,hu,hg,hn,hz,hz0,hw1,hw2,fc,abD,Fs,E7,FO,E6,Fw,Ff]
    try rfl
 ·have hd32:decide ((4294967296:Int)≤(x:Int))=false:=aaZ (by omega)
  by_cases h16:65536≤x
  ·have hd16:decide ((65536:Int)≤(x:Int))=true:=aaV (by omega)
   have hl16:=gY (x:=x) (k:=16) (by omega)
   obtain⟨y16,hy16⟩:∃z,x/2 ^ 16=z:=⟨_,rfl⟩
   rw[hy16]at hl16
   have hb16:y16<65536:=by omega
   by_cases h8:256≤y16
   ·have hd8:decide ((256:Int)≤(y16:Int))=true:=aaV (by omega)
    have hl8:=gY (x:=y16) (k:=8) (by omega)
    obtain⟨y8,hy8⟩:∃z,y16/2 ^ 8=z:=⟨_,rfl⟩
    rw[hy8]at hl8
    have hb8:y8<256:=by omega
    have hu:=Fl (x:=y8) (by omega)
    have hg:=il (x:=y8) (by omega)
    have hn:(UInt8.ofNat (cc y8)).toNat=cc y8:=by have:=(cK (x:=y8) (w:=8)).2 (by omega);exact ofNat_toNat (by omega)
    have hn2:cc y8≤8:=(cK (x:=y8) (w:=8)).2 (by omega)
    have hz:decide ((y8:Int)<256)=true:=aaV (by omega)
    have hz0:decide ((0:Int)≤(y8:Int))=true:=aaV (by omega)
    have hw1:bj ((cc y8:Nat):Int)=(cc y8:Nat):=ax (by omega) (by omega)
    have hw2:bj (24+((cc y8:Nat):Int))=(cc x:Nat):=by rw[ax (by omega) (by omega)];omega
    simp only[go_sem,Int.reduceToNat,Nat.reduceAdd,Nat.reduceBEq,Nat.reduceLeDiff,Nat.reduceLT,Nat.reduceMul,Nat.reduceSub,Int.reduceEq,Int.reduceLT,Int.reduceLE,Int.reduceNeg,hd32,hd16,Ep,hy16,hd8,On,hy8,hu,hg,hn,hz,hz0,hw1,hw2,fc,abD,Fs,E7,FO,E6,Fw,Ff]
    try rfl
   ·have hd8:decide ((256:Int)≤(y16:Int))=false:=aaZ (by omega)
    have hu:=Fl (x:=y16) (by omega)
    have hg:=il (x:=y16) (by omega)
    have hn:(UInt8.ofNat (cc y16)).toNat=cc y16:=by have:=(cK (x:=y16) (w:=8)).2 (by omega);exact ofNat_toNat (by omega)
    have hn2:cc y16≤8:=(cK (x:=y16) (w:=8)).2 (by omega)
    have hz:decide ((y16:Int)<256)=true:=aaV (by omega)
    have hz0:decide ((0:Int)≤(y16:Int))=true:=aaV (by omega)
    have hw1:bj ((cc y16:Nat):Int)=(cc y16:Nat):=ax (by omega) (by omega)
    have hw2:bj (16+((cc y16:Nat):Int))=(cc x:Nat):=by rw[ax (by omega) (by omega)];omega
    simp only[go_sem,Int.reduceToNat,Nat.reduceAdd,Nat.reduceBEq,Nat.reduceLeDiff,Nat.reduceLT,Nat.reduceMul,Nat.reduceSub,Int.reduceEq,Int.reduceLT,Int.reduceLE,Int.reduceNeg,hd32,hd16,Ep,hy16,hd8,hu,hg,hn,hz,hz0,hw1,hw2,fc,abD,Fs,E7,FO,E6,Fw,Ff]
    try rfl
  ·have hd16:decide ((65536:Int)≤(x:Int))=false:=aaZ (by omega)
   by_cases h8:256≤x
   ·have hd8:decide ((256:Int)≤(x:Int))=true:=aaV (by omega)
    have hl8:=gY (x:=x) (k:=8) (by omega)
    obtain⟨y8,hy8⟩:∃z,x/2 ^ 8=z:=⟨_,rfl⟩
    rw[hy8]at hl8
    have hb8:y8<256:=by omega
    have hu:=Fl (x:=y8) (by omega)
    have hg:=il (x:=y8) (by omega)
    have hn:(UInt8.ofNat (cc y8)).toNat=cc y8:=by have:=(cK (x:=y8) (w:=8)).2 (by omega);exact ofNat_toNat (by omega)
    have hn2:cc y8≤8:=(cK (x:=y8) (w:=8)).2 (by omega)
    have hz:decide ((y8:Int)<256)=true:=aaV (by omega)
    have hz0:decide ((0:Int)≤(y8:Int))=true:=aaV (by omega)
    have hw1:bj ((cc y8:Nat):Int)=(cc y8:Nat):=ax (by omega) (by omega)
    have hw2:bj (8+((cc y8:Nat):Int))=(cc x:Nat):=by rw[ax (by omega) (by omega)];omega
    simp only[go_sem,Int.reduceToNat,Nat.reduceAdd,Nat.reduceBEq,Nat.reduceLeDiff,Nat.reduceLT,Nat.reduceMul,Nat.reduceSub,Int.reduceEq,Int.reduceLT,Int.reduceLE,Int.reduceNeg,hd32,hd16,hd8,On,hy8,hu,hg,hn,hz,hz0,hw1,hw2,fc,abD,Fs,E7,FO,E6,Fw,Ff]
    try rfl
   ·have hd8:decide ((256:Int)≤(x:Int))=false:=aaZ (by omega)
    have hu:=Fl (x:=x) (by omega)
    have hg:=il (x:=x) (by omega)
    have hn:(UInt8.ofNat (cc x)).toNat=cc x:=by have:=(cK (x:=x) (w:=8)).2 (by omega);exact ofNat_toNat (by omega)
    have hn2:cc x≤8:=(cK (x:=x) (w:=8)).2 (by omega)
    have hz:decide ((x:Int)<256)=true:=aaV (by omega)
    have hz0:decide ((0:Int)≤(x:Int))=true:=aaV (by omega)
    have hw1:bj ((cc x:Nat):Int)=(cc x:Nat):=ax (by omega) (by omega)
    have hw2:bj (0+((cc x:Nat):Int))=(cc x:Nat):=by rw[ax (by omega) (by omega)];omega
    simp only[go_sem,Int.reduceToNat,Nat.reduceAdd,Nat.reduceBEq,Nat.reduceLeDiff,Nat.reduceLT,Nat.reduceMul,Nat.reduceSub,Int.reduceEq,Int.reduceLT,Int.reduceLE,Int.reduceNeg,hd32,hd16,hd8,hu,hg,hn,hz,hz0,hw1,hw2,fc,abD,Fs,E7,FO,E6,Fw,Ff]
    try rfl
end fh
section
namespace fh
abbrev wH(b0:aK)(bs:List Bool)(tl:List aK)(es:List (Nat×Nat)):ae:=⟨b0::wB bs::wA bs::tl,es,0⟩
abbrev ek(bs:List Bool)(w:Nat):List (Nat×Nat):=List.replicate (nb (bs.length+w)-nb bs.length) (1,3)
theorem JS(n:Nat)(H:ae)(x:Nat)(h:x<2 ^ 64):aa T (n+2) (.fn 233) [.int .u64 x] H=some (aew (cc x),H):=by
 refine ab Wp (by rfl) ?_
 simp only[NU,ah,go_sem,simprocAttr,SR _ _ _ h]
theorem K5(n:Nat)(H:ae)(x:Int):aa T (n+1) (.fn 239) [aew x] H=some (.bool (decide (1≤x)&&decide (x≤4095)),H):=by
 refine ab V2 (by rfl) ?_
 simp only[NW,ah,go_sem,simprocAttr]
 repeat' (with_reducible refine aA (fun _=>?_) (fun _=>?_)<;>simp only[*,go_sem,simprocAttr])
theorem QR(n:Nat)(H:ae):aa T (n+3) (.fn 240) [aew 127] H=some (aew 7,H):=by
 refine ab TU (by rfl) ?_
 have h:∀H,aa T (n+2) (.fn 233) [.int .u64 127] H=some (aew 7,H):=fun H=>JS n H 127 (by decide)
 have e:IntKind.u64.wrap 127=127:=by decide
 have e3:max (1:Int) 7=7:=by decide
 simp only[Mo,ah,go_sem,simprocAttr,e,h,e3]
section
variable(b0:aK)(tl:List aK)(es:List (Nat×Nat))(bs:List Bool)
theorem Gc(n:Nat)(w v:Nat)(v':Int)(hw:w≤63)(hv:v<2 ^ 64)(hv':IntKind.u64.wrap v'=v)(hb:bs.length+w≤524288) :
 aa T (n+2) (.fn 231) [.ptr 1 0 0 0,.bool true,.bool true,aew w,aew v'] (wH b0 bs tl es)=some (.bk [],wH b0 (bs++bits w v) tl (es++ek bs w)):=by
 refine bm UG (by rfl) ?_
 have h:=fun es=>Hv n b0 tl es bs w v hw hv (by omega)
 have hx:decide (((bs.length:Int))+w>524288)=false:=aaZ (by omega)
 have hx2:decide ((524288:Int)<(bs.length:Int)+w)=false:=aaZ (by omega)
 have hs:bj ((bs.length:Int)+w)=bs.length+w:=ax (by omega) (by omega)
 have l0:decide (0<tl.length+1+1+1)=true:=aaV (by omega)
 have l1:decide (1<tl.length+1+1+1)=true:=aaV (by omega)
 have l2:decide (2<tl.length+1+1+1)=true:=aaV (by omega)
 have l3':decide (tl.length+1+1+1<3)=false:=aaZ (by omega)
 have l3:decide (3≤tl.length+1+1+1)=true:=aaV (by omega)
 simp only[Kz,go_sem,simprocAttr,hs,hx,hx2,hv',h,l0,l1,l2,l3,l3',aa7,abe,ite_self,if_true]
theorem Q8(n:Nat)(f:Bool)(hb:bs.length+1≤524288) :
 aa T (n+3) (.fn 220) [.ptr 1 0 0 0,.bool f] (wH b0 bs tl es)=some (.bk [],wH b0 (bs++bits 1 (bt f)) tl (es++ek bs 1)):=by
 refine bm SN (by rfl) ?_
 have h:=fun es=>Gc b0 tl es bs n 1 (bt f) (bt f) (by omega) (by have:=vR f;omega) (by have:=vR f;exact mG (by omega) (by omega)) hb
 have l1:decide (1<tl.length+1+1+1)=true:=aaV (by omega)
 have l3':decide (tl.length+1+1+1<3)=false:=aaZ (by omega)
 have l3:decide (3≤tl.length+1+1+1)=true:=aaV (by omega)
 cases f with
 |false=>
  have h:∀es,aa T (n+2) (.fn 231) [.ptr 1 0 0 0,.bool true,.bool true,aew 1,aex] (wH b0 bs tl es)=some (.bk [],wH b0 (bs++bits 1 0) tl (es++ek bs 1)):=h
  simp only[Hs,bt,go_sem,simprocAttr,h,l1,l3,l3',aa7,abe,ite_self,if_true]
 |true=>
  have h:∀es,aa T (n+2) (.fn 231) [.ptr 1 0 0 0,.bool true,.bool true,aew 1,aew 1] (wH b0 bs tl es)=some (.bk [],wH b0 (bs++bits 1 1) tl (es++ek bs 1)):=h
  simp only[Hs,bt,go_sem,simprocAttr,h,l1,l3,l3',aa7,abe,ite_self,if_true]
theorem NF(n:Nat)(w v:Nat)(h1:1≤w)(hw:w≤62)(hv:v<2 ^ w)(hb:bs.length+w≤524288) :
 aa T (n+3) (.fn 218) [.ptr 1 0 0 0,aew w,aew v] (wH b0 bs tl es)=some (.bk [],wH b0 (bs++bits w v) tl (es++ek bs w)):=by
 refine bm S0 (by rfl) ?_
 have h63:2 ^ w≤2 ^ 62:=adl (by decide) hw
 have hv':IntKind.u64.wrap (v:Int)=v:=mG (by omega) (by omega)
 have h:=fun es=>Gc b0 tl es bs n w v v (by omega) (by omega) hv' hb
 have h97:=fun H=>JS n H v (by omega)
 have hl:=(cK (x:=v) (w:=w)).2 hv
 have x1:decide ((1:Int)≤w)=true:=aaV (by omega)
 have x2:decide ((w:Int)≤63)=true:=aaV (by omega)
 have x3:decide (((cc v:Nat):Int)≤w)=true:=aaV (by omega)
 have l1:decide (1<tl.length+1+1+1)=true:=aaV (by omega)
 have l3':decide (tl.length+1+1+1<3)=false:=aaZ (by omega)
 have l3:decide (3≤tl.length+1+1+1)=true:=aaV (by omega)
 simp only[Ku,go_sem,simprocAttr,h,h97,hv',x1,x2,x3,l1,l3,l3',aa7,abe,ite_self,if_true]
end
end fh
end
section
namespace fh
def vF(x:Int):Nat:=(x%18446744073709551616).toNat
theorem Ga(x:Int):vF x<2 ^ 64:=by unfold vF;omega
theorem BV(x:Int):IntKind.u64.wrap x=(vF x:Nat):=by
 have e:IntKind.u64.wrap x=x%18446744073709551616:=by simp[IntKind.wrap,IntKind.bits,IntKind.signed]
 unfold vF;rw[e];omega
theorem cq{bs bs':List Bool}{a b:Nat}(h:bs'.length=bs.length+a):ek bs a++ek bs' b=ek bs (a+b):=by
 unfold ek
 rw[List.replicate_append_replicate,h]
 congr 1
 unfold nb;omega
section
variable(b0:aK)(tl:List aK)(es:List (Nat×Nat))(bs:List Bool)
theorem Tf(n:Nat)(x:Int)(h0: -32768≤x)(h1:x≤32767)(hb:bs.length+16≤524288) :
 aa T (n+3) (.fn 216) [.ptr 1 0 0 0,aew 16,aew x] (wH b0 bs tl es)=some (.bk [],wH b0 (bs++bits 16 (vF x)) tl (es++ek bs 16)):=by
 refine bm QZ (by rfl) ?_
 have h:∀es,aa T (n+2) (.fn 231) [.ptr 1 0 0 0,.bool true,.bool true,aew 16,aew x] (wH b0 bs tl es)=some (.bk [],wH b0 (bs++bits 16 (vF x)) tl (es++ek bs 16)):=fun es=>Gc b0 tl es bs n 16 (vF x) x (by omega) (Ga x) (BV x) hb
 have x1:decide (-32768≤x)=true:=aaV h0
 have x2:decide (x≤32767)=true:=aaV h1
 have m1:max (16:Int) 1=16:=by decide
 have m2:bj (16-1)=15:=by decide
 have m3:bj (-1*2 ^ min 15 64)= -32768:=by decide
 have m4:bj (1*2 ^ min 15 64)=32768:=by decide
 have m5:bj (32768-1)=32767:=by decide
 have l1:decide (1<tl.length+1+1+1)=true:=aaV (by omega)
 have l3':decide (tl.length+1+1+1<3)=false:=aaZ (by omega)
 have l3:decide (3≤tl.length+1+1+1)=true:=aaV (by omega)
 simp only[Ko,go_sem,Int.reduceToNat,Nat.reduceAdd,Nat.reduceBEq,Nat.reduceLeDiff,Nat.reduceLT,Nat.reduceMul,Nat.reduceSub,Int.reduceEq,Int.reduceLT,Int.reduceLE,Int.reduceNeg,h,x1,x2,m1,m2,m3,m4,m5,l1,l3,l3',aa7,abe,ite_self,if_true]
def ic(x:ByteArray):Nat→List Bool
 |0=>[]
 |i+1=>ic x i++bits 8 ((x.data[i]?).getD 0).toNat
theorem gC(x:ByteArray):∀i,(ic x i).length=8*i
 |0=>rfl
 |i+1=>by simp only[ic,aaT,gC x i,aw];omega
theorem UW(n:Nat)(x:ByteArray)(hx:x.size≤127)(hb:bs.length≤1000) :
 aa T (n+4) (.fn 229) [.ptr 1 0 0 0,aew 127,.str x] (wH b0 bs tl es)=some (.bk [],wH b0 (bs++bits 7 x.size++ic x x.size) tl (es++ek bs (7+8*x.size))):=by
 refine bm KE (by rfl) ?_
 have h101:=fun H=>K5 (n+2) H 127
 have h102:=fun H=>QR n H
 have x1:decide ((127:Int)<(x.size:Int))=false:=aaZ (by omega)
 have w1:bj ((bs.length:Int)+7)=(bs.length:Int)+7:=ax (by omega) (by omega)
 have w2:bj (8*(x.size:Int))=8*(x.size:Int):=ax (by omega) (by omega)
 have w3:bj ((bs.length:Int)+7+8*(x.size:Int))=(bs.length:Int)+7+8*(x.size:Int):=ax (by omega) (by omega)
 have x2:decide ((524288:Int)<(bs.length:Int)+7+8*(x.size:Int))=false:=aaZ (by omega)
 have hu:IntKind.u64.wrap (x.size:Int)=(x.size:Nat):=mG (by omega) (by omega)
 have h103:∀es,aa T (n+3) (.fn 241) [.ptr 1 0 0 0,aew 7,.int .u64 x.size] (wH b0 bs tl es)=some (.bk [],wH b0 (bs++bits 7 x.size) tl (es++ek bs 7)):=fun es=>Hv (n+2) b0 tl es bs 7 x.size (by omega) (by omega) (by omega)
 have l0:decide (0<tl.length+1+1+1)=true:=aaV (by omega)
 have l1:decide (1<tl.length+1+1+1)=true:=aaV (by omega)
 have l2:decide (2<tl.length+1+1+1)=true:=aaV (by omega)
 have l3':decide (tl.length+1+1+1<3)=false:=aaZ (by omega)
 have l3:decide (3≤tl.length+1+1+1)=true:=aaV (by omega)
 have hN:decide (max 2 0≤tl.length+1+1+1)=true:=aaV (by omega)
 simp only[GL,go_sem,Int.reduceToNat,Nat.reduceAdd,Nat.reduceBEq,Nat.reduceLeDiff,Nat.reduceLT,Nat.reduceMul,Nat.reduceSub,Int.reduceEq,Int.reduceLT,Int.reduceLE,Int.reduceNeg,h101,h102,x1,w1,w2,w3,x2,hu,h103,l0,l1,l2,l3,l3',aa7,abe,ite_self,if_true]
 have hP:(bs++bits 7 x.size).length=bs.length+7:=by rw[aaT,aw]
 obtain⟨P,hPd⟩:∃P,bs++bits 7 x.size=P:=⟨_,rfl⟩
 rw[hPd]at hP⊢
 rw[←cq (bs':=P) (by omega),←aaU]
 have hx2:x.size≤maxLen:=abv hx (by decide)
 refine aY (fun i=>([(0,.ptr 1 0 0 0),(2,.str x),(15,aew x.size),(16,aew i)],⟨b0::wB (P++ic x i)::wA (P++ic x i)::tl,ek P (8*i),0⟩)) (fun _=>True) x.size ?_ trivial ?_
 ·simp only[go_sem,Int.reduceToNat,Nat.reduceAdd,Nat.reduceBEq,Nat.reduceLeDiff,Nat.reduceLT,Nat.reduceMul,Nat.reduceSub,Int.reduceEq,Int.reduceLT,Int.reduceLE,Int.reduceNeg,hN,l0,l1,l2,l3,l3',ic,abQ,Nat.mul_zero,acL,ad3,ac0]
  rw[show ek P 0=[] by simp[ek]]
 ·intro i hi _
  rcases aa4 i x.size with hlt|hge
  ·have hs:=br hlt hx2
   have hd:x.data[i]?=some x.data[i]:=abU (by exact hlt)
   have hv:=aei x.data[i]
   have hu8:IntKind.u64.wrap ((x.data[i].toNat:Nat):Int)=(x.data[i].toNat:Nat):=mG (by omega) (by omega)
   have h1:∀es,aa T (n+3) (.fn 241) [.ptr 1 0 0 0,aew 8,.int .u64 (x.data[i].toNat:Nat)] (wH b0 (P++ic x i) tl es)=some (.bk [],wH b0 (P++ic x i++bits 8 x.data[i].toNat) tl (es++ek (P++ic x i) 8)):=
    fun es=>Hv (n+2) b0 tl es (P++ic x i) 8 x.data[i].toNat (by omega) (by omega) (by rw[aaT,gC];omega)
   have hB:P++ic x i++bits 8 x.data[i].toNat=P++ic x (i+1):=by simp only[ic,hd,acj,aaU]
   have hE:ek P (8*i)++ek (P++ic x i) 8=ek P (8*(i+1)):=by rw[cq (by rw[aaT,gC])];rfl
   rw[hB]at h1
   simp only[go_sem,Int.reduceToNat,Nat.reduceAdd,Nat.reduceBEq,Nat.reduceLeDiff,Nat.reduceLT,Nat.reduceMul,Nat.reduceSub,Int.reduceEq,Int.reduceLT,Int.reduceLE,Int.reduceNeg,hlt,hd,hu8,h1,hE,hs,hN,l0,l1,l2,l3,l3',aa7,abe,ite_self,if_true]
   refine⟨by first|trivial|omega,by first|trivial|rfl,trivial⟩
  ·obtain rfl:i=x.size:=by omega
   have hd:decide (x.size<x.size)=false:=aaZ (by omega)
   simp only[go_sem,Int.reduceToNat,Nat.reduceAdd,Nat.reduceBEq,Nat.reduceLeDiff,Nat.reduceLT,Nat.reduceMul,Nat.reduceSub,Int.reduceEq,Int.reduceLT,Int.reduceLE,Int.reduceNeg,hd,hN,l0,l1,l2,l3,l3',aa7,abe,abl,aby,ite_self,if_true,abn,aaU]
end
end fh
end
section
namespace fh
abbrev pW:SV:=.agg [.ptr 1 0 0 0,.dc]
section
variable(n:Nat)(cs:List SV)(t1 t2 t3:aK)(es:List (Nat×Nat))(bs:List Bool)
theorem fB(w v j:Nat)(hj:cs[j]?=some (aew v))(h1:1≤w)(hw:w≤62)(hv:v<2 ^ w)(hb:bs.length+w≤524288) :
 aa T (n+4) (.fn 201) [pW,aew w,.ptr 0 0 0 j] (wH (.box cs) bs [t1,t2] es)=some (.bk [],wH (.box cs) (bs++bits w v) [t1,t2] (es++ek bs w)):=by
 refine bm Ml (by rfl) ?_
 have h:=fun t es=>NF (.box cs) [t1,t2,t] es bs n w v h1 hw hv hb
 simp only[F6,go_sem,simprocAttr,h,hj,abg,abh,aa7,abe,ite_self,if_true]
theorem qe(w v j:Nat)(hj:cs[j]?=some (aew v))(h1:1≤w)(hw:w≤62)(hv:v<2 ^ w)(hb:bs.length+w≤524288) :
 aa T (n+4) (.fn 201) [pW,aew w,.ptr 0 0 0 j] (wH (.box cs) bs [t1,t2,t3] es)=some (.bk [],wH (.box cs) (bs++bits w v) [t1,t2,t3] (es++ek bs w)):=by
 refine bm Ml (by rfl) ?_
 have h:=fun t es=>NF (.box cs) [t1,t2,t3,t] es bs n w v h1 hw hv hb
 simp only[F6,go_sem,simprocAttr,h,hj,abg,abh,aa7,abe,abl,aby,abn,aaU,ite_self,if_true]
theorem Hy(x:ByteArray)(j:Nat)(hj:cs[j]?=some (.str x))(hx:x.size≤127)(hb:bs.length≤1000) :
 aa T (n+5) (.fn 215) [pW,.ptr 0 0 0 j] (wH (.box cs) bs [t1,t2,t3] es)=some (.bk [],wH (.box cs) (bs++bits 7 x.size++ic x x.size) [t1,t2,t3] (es++ek bs (7+8*x.size))):=by
 refine bm Nn (by rfl) ?_
 have h:=fun t es=>UW (.box cs) [t1,t2,t3,t] es bs n x hx hb
 simp only[Hk,go_sem,simprocAttr,h,hj,abg,abh,aa7,abe,abl,aby,abn,aaU,ite_self,if_true]
def av(d:Int):List Bool:=bits 1 (bt (decide (0≤d)))++bif decide (0≤d)then bits 5 d.toNat else[]
def bH(d:Int):Nat:=1+bif decide (0≤d)then 5 else 0
theorem bw(d:Int):(av d).length=bH d:=by
 unfold av bH;cases decide (0≤d)<;>simp[aw]
section
variable(k s d q o c m e t u v:Int)(x:ByteArray)
theorem xy(hd:d<32)(hd0:d<0→d= -1)(hb:bs.length≤1000) :
 aa T (n+6) (.fn 202) [pW,.ptr 0 0 0 2] (wH (aK.box (fr k s d q o c m e t u v x)) bs [t1,t2] es)=some (.bk [],wH (aK.box (fr k s d q o c m e t u v x)) (bs++av d) [t1,t2] (es++ek bs (bH d))):=by
 refine bm QB (by rfl) ?_
 have h87:=fun tt es f=>Q8 (aK.box (fr k s d q o c m e t u v x)) [t1,t2,tt] es bs (n+2) f (by omega)
 cases hf:decide (0≤d)with
 |false=>
  have h87:=fun tt es=>h87 tt es false
  have hd1:d= -1:=by simp only[aa0]at hf;omega
  subst hd1
  simp only[G2,go_sem,simprocAttr,h87,hf,av,bH,abg,abh,aa7,abe,abl,aby,abn,aaU,ite_self,if_true]
 |true=>
  have h87:=fun tt es=>h87 tt es true
  simp only[aaX]at hf
  have h61:∀tt es,aa T (n+5) (.fn 201) [pW,aew 5,.ptr 0 0 0 2] (wH (aK.box (fr k s d q o c m e t u v x)) (bs++bits 1 (bt true)) [t1,t2,tt] es)=some (.bk [],wH (aK.box (fr k s d q o c m e t u v x)) (bs++bits 1 (bt true)++bits 5 d.toNat) [t1,t2,tt] (es++ek (bs++bits 1 (bt true)) 5)):=
   fun t' es=>qe (n+1) _ t1 t2 t' es (bs++bits 1 (bt true)) 5 d.toNat 2 (by rw[aba hf];rfl) (by omega) (by omega) (by omega) (by rw[aaT,aw];omega)
  have hf2:decide (0≤d)=true:=aaV hf
  have hk:ek bs 6=ek bs 1++ek (bs++bits 1 (bt true)) 5:=(cq (bs:=bs) (bs':=bs++bits 1 (bt true)) (a:=1) (b:=5) (by rw[aaT,aw])).symm
  simp only[G2,go_sem,simprocAttr,h87,h61,hf2,av,bH,hk,abg,abh,aa7,abe,abl,aby,abn,aaU,ite_self,if_true]
theorem RS(hc:0≤c∧c≤255)(hm:0≤m∧m≤65535)(hx:x.size≤127)(hb:bs.length≤900) :
 aa T (n+6) (.fn 197) [pW,.ptr 0 0 0 0] (wH (aK.box (fr k s d q o c m e t u v x)) bs [t1,t2] es)=some (.bk [],wH (aK.box (fr k s d q o c m e t u v x)) (bs++(bits 8 c.toNat++(bits 16 m.toNat++(bits 7 x.size++(ic x x.size))))) [t1,t2] (es++ek bs (24+(7+8*x.size)))):=by
 refine bm N4 (by rfl) ?_
 have h0:∀t' es,aa T (n+5) (.fn 201) [pW,aew 8,.ptr 0 0 0 5] (wH (aK.box (fr k s d q o c m e t u v x)) bs [t1,t2,t'] es)=some (.bk [],wH (aK.box (fr k s d q o c m e t u v x)) (bs++(bits 8 c.toNat)) [t1,t2,t'] (es++ek bs 8)):=fun t' es=>by
  have:=qe (n+1) _ t1 t2 t' es bs 8 c.toNat 5 (show(fr k s d q o c m e t u v x)[5]?=_ by rw[aba hc.1];rfl) (by omega) (by omega) (by omega) (by omega)
  try simp only[aaU]at this
  exact this
 have l0:(bs++(bits 8 c.toNat)).length=bs.length+8:=by simp only[aaT,aw]<;>omega
 have h1:∀t' es,aa T (n+5) (.fn 201) [pW,aew 16,.ptr 0 0 0 6] (wH (aK.box (fr k s d q o c m e t u v x)) (bs++(bits 8 c.toNat)) [t1,t2,t'] es)=some (.bk [],wH (aK.box (fr k s d q o c m e t u v x)) (bs++(bits 8 c.toNat++(bits 16 m.toNat))) [t1,t2,t'] (es++ek (bs++(bits 8 c.toNat)) 16)):=fun t' es=>by
  have:=qe (n+1) _ t1 t2 t' es (bs++(bits 8 c.toNat)) 16 m.toNat 6 (show(fr k s d q o c m e t u v x)[6]?=_ by rw[aba hm.1];rfl) (by omega) (by omega) (by omega) (by rw[l0];omega)
  try simp only[aaU]at this
  exact this
 have l1:(bs++(bits 8 c.toNat++(bits 16 m.toNat))).length=bs.length+24:=by simp only[aaT,aw]<;>omega
 have ht:∀t' es,aa T (n+5) (.fn 215) [pW,.ptr 0 0 0 11] (wH (aK.box (fr k s d q o c m e t u v x)) (bs++(bits 8 c.toNat++(bits 16 m.toNat))) [t1,t2,t'] es)=some (.bk [],wH (aK.box (fr k s d q o c m e t u v x)) (bs++(bits 8 c.toNat++(bits 16 m.toNat++(bits 7 x.size++(ic x x.size))))) [t1,t2,t'] (es++ek (bs++(bits 8 c.toNat++(bits 16 m.toNat))) (7+8*x.size))):=fun t' es=>by
  have:=Hy n _ t1 t2 t' es (bs++(bits 8 c.toNat++(bits 16 m.toNat))) x 11 (show(fr k s d q o c m e t u v x)[11]?=some (.str x)from rfl) hx (by rw[l1];omega)
  try simp only[aaU]at this
  exact this
 have hk:ek bs (24+(7+8*x.size))=ek bs 8++ek (bs++(bits 8 c.toNat)) 16++ek (bs++(bits 8 c.toNat++(bits 16 m.toNat))) (7+8*x.size):=by rw[cq l0,cq l1]
 simp only[aaU]at hk
 rw[hk]
 simp only[Gb,go_sem,simprocAttr,h0,h1,ht,abg,abh,aa7,abe,abl,aby,abn,aaU,ite_self,if_true]
theorem Ri(ht:0≤t∧t≤109951162)(hu:0≤u∧u≤65535)(hv:0≤v∧v≤65535)(hx:x.size≤127)(hb:bs.length≤900) :
 aa T (n+6) (.fn 199) [pW,.ptr 0 0 0 0] (wH (aK.box (fr k s d q o c m e t u v x)) bs [t1,t2] es)=some (.bk [],wH (aK.box (fr k s d q o c m e t u v x)) (bs++(bits 27 t.toNat++(bits 16 u.toNat++(bits 16 v.toNat++(bits 7 x.size++(ic x x.size)))))) [t1,t2] (es++ek bs (59+(7+8*x.size)))):=by
 refine bm Kl (by rfl) ?_
 have h0:∀t' es,aa T (n+5) (.fn 201) [pW,aew 27,.ptr 0 0 0 8] (wH (aK.box (fr k s d q o c m e t u v x)) bs [t1,t2,t'] es)=some (.bk [],wH (aK.box (fr k s d q o c m e t u v x)) (bs++(bits 27 t.toNat)) [t1,t2,t'] (es++ek bs 27)):=fun t' es=>by
  have:=qe (n+1) _ t1 t2 t' es bs 27 t.toNat 8 (show(fr k s d q o c m e t u v x)[8]?=_ by rw[aba ht.1];rfl) (by omega) (by omega) (by omega) (by omega)
  try simp only[aaU]at this
  exact this
 have l0:(bs++(bits 27 t.toNat)).length=bs.length+27:=by simp only[aaT,aw]<;>omega
 have h1:∀t' es,aa T (n+5) (.fn 201) [pW,aew 16,.ptr 0 0 0 9] (wH (aK.box (fr k s d q o c m e t u v x)) (bs++(bits 27 t.toNat)) [t1,t2,t'] es)=some (.bk [],wH (aK.box (fr k s d q o c m e t u v x)) (bs++(bits 27 t.toNat++(bits 16 u.toNat))) [t1,t2,t'] (es++ek (bs++(bits 27 t.toNat)) 16)):=fun t' es=>by
  have:=qe (n+1) _ t1 t2 t' es (bs++(bits 27 t.toNat)) 16 u.toNat 9 (show(fr k s d q o c m e t u v x)[9]?=_ by rw[aba hu.1];rfl) (by omega) (by omega) (by omega) (by rw[l0];omega)
  try simp only[aaU]at this
  exact this
 have l1:(bs++(bits 27 t.toNat++(bits 16 u.toNat))).length=bs.length+43:=by simp only[aaT,aw]<;>omega
 have h2:∀t' es,aa T (n+5) (.fn 201) [pW,aew 16,.ptr 0 0 0 10] (wH (aK.box (fr k s d q o c m e t u v x)) (bs++(bits 27 t.toNat++(bits 16 u.toNat))) [t1,t2,t'] es)=some (.bk [],wH (aK.box (fr k s d q o c m e t u v x)) (bs++(bits 27 t.toNat++(bits 16 u.toNat++(bits 16 v.toNat)))) [t1,t2,t'] (es++ek (bs++(bits 27 t.toNat++(bits 16 u.toNat))) 16)):=fun t' es=>by
  have:=qe (n+1) _ t1 t2 t' es (bs++(bits 27 t.toNat++(bits 16 u.toNat))) 16 v.toNat 10 (show(fr k s d q o c m e t u v x)[10]?=_ by rw[aba hv.1];rfl) (by omega) (by omega) (by omega) (by rw[l1];omega)
  try simp only[aaU]at this
  exact this
 have l2:(bs++(bits 27 t.toNat++(bits 16 u.toNat++(bits 16 v.toNat)))).length=bs.length+59:=by simp only[aaT,aw]<;>omega
 have hT:∀t' es,aa T (n+5) (.fn 215) [pW,.ptr 0 0 0 11] (wH (aK.box (fr k s d q o c m e t u v x)) (bs++(bits 27 t.toNat++(bits 16 u.toNat++(bits 16 v.toNat)))) [t1,t2,t'] es)=some (.bk [],wH (aK.box (fr k s d q o c m e t u v x)) (bs++(bits 27 t.toNat++(bits 16 u.toNat++(bits 16 v.toNat++(bits 7 x.size++(ic x x.size)))))) [t1,t2,t'] (es++ek (bs++(bits 27 t.toNat++(bits 16 u.toNat++(bits 16 v.toNat)))) (7+8*x.size))):=fun t' es=>by
  have:=Hy n _ t1 t2 t' es (bs++(bits 27 t.toNat++(bits 16 u.toNat++(bits 16 v.toNat)))) x 11 (show(fr k s d q o c m e t u v x)[11]?=some (.str x)from rfl) hx (by rw[l2];omega)
  try simp only[aaU]at this
  exact this
 have hk:ek bs (59+(7+8*x.size))=ek bs 27++ek (bs++(bits 27 t.toNat)) 16++ek (bs++(bits 27 t.toNat++(bits 16 u.toNat))) 16++ek (bs++(bits 27 t.toNat++(bits 16 u.toNat++(bits 16 v.toNat)))) (7+8*x.size):=by rw[cq l0,cq l1,cq l2]
 simp only[aaU]at hk
 rw[hk]
 simp only[Hb,go_sem,simprocAttr,h0,h1,h2,hT,abg,abh,aa7,abe,abl,aby,abn,aaU,ite_self,if_true]
theorem Uq(hx:x.size≤127)(hb:bs.length≤900) :
 aa T (n+6) (.fn 200) [pW,.ptr 0 0 0 0] (wH (aK.box (fr k s d q o c m e t u v x)) bs [t1,t2] es)=some (.bk [],wH (aK.box (fr k s d q o c m e t u v x)) (bs++(bits 7 x.size++(ic x x.size))) [t1,t2] (es++ek bs (7+8*x.size))):=by
 refine bm Lf (by rfl) ?_
 have ht:∀t' es,aa T (n+5) (.fn 215) [pW,.ptr 0 0 0 11] (wH (aK.box (fr k s d q o c m e t u v x)) bs [t1,t2,t'] es)=some (.bk [],wH (aK.box (fr k s d q o c m e t u v x)) (bs++(bits 7 x.size++(ic x x.size))) [t1,t2,t'] (es++ek bs (7+8*x.size))):=fun t' es=>by
  have:=Hy n _ t1 t2 t' es bs x 11 (show(fr k s d q o c m e t u v x)[11]?=some (.str x)from rfl) hx (by omega)
  try simp only[aaU]at this
  exact this
 simp only[Gk,go_sem,simprocAttr,ht,abg,abh,aa7,abe,abl,aby,abn,aaU,ite_self,if_true]
theorem Wi(h0: -32768≤e)(h1:e≤32767)(hb:bs.length≤900) :
 aa T (n+4) (.fn 198) [pW,.ptr 0 0 0 0] (wH (aK.box (fr k s d q o c m e t u v x)) bs [t1,t2] es)=some (.bk [],wH (aK.box (fr k s d q o c m e t u v x)) (bs++bits 16 (vF e)) [t1,t2] (es++ek bs 16)):=by
 refine bm U4 (by rfl) ?_
 have h:=fun t' es=>Tf (aK.box (fr k s d q o c m e t u v x)) [t1,t2,t'] es bs n e h0 h1 (by omega)
 simp only[MR,go_sem,simprocAttr,h,abg,abh,aa7,abe,abl,aby,abn,aaU,ite_self,if_true]
end
end
end fh
end
section
namespace fh
theorem fq(d:Int):bH d≤6:=by unfold bH;cases decide (0≤d)<;>simp
section
variable(n:Nat)(es:List (Nat×Nat))(bs:List Bool)
theorem NJ(s d q o c m e t u v:Int)(x:ByteArray)(hs:0≤s∧s≤31)(hd:d<32)(hd0:d<0→d= -1)(hq:0≤q∧q≤255)(ho:0≤o∧o≤255)(hc:0≤c∧c≤255)(hm:0≤m∧m≤65535)(hx:x.size≤127)(hb:bs.length≤100) :
 aa T (n+7) (.fn 176) [pW,.ptr 0 0 0 0] (wH (.box (fr 1 s d q o c m e t u v x)) bs [] es)=some (.bool true,wH (.box (fr 1 s d q o c m e t u v x)) (bs++(bits 3 1++(bits 5 s.toNat++(av d++(bits 8 q.toNat++(bits 8 o.toNat++(bits 8 c.toNat++(bits 16 m.toNat++(bits 7 x.size++(ic x x.size)))))))))) [] (es++ek bs ((24+bH d)+(24+(7+8*x.size))))):=by
 refine bm wP (by rfl) ?_
 have h0:∀t1 t2 es,aa T (n+6) (.fn 201) [pW,aew 3,.ptr 0 0 0 0] (wH (.box (fr 1 s d q o c m e t u v x)) bs [t1,t2] es)=some (.bk [],wH (.box (fr 1 s d q o c m e t u v x)) (bs++(bits 3 1)) [t1,t2] (es++ek bs 3)):=fun t1 t2 es=>by
  have:=fB (n+2) (fr 1 s d q o c m e t u v x) t1 t2 es bs 3 1 0 rfl (by omega) (by omega) (by omega) (by omega)
  try simp only[aaU]at this
  exact this
 have l0:(bs++(bits 3 1)).length=bs.length+(3):=by simp only[aaT,aw,bw]<;>omega
 have h1:∀t1 t2 es,aa T (n+6) (.fn 201) [pW,aew 5,.ptr 0 0 0 1] (wH (.box (fr 1 s d q o c m e t u v x)) (bs++(bits 3 1)) [t1,t2] es)=some (.bk [],wH (.box (fr 1 s d q o c m e t u v x)) (bs++(bits 3 1++(bits 5 s.toNat))) [t1,t2] (es++ek (bs++(bits 3 1)) 5)):=fun t1 t2 es=>by
  have:=fB (n+2) (fr 1 s d q o c m e t u v x) t1 t2 es (bs++(bits 3 1)) 5 s.toNat 1 (show(fr 1 s d q o c m e t u v x)[1]?=_ by rw[aba hs.1];rfl) (by omega) (by omega) (by omega) (by have:=fq d;rw[l0];omega)
  try simp only[aaU]at this
  exact this
 have l1:(bs++(bits 3 1++(bits 5 s.toNat))).length=bs.length+(8):=by simp only[aaT,aw,bw]<;>omega
 have h2:∀t1 t2 es,aa T (n+6) (.fn 202) [pW,.ptr 0 0 0 2] (wH (.box (fr 1 s d q o c m e t u v x)) (bs++(bits 3 1++(bits 5 s.toNat))) [t1,t2] es)=some (.bk [],wH (.box (fr 1 s d q o c m e t u v x)) (bs++(bits 3 1++(bits 5 s.toNat++(av d)))) [t1,t2] (es++ek (bs++(bits 3 1++(bits 5 s.toNat))) (bH d))):=fun t1 t2 es=>by
  have:=xy n t1 t2 es (bs++(bits 3 1++(bits 5 s.toNat))) 1 s d q o c m e t u v x hd hd0 (by rw[l1];omega)
  try simp only[aaU]at this
  exact this
 have l2:(bs++(bits 3 1++(bits 5 s.toNat++(av d)))).length=bs.length+(8+bH d):=by simp only[aaT,aw,bw]<;>omega
 have h3:∀t1 t2 es,aa T (n+6) (.fn 201) [pW,aew 8,.ptr 0 0 0 3] (wH (.box (fr 1 s d q o c m e t u v x)) (bs++(bits 3 1++(bits 5 s.toNat++(av d)))) [t1,t2] es)=some (.bk [],wH (.box (fr 1 s d q o c m e t u v x)) (bs++(bits 3 1++(bits 5 s.toNat++(av d++(bits 8 q.toNat))))) [t1,t2] (es++ek (bs++(bits 3 1++(bits 5 s.toNat++(av d)))) 8)):=fun t1 t2 es=>by
  have:=fB (n+2) (fr 1 s d q o c m e t u v x) t1 t2 es (bs++(bits 3 1++(bits 5 s.toNat++(av d)))) 8 q.toNat 3 (show(fr 1 s d q o c m e t u v x)[3]?=_ by rw[aba hq.1];rfl) (by omega) (by omega) (by omega) (by have:=fq d;rw[l2];omega)
  try simp only[aaU]at this
  exact this
 have l3:(bs++(bits 3 1++(bits 5 s.toNat++(av d++(bits 8 q.toNat))))).length=bs.length+(16+bH d):=by simp only[aaT,aw,bw]<;>omega
 have h4:∀t1 t2 es,aa T (n+6) (.fn 201) [pW,aew 8,.ptr 0 0 0 4] (wH (.box (fr 1 s d q o c m e t u v x)) (bs++(bits 3 1++(bits 5 s.toNat++(av d++(bits 8 q.toNat))))) [t1,t2] es)=some (.bk [],wH (.box (fr 1 s d q o c m e t u v x)) (bs++(bits 3 1++(bits 5 s.toNat++(av d++(bits 8 q.toNat++(bits 8 o.toNat)))))) [t1,t2] (es++ek (bs++(bits 3 1++(bits 5 s.toNat++(av d++(bits 8 q.toNat))))) 8)):=fun t1 t2 es=>by
  have:=fB (n+2) (fr 1 s d q o c m e t u v x) t1 t2 es (bs++(bits 3 1++(bits 5 s.toNat++(av d++(bits 8 q.toNat))))) 8 o.toNat 4 (show(fr 1 s d q o c m e t u v x)[4]?=_ by rw[aba ho.1];rfl) (by omega) (by omega) (by omega) (by have:=fq d;rw[l3];omega)
  try simp only[aaU]at this
  exact this
 have l4:(bs++(bits 3 1++(bits 5 s.toNat++(av d++(bits 8 q.toNat++(bits 8 o.toNat)))))).length=bs.length+(24+bH d):=by simp only[aaT,aw,bw]<;>omega
 have hb1:∀t1 t2 es,aa T (n+6) (.fn 197) [pW,.ptr 0 0 0 0] (wH (.box (fr 1 s d q o c m e t u v x)) (bs++(bits 3 1++(bits 5 s.toNat++(av d++(bits 8 q.toNat++(bits 8 o.toNat)))))) [t1,t2] es)=some (.bk [],wH (.box (fr 1 s d q o c m e t u v x)) (bs++(bits 3 1++(bits 5 s.toNat++(av d++(bits 8 q.toNat++(bits 8 o.toNat++(bits 8 c.toNat++(bits 16 m.toNat++(bits 7 x.size++(ic x x.size)))))))))) [t1,t2] (es++ek (bs++(bits 3 1++(bits 5 s.toNat++(av d++(bits 8 q.toNat++(bits 8 o.toNat)))))) (24+(7+8*x.size)))):=fun t1 t2 es=>by
  have:=RS n t1 t2 es (bs++(bits 3 1++(bits 5 s.toNat++(av d++(bits 8 q.toNat++(bits 8 o.toNat)))))) 1 s d q o c m e t u v x hc hm hx (by have:=fq d;rw[l4];omega)
  try simp only[aaU]at this
  exact this
 have hk:ek bs ((24+bH d)+(24+(7+8*x.size)))=ek bs 3++ek (bs++(bits 3 1)) 5++ek (bs++(bits 3 1++(bits 5 s.toNat))) (bH d)++ek (bs++(bits 3 1++(bits 5 s.toNat++(av d)))) 8++ek (bs++(bits 3 1++(bits 5 s.toNat++(av d++(bits 8 q.toNat))))) 8++ek (bs++(bits 3 1++(bits 5 s.toNat++(av d++(bits 8 q.toNat++(bits 8 o.toNat)))))) (24+(7+8*x.size)):=by
  rw[cq (bs:=bs) (a:=3) l0,cq (a:=3+5) (by rw[l1]),cq (a:=3+5+bH d) (by rw[l2]),cq (a:=3+5+bH d+8) (by rw[l3];omega),cq (a:=3+5+bH d+8+8) (by rw[l4];omega)]
  congr 1;omega
 simp only[aaU]at hk
 rw[hk]
 simp only[vi,go_sem,simprocAttr,h0,h1,h2,h3,h4,hb1,abg,abh,aa7,abe,abl,aby,abn,aaU,ite_self,if_true]
theorem KY(s d q o c m e t u v:Int)(x:ByteArray)(hs:0≤s∧s≤31)(hd:d<32)(hd0:d<0→d= -1)(hq:0≤q∧q≤255)(ho:0≤o∧o≤255)(he: -32768≤e∧e≤32767)(hb:bs.length≤100) :
 aa T (n+7) (.fn 176) [pW,.ptr 0 0 0 0] (wH (.box (fr 2 s d q o c m e t u v x)) bs [] es)=some (.bool true,wH (.box (fr 2 s d q o c m e t u v x)) (bs++(bits 3 2++(bits 5 s.toNat++(av d++(bits 8 q.toNat++(bits 8 o.toNat++(bits 16 (vF e)))))))) [] (es++ek bs ((24+bH d)+(16)))):=by
 refine bm wP (by rfl) ?_
 have h0:∀t1 t2 es,aa T (n+6) (.fn 201) [pW,aew 3,.ptr 0 0 0 0] (wH (.box (fr 2 s d q o c m e t u v x)) bs [t1,t2] es)=some (.bk [],wH (.box (fr 2 s d q o c m e t u v x)) (bs++(bits 3 2)) [t1,t2] (es++ek bs 3)):=fun t1 t2 es=>by
  have:=fB (n+2) (fr 2 s d q o c m e t u v x) t1 t2 es bs 3 2 0 rfl (by omega) (by omega) (by omega) (by omega)
  try simp only[aaU]at this
  exact this
 have l0:(bs++(bits 3 2)).length=bs.length+(3):=by simp only[aaT,aw,bw]<;>omega
 have h1:∀t1 t2 es,aa T (n+6) (.fn 201) [pW,aew 5,.ptr 0 0 0 1] (wH (.box (fr 2 s d q o c m e t u v x)) (bs++(bits 3 2)) [t1,t2] es)=some (.bk [],wH (.box (fr 2 s d q o c m e t u v x)) (bs++(bits 3 2++(bits 5 s.toNat))) [t1,t2] (es++ek (bs++(bits 3 2)) 5)):=fun t1 t2 es=>by
  have:=fB (n+2) (fr 2 s d q o c m e t u v x) t1 t2 es (bs++(bits 3 2)) 5 s.toNat 1 (show(fr 2 s d q o c m e t u v x)[1]?=_ by rw[aba hs.1];rfl) (by omega) (by omega) (by omega) (by have:=fq d;rw[l0];omega)
  try simp only[aaU]at this
  exact this
 have l1:(bs++(bits 3 2++(bits 5 s.toNat))).length=bs.length+(8):=by simp only[aaT,aw,bw]<;>omega
 have h2:∀t1 t2 es,aa T (n+6) (.fn 202) [pW,.ptr 0 0 0 2] (wH (.box (fr 2 s d q o c m e t u v x)) (bs++(bits 3 2++(bits 5 s.toNat))) [t1,t2] es)=some (.bk [],wH (.box (fr 2 s d q o c m e t u v x)) (bs++(bits 3 2++(bits 5 s.toNat++(av d)))) [t1,t2] (es++ek (bs++(bits 3 2++(bits 5 s.toNat))) (bH d))):=fun t1 t2 es=>by
  have:=xy n t1 t2 es (bs++(bits 3 2++(bits 5 s.toNat))) 2 s d q o c m e t u v x hd hd0 (by rw[l1];omega)
  try simp only[aaU]at this
  exact this
 have l2:(bs++(bits 3 2++(bits 5 s.toNat++(av d)))).length=bs.length+(8+bH d):=by simp only[aaT,aw,bw]<;>omega
 have h3:∀t1 t2 es,aa T (n+6) (.fn 201) [pW,aew 8,.ptr 0 0 0 3] (wH (.box (fr 2 s d q o c m e t u v x)) (bs++(bits 3 2++(bits 5 s.toNat++(av d)))) [t1,t2] es)=some (.bk [],wH (.box (fr 2 s d q o c m e t u v x)) (bs++(bits 3 2++(bits 5 s.toNat++(av d++(bits 8 q.toNat))))) [t1,t2] (es++ek (bs++(bits 3 2++(bits 5 s.toNat++(av d)))) 8)):=fun t1 t2 es=>by
  have:=fB (n+2) (fr 2 s d q o c m e t u v x) t1 t2 es (bs++(bits 3 2++(bits 5 s.toNat++(av d)))) 8 q.toNat 3 (show(fr 2 s d q o c m e t u v x)[3]?=_ by rw[aba hq.1];rfl) (by omega) (by omega) (by omega) (by have:=fq d;rw[l2];omega)
  try simp only[aaU]at this
  exact this
 have l3:(bs++(bits 3 2++(bits 5 s.toNat++(av d++(bits 8 q.toNat))))).length=bs.length+(16+bH d):=by simp only[aaT,aw,bw]<;>omega
 have h4:∀t1 t2 es,aa T (n+6) (.fn 201) [pW,aew 8,.ptr 0 0 0 4] (wH (.box (fr 2 s d q o c m e t u v x)) (bs++(bits 3 2++(bits 5 s.toNat++(av d++(bits 8 q.toNat))))) [t1,t2] es)=some (.bk [],wH (.box (fr 2 s d q o c m e t u v x)) (bs++(bits 3 2++(bits 5 s.toNat++(av d++(bits 8 q.toNat++(bits 8 o.toNat)))))) [t1,t2] (es++ek (bs++(bits 3 2++(bits 5 s.toNat++(av d++(bits 8 q.toNat))))) 8)):=fun t1 t2 es=>by
  have:=fB (n+2) (fr 2 s d q o c m e t u v x) t1 t2 es (bs++(bits 3 2++(bits 5 s.toNat++(av d++(bits 8 q.toNat))))) 8 o.toNat 4 (show(fr 2 s d q o c m e t u v x)[4]?=_ by rw[aba ho.1];rfl) (by omega) (by omega) (by omega) (by have:=fq d;rw[l3];omega)
  try simp only[aaU]at this
  exact this
 have l4:(bs++(bits 3 2++(bits 5 s.toNat++(av d++(bits 8 q.toNat++(bits 8 o.toNat)))))).length=bs.length+(24+bH d):=by simp only[aaT,aw,bw]<;>omega
 have hb1:∀t1 t2 es,aa T (n+6) (.fn 198) [pW,.ptr 0 0 0 0] (wH (.box (fr 2 s d q o c m e t u v x)) (bs++(bits 3 2++(bits 5 s.toNat++(av d++(bits 8 q.toNat++(bits 8 o.toNat)))))) [t1,t2] es)=some (.bk [],wH (.box (fr 2 s d q o c m e t u v x)) (bs++(bits 3 2++(bits 5 s.toNat++(av d++(bits 8 q.toNat++(bits 8 o.toNat++(bits 16 (vF e)))))))) [t1,t2] (es++ek (bs++(bits 3 2++(bits 5 s.toNat++(av d++(bits 8 q.toNat++(bits 8 o.toNat)))))) (16))):=fun t1 t2 es=>by
  have:=Wi (n+2) t1 t2 es (bs++(bits 3 2++(bits 5 s.toNat++(av d++(bits 8 q.toNat++(bits 8 o.toNat)))))) 2 s d q o c m e t u v x he.1 he.2 (by have:=fq d;rw[l4];omega)
  try simp only[aaU]at this
  exact this
 have hk:ek bs ((24+bH d)+(16))=ek bs 3++ek (bs++(bits 3 2)) 5++ek (bs++(bits 3 2++(bits 5 s.toNat))) (bH d)++ek (bs++(bits 3 2++(bits 5 s.toNat++(av d)))) 8++ek (bs++(bits 3 2++(bits 5 s.toNat++(av d++(bits 8 q.toNat))))) 8++ek (bs++(bits 3 2++(bits 5 s.toNat++(av d++(bits 8 q.toNat++(bits 8 o.toNat)))))) (16):=by
  rw[cq (bs:=bs) (a:=3) l0,cq (a:=3+5) (by rw[l1]),cq (a:=3+5+bH d) (by rw[l2]),cq (a:=3+5+bH d+8) (by rw[l3];omega),cq (a:=3+5+bH d+8+8) (by rw[l4];omega)]
  congr 1;omega
 simp only[aaU]at hk
 rw[hk]
 simp only[vi,go_sem,simprocAttr,h0,h1,h2,h3,h4,hb1,abg,abh,aa7,abe,abl,aby,abn,aaU,ite_self,if_true]
theorem Jz(s d q o c m e t u v:Int)(x:ByteArray)(hs:0≤s∧s≤31)(hd:d<32)(hd0:d<0→d= -1)(hq:0≤q∧q≤255)(ho:0≤o∧o≤255)(ht:0≤t∧t≤109951162)(hu:0≤u∧u≤65535)(hv:0≤v∧v≤65535)(hx:x.size≤127)(hb:bs.length≤100) :
 aa T (n+7) (.fn 176) [pW,.ptr 0 0 0 0] (wH (.box (fr 3 s d q o c m e t u v x)) bs [] es)=some (.bool true,wH (.box (fr 3 s d q o c m e t u v x)) (bs++(bits 3 3++(bits 5 s.toNat++(av d++(bits 8 q.toNat++(bits 8 o.toNat++(bits 27 t.toNat++(bits 16 u.toNat++(bits 16 v.toNat++(bits 7 x.size++(ic x x.size))))))))))) [] (es++ek bs ((24+bH d)+(59+(7+8*x.size))))):=by
 refine bm wP (by rfl) ?_
 have h0:∀t1 t2 es,aa T (n+6) (.fn 201) [pW,aew 3,.ptr 0 0 0 0] (wH (.box (fr 3 s d q o c m e t u v x)) bs [t1,t2] es)=some (.bk [],wH (.box (fr 3 s d q o c m e t u v x)) (bs++(bits 3 3)) [t1,t2] (es++ek bs 3)):=fun t1 t2 es=>by
  have:=fB (n+2) (fr 3 s d q o c m e t u v x) t1 t2 es bs 3 3 0 rfl (by omega) (by omega) (by omega) (by omega)
  try simp only[aaU]at this
  exact this
 have l0:(bs++(bits 3 3)).length=bs.length+(3):=by simp only[aaT,aw,bw]<;>omega
 have h1:∀t1 t2 es,aa T (n+6) (.fn 201) [pW,aew 5,.ptr 0 0 0 1] (wH (.box (fr 3 s d q o c m e t u v x)) (bs++(bits 3 3)) [t1,t2] es)=some (.bk [],wH (.box (fr 3 s d q o c m e t u v x)) (bs++(bits 3 3++(bits 5 s.toNat))) [t1,t2] (es++ek (bs++(bits 3 3)) 5)):=fun t1 t2 es=>by
  have:=fB (n+2) (fr 3 s d q o c m e t u v x) t1 t2 es (bs++(bits 3 3)) 5 s.toNat 1 (show(fr 3 s d q o c m e t u v x)[1]?=_ by rw[aba hs.1];rfl) (by omega) (by omega) (by omega) (by have:=fq d;rw[l0];omega)
  try simp only[aaU]at this
  exact this
 have l1:(bs++(bits 3 3++(bits 5 s.toNat))).length=bs.length+(8):=by simp only[aaT,aw,bw]<;>omega
 have h2:∀t1 t2 es,aa T (n+6) (.fn 202) [pW,.ptr 0 0 0 2] (wH (.box (fr 3 s d q o c m e t u v x)) (bs++(bits 3 3++(bits 5 s.toNat))) [t1,t2] es)=some (.bk [],wH (.box (fr 3 s d q o c m e t u v x)) (bs++(bits 3 3++(bits 5 s.toNat++(av d)))) [t1,t2] (es++ek (bs++(bits 3 3++(bits 5 s.toNat))) (bH d))):=fun t1 t2 es=>by
  have:=xy n t1 t2 es (bs++(bits 3 3++(bits 5 s.toNat))) 3 s d q o c m e t u v x hd hd0 (by rw[l1];omega)
  try simp only[aaU]at this
  exact this
 have l2:(bs++(bits 3 3++(bits 5 s.toNat++(av d)))).length=bs.length+(8+bH d):=by simp only[aaT,aw,bw]<;>omega
 have h3:∀t1 t2 es,aa T (n+6) (.fn 201) [pW,aew 8,.ptr 0 0 0 3] (wH (.box (fr 3 s d q o c m e t u v x)) (bs++(bits 3 3++(bits 5 s.toNat++(av d)))) [t1,t2] es)=some (.bk [],wH (.box (fr 3 s d q o c m e t u v x)) (bs++(bits 3 3++(bits 5 s.toNat++(av d++(bits 8 q.toNat))))) [t1,t2] (es++ek (bs++(bits 3 3++(bits 5 s.toNat++(av d)))) 8)):=fun t1 t2 es=>by
  have:=fB (n+2) (fr 3 s d q o c m e t u v x) t1 t2 es (bs++(bits 3 3++(bits 5 s.toNat++(av d)))) 8 q.toNat 3 (show(fr 3 s d q o c m e t u v x)[3]?=_ by rw[aba hq.1];rfl) (by omega) (by omega) (by omega) (by have:=fq d;rw[l2];omega)
  try simp only[aaU]at this
  exact this
 have l3:(bs++(bits 3 3++(bits 5 s.toNat++(av d++(bits 8 q.toNat))))).length=bs.length+(16+bH d):=by simp only[aaT,aw,bw]<;>omega
 have h4:∀t1 t2 es,aa T (n+6) (.fn 201) [pW,aew 8,.ptr 0 0 0 4] (wH (.box (fr 3 s d q o c m e t u v x)) (bs++(bits 3 3++(bits 5 s.toNat++(av d++(bits 8 q.toNat))))) [t1,t2] es)=some (.bk [],wH (.box (fr 3 s d q o c m e t u v x)) (bs++(bits 3 3++(bits 5 s.toNat++(av d++(bits 8 q.toNat++(bits 8 o.toNat)))))) [t1,t2] (es++ek (bs++(bits 3 3++(bits 5 s.toNat++(av d++(bits 8 q.toNat))))) 8)):=fun t1 t2 es=>by
  have:=fB (n+2) (fr 3 s d q o c m e t u v x) t1 t2 es (bs++(bits 3 3++(bits 5 s.toNat++(av d++(bits 8 q.toNat))))) 8 o.toNat 4 (show(fr 3 s d q o c m e t u v x)[4]?=_ by rw[aba ho.1];rfl) (by omega) (by omega) (by omega) (by have:=fq d;rw[l3];omega)
  try simp only[aaU]at this
  exact this
 have l4:(bs++(bits 3 3++(bits 5 s.toNat++(av d++(bits 8 q.toNat++(bits 8 o.toNat)))))).length=bs.length+(24+bH d):=by simp only[aaT,aw,bw]<;>omega
 have hb1:∀t1 t2 es,aa T (n+6) (.fn 199) [pW,.ptr 0 0 0 0] (wH (.box (fr 3 s d q o c m e t u v x)) (bs++(bits 3 3++(bits 5 s.toNat++(av d++(bits 8 q.toNat++(bits 8 o.toNat)))))) [t1,t2] es)=some (.bk [],wH (.box (fr 3 s d q o c m e t u v x)) (bs++(bits 3 3++(bits 5 s.toNat++(av d++(bits 8 q.toNat++(bits 8 o.toNat++(bits 27 t.toNat++(bits 16 u.toNat++(bits 16 v.toNat++(bits 7 x.size++(ic x x.size))))))))))) [t1,t2] (es++ek (bs++(bits 3 3++(bits 5 s.toNat++(av d++(bits 8 q.toNat++(bits 8 o.toNat)))))) (59+(7+8*x.size)))):=fun t1 t2 es=>by
  have:=Ri n t1 t2 es (bs++(bits 3 3++(bits 5 s.toNat++(av d++(bits 8 q.toNat++(bits 8 o.toNat)))))) 3 s d q o c m e t u v x ht hu hv hx (by have:=fq d;rw[l4];omega)
  try simp only[aaU]at this
  exact this
 have hk:ek bs ((24+bH d)+(59+(7+8*x.size)))=ek bs 3++ek (bs++(bits 3 3)) 5++ek (bs++(bits 3 3++(bits 5 s.toNat))) (bH d)++ek (bs++(bits 3 3++(bits 5 s.toNat++(av d)))) 8++ek (bs++(bits 3 3++(bits 5 s.toNat++(av d++(bits 8 q.toNat))))) 8++ek (bs++(bits 3 3++(bits 5 s.toNat++(av d++(bits 8 q.toNat++(bits 8 o.toNat)))))) (59+(7+8*x.size)):=by
  rw[cq (bs:=bs) (a:=3) l0,cq (a:=3+5) (by rw[l1]),cq (a:=3+5+bH d) (by rw[l2]),cq (a:=3+5+bH d+8) (by rw[l3];omega),cq (a:=3+5+bH d+8+8) (by rw[l4];omega)]
  congr 1;omega
 simp only[aaU]at hk
 rw[hk]
 simp only[vi,go_sem,simprocAttr,h0,h1,h2,h3,h4,hb1,abg,abh,aa7,abe,abl,aby,abn,aaU,ite_self,if_true]
theorem MV(s d q o c m e t u v:Int)(x:ByteArray)(hs:0≤s∧s≤31)(hd:d<32)(hd0:d<0→d= -1)(hq:0≤q∧q≤255)(ho:0≤o∧o≤255)(hx:x.size≤127)(hb:bs.length≤100) :
 aa T (n+7) (.fn 176) [pW,.ptr 0 0 0 0] (wH (.box (fr 4 s d q o c m e t u v x)) bs [] es)=some (.bool true,wH (.box (fr 4 s d q o c m e t u v x)) (bs++(bits 3 4++(bits 5 s.toNat++(av d++(bits 8 q.toNat++(bits 8 o.toNat++(bits 7 x.size++(ic x x.size)))))))) [] (es++ek bs ((24+bH d)+(7+8*x.size)))):=by
 refine bm wP (by rfl) ?_
 have h0:∀t1 t2 es,aa T (n+6) (.fn 201) [pW,aew 3,.ptr 0 0 0 0] (wH (.box (fr 4 s d q o c m e t u v x)) bs [t1,t2] es)=some (.bk [],wH (.box (fr 4 s d q o c m e t u v x)) (bs++(bits 3 4)) [t1,t2] (es++ek bs 3)):=fun t1 t2 es=>by
  have:=fB (n+2) (fr 4 s d q o c m e t u v x) t1 t2 es bs 3 4 0 rfl (by omega) (by omega) (by omega) (by omega)
  try simp only[aaU]at this
  exact this
 have l0:(bs++(bits 3 4)).length=bs.length+(3):=by simp only[aaT,aw,bw]<;>omega
 have h1:∀t1 t2 es,aa T (n+6) (.fn 201) [pW,aew 5,.ptr 0 0 0 1] (wH (.box (fr 4 s d q o c m e t u v x)) (bs++(bits 3 4)) [t1,t2] es)=some (.bk [],wH (.box (fr 4 s d q o c m e t u v x)) (bs++(bits 3 4++(bits 5 s.toNat))) [t1,t2] (es++ek (bs++(bits 3 4)) 5)):=fun t1 t2 es=>by
  have:=fB (n+2) (fr 4 s d q o c m e t u v x) t1 t2 es (bs++(bits 3 4)) 5 s.toNat 1 (show(fr 4 s d q o c m e t u v x)[1]?=_ by rw[aba hs.1];rfl) (by omega) (by omega) (by omega) (by have:=fq d;rw[l0];omega)
  try simp only[aaU]at this
  exact this
 have l1:(bs++(bits 3 4++(bits 5 s.toNat))).length=bs.length+(8):=by simp only[aaT,aw,bw]<;>omega
 have h2:∀t1 t2 es,aa T (n+6) (.fn 202) [pW,.ptr 0 0 0 2] (wH (.box (fr 4 s d q o c m e t u v x)) (bs++(bits 3 4++(bits 5 s.toNat))) [t1,t2] es)=some (.bk [],wH (.box (fr 4 s d q o c m e t u v x)) (bs++(bits 3 4++(bits 5 s.toNat++(av d)))) [t1,t2] (es++ek (bs++(bits 3 4++(bits 5 s.toNat))) (bH d))):=fun t1 t2 es=>by
  have:=xy n t1 t2 es (bs++(bits 3 4++(bits 5 s.toNat))) 4 s d q o c m e t u v x hd hd0 (by rw[l1];omega)
  try simp only[aaU]at this
  exact this
 have l2:(bs++(bits 3 4++(bits 5 s.toNat++(av d)))).length=bs.length+(8+bH d):=by simp only[aaT,aw,bw]<;>omega
 have h3:∀t1 t2 es,aa T (n+6) (.fn 201) [pW,aew 8,.ptr 0 0 0 3] (wH (.box (fr 4 s d q o c m e t u v x)) (bs++(bits 3 4++(bits 5 s.toNat++(av d)))) [t1,t2] es)=some (.bk [],wH (.box (fr 4 s d q o c m e t u v x)) (bs++(bits 3 4++(bits 5 s.toNat++(av d++(bits 8 q.toNat))))) [t1,t2] (es++ek (bs++(bits 3 4++(bits 5 s.toNat++(av d)))) 8)):=fun t1 t2 es=>by
  have:=fB (n+2) (fr 4 s d q o c m e t u v x) t1 t2 es (bs++(bits 3 4++(bits 5 s.toNat++(av d)))) 8 q.toNat 3 (show(fr 4 s d q o c m e t u v x)[3]?=_ by rw[aba hq.1];rfl) (by omega) (by omega) (by omega) (by have:=fq d;rw[l2];omega)
  try simp only[aaU]at this
  exact this
 have l3:(bs++(bits 3 4++(bits 5 s.toNat++(av d++(bits 8 q.toNat))))).length=bs.length+(16+bH d):=by simp only[aaT,aw,bw]<;>omega
 have h4:∀t1 t2 es,aa T (n+6) (.fn 201) [pW,aew 8,.ptr 0 0 0 4] (wH (.box (fr 4 s d q o c m e t u v x)) (bs++(bits 3 4++(bits 5 s.toNat++(av d++(bits 8 q.toNat))))) [t1,t2] es)=some (.bk [],wH (.box (fr 4 s d q o c m e t u v x)) (bs++(bits 3 4++(bits 5 s.toNat++(av d++(bits 8 q.toNat++(bits 8 o.toNat)))))) [t1,t2] (es++ek (bs++(bits 3 4++(bits 5 s.toNat++(av d++(bits 8 q.toNat))))) 8)):=fun t1 t2 es=>by
  have:=fB (n+2) (fr 4 s d q o c m e t u v x) t1 t2 es (bs++(bits 3 4++(bits 5 s.toNat++(av d++(bits 8 q.toNat))))) 8 o.toNat 4 (show(fr 4 s d q o c m e t u v x)[4]?=_ by rw[aba ho.1];rfl) (by omega) (by omega) (by omega) (by have:=fq d;rw[l3];omega)
  try simp only[aaU]at this
  exact this
 have l4:(bs++(bits 3 4++(bits 5 s.toNat++(av d++(bits 8 q.toNat++(bits 8 o.toNat)))))).length=bs.length+(24+bH d):=by simp only[aaT,aw,bw]<;>omega
 have hb1:∀t1 t2 es,aa T (n+6) (.fn 200) [pW,.ptr 0 0 0 0] (wH (.box (fr 4 s d q o c m e t u v x)) (bs++(bits 3 4++(bits 5 s.toNat++(av d++(bits 8 q.toNat++(bits 8 o.toNat)))))) [t1,t2] es)=some (.bk [],wH (.box (fr 4 s d q o c m e t u v x)) (bs++(bits 3 4++(bits 5 s.toNat++(av d++(bits 8 q.toNat++(bits 8 o.toNat++(bits 7 x.size++(ic x x.size)))))))) [t1,t2] (es++ek (bs++(bits 3 4++(bits 5 s.toNat++(av d++(bits 8 q.toNat++(bits 8 o.toNat)))))) (7+8*x.size))):=fun t1 t2 es=>by
  have:=Uq n t1 t2 es (bs++(bits 3 4++(bits 5 s.toNat++(av d++(bits 8 q.toNat++(bits 8 o.toNat)))))) 4 s d q o c m e t u v x hx (by have:=fq d;rw[l4];omega)
  try simp only[aaU]at this
  exact this
 have hk:ek bs ((24+bH d)+(7+8*x.size))=ek bs 3++ek (bs++(bits 3 4)) 5++ek (bs++(bits 3 4++(bits 5 s.toNat))) (bH d)++ek (bs++(bits 3 4++(bits 5 s.toNat++(av d)))) 8++ek (bs++(bits 3 4++(bits 5 s.toNat++(av d++(bits 8 q.toNat))))) 8++ek (bs++(bits 3 4++(bits 5 s.toNat++(av d++(bits 8 q.toNat++(bits 8 o.toNat)))))) (7+8*x.size):=by
  rw[cq (bs:=bs) (a:=3) l0,cq (a:=3+5) (by rw[l1]),cq (a:=3+5+bH d) (by rw[l2]),cq (a:=3+5+bH d+8) (by rw[l3];omega),cq (a:=3+5+bH d+8+8) (by rw[l4];omega)]
  congr 1;omega
 simp only[aaU]at hk
 rw[hk]
 simp only[vi,go_sem,simprocAttr,h0,h1,h2,h3,h4,hb1,abg,abh,aa7,abe,abl,aby,abn,aaU,ite_self,if_true]
end
end fh
end
namespace fh
abbrev jd:=BitVec 16
def uP:jd:=0x1021#16
def tm(c:jd):jd:=(c <<< 1) ^^^ (bif c.msb then uP else 0#16)
theorem GJ(a b:jd):tm (a ^^^ b)=tm a ^^^ tm b:=by
 unfold tm
 rw[BitVec.shiftLeft_xor_distrib,BitVec.msb_xor]
 cases a.msb<;>cases b.msb<;>simp only[Bool.xor_false,Bool.xor_true,Bool.false_xor,Bool.true_xor,abb,abc,abJ,acb,adx]
 ·ac_rfl
 ·ac_rfl
 ·rw[show a <<< 1 ^^^ uP ^^^ (b <<< 1 ^^^ uP)=a <<< 1 ^^^ b <<< 1 ^^^ (uP ^^^ uP) by ac_rfl,ad9,adx]
def t4(c:jd):jd:=tm (tm (tm (tm c)))
theorem Bc(a b:jd):t4 (a ^^^ b)=t4 a ^^^ t4 b:=by simp only[t4,GJ]
theorem qf{c:jd}(h:c.msb=false):tm c=c <<< 1:=by unfold tm;rw[h];simp
def I3:List jd:=[0x0000#16,0x1021#16,0x2042#16,0x3063#16,0x4084#16,0x50a5#16,0x60c6#16,0x70e7#16,0x8108#16,0x9129#16,0xa14a#16,0xb16b#16,0xc18c#16,0xd1ad#16,0xe1ce#16,0xf1ef#16]
theorem ET:∀h:Fin 16,I3[(h:Nat)]?=some (t4 ((BitVec.ofNat 16 h) <<< 12)):=by decide
theorem H9(c:jd):t4 ((c <<< 4) >>> 4)=c <<< 4:=by
 have m:∀(i:Nat),i<4→(((c <<< 4) >>> 4) <<< i).msb=false:=by
  intro i hi
  rw[BitVec.msb_eq_getLsbD_last]
  simp[adI,adB]
  omega
 have e:∀i:Nat,(((c <<< 4) >>> 4) <<< i) <<< 1=((c <<< 4) >>> 4) <<< (i+1):=fun i=>(BitVec.shiftLeft_add _ _ _).symm
 have h0:=m 0 (by omega)
 rw[BitVec.shiftLeft_zero]at h0
 unfold t4
 rw[qf h0,qf (m 1 (by omega)),e 1,qf (m 2 (by omega)),e 2,qf (m 3 (by omega)),e 3]
 apply BitVec.eq_of_getLsbD_eq
 intro i hi
 simp[adI,adB]
 by_cases h:i<4
 ·simp[h]
 ·simp[h,hi,show 4+(i-4)=i by omega]
theorem D4(c:jd):c=((c >>> 12) <<< 12) ^^^ ((c <<< 4) >>> 4):=by
 apply BitVec.eq_of_getLsbD_eq
 intro i hi
 simp[adI,adB]
 by_cases h:i<12
 ·simp[h,show 4+i-4=i by omega,show 4+i<16 by omega]
 ·simp[h,show ¬4+i<16 by omega,show 12+(i-12)=i by omega]
  exact fun _=>hi
theorem GK(c:jd):I3[(c >>> 12).toNat]?=some (t4 c ^^^ (c <<< 4)):=by
 have hlt:(c >>> 12).toNat<16:=by
  rw[BitVec.toNat_ushiftRight,Nat.shiftRight_eq_div_pow]
  have:=c.isLt
  omega
 have h:=ET ⟨(c >>> 12).toNat,hlt⟩
 rw[show I3[(c >>> 12).toNat]?=_ from h]
 congr 1
 have e:BitVec.ofNat 16 (c >>> 12).toNat=c >>> 12:=by rw[BitVec.ofNat_toNat];exact BitVec.setWidth_eq _
 show t4 (BitVec.ofNat 16 (c >>> 12).toNat <<< 12)=_
 rw[e]
 have h2:t4 c=t4 ((c >>> 12) <<< 12) ^^^ (c <<< 4):=by
  rw[←H9 c,←Bc,←D4]
 rw[h2,BitVec.xor_assoc,ad9,adx]
end fh
namespace fh
def zj:List SV:=I3.map fun w=>.int .u16 w.toNat
@[go_sem] theorem LN:zj.length=16:=by rfl
theorem A3(i:Nat):zj[i]?=(I3[i]?).map fun w=>.int .u16 w.toNat:=by simp[zj]
theorem Tw(n:Nat)(H:ae):aa T (n+3) (.fn 234) [] H=some (.agg zj,H):=eB TF (by rfl) (fk (T:=T) 100 (n+3) (.fn 234) [] ah (.agg zj,ah) (by kernel_rfl))
def Ee(c:jd)(b:Nat):jd:=t4 (t4 (c ^^^ (BitVec.ofNat 16 b <<< 8)))
def xR(c:jd)(s:ByteArray):Nat→jd
 |0=>c
 |i+1=>Ee (xR c s i) ((s.data[i]?).getD 0).toNat
theorem Np:∀v:Fin 16,((BitVec.ofNat 16 v:jd) <<< 12) >>> 12=BitVec.ofNat 16 v:=by decide
theorem JR:∀v:Fin 16,((BitVec.ofNat 16 v:jd) <<< 12) <<< 4=0#16:=by decide
theorem Mm:∀v:Fin 16,t4 ((BitVec.ofNat 16 v:jd) <<< 8)=BitVec.ofNat 16 v <<< 12:=by decide
theorem Nv:∀b:Fin 256,((BitVec.ofNat 16 (b/16):jd) <<< 12) ^^^ (BitVec.ofNat 16 (b%16) <<< 8)=BitVec.ofNat 16 b <<< 8:=by decide +kernel
theorem XV(c:jd){v:Nat}(hv:v<16):I3[((c >>> 12) ^^^ BitVec.ofNat 16 v).toNat]?=some (t4 (c ^^^ (BitVec.ofNat 16 v <<< 12)) ^^^ (c <<< 4)):=by
 have h:=GK (c ^^^ (BitVec.ofNat 16 v <<< 12))
 rw[BitVec.ushiftRight_xor_distrib,BitVec.shiftLeft_xor_distrib,Np ⟨v,hv⟩,JR ⟨v,hv⟩,adx]at h
 exact h
theorem Ii(c:jd){b:Nat}(hb:b<256):Ee c b=t4 (t4 (c ^^^ (BitVec.ofNat 16 (b/16) <<< 12)) ^^^ (BitVec.ofNat 16 (b%16) <<< 12)):=by
 unfold Ee
 rw[←Mm ⟨b%16,by omega⟩,←Bc,BitVec.xor_assoc,Nv ⟨b,hb⟩]
theorem um{n:Int}:IntKind.u16.wrap n=n%65536:=by simp[IntKind.wrap,IntKind.bits,IntKind.signed]
theorem GX(C:jd)(k:Nat)(hk:k≤16):IntKind.u16.wrap ((C.toNat:Int)*2 ^ min k 16)=((C <<< k).toNat:Nat):=by
 have h:((C.toNat:Int)*2 ^ k)=((C.toNat*2 ^ k:Nat):Int):=by rw[aet,adQ];rfl
 rw[ab2 hk,um,h,BitVec.toNat_shiftLeft,Nat.shiftLeft_eq]
 omega
theorem Vh(C:jd)(k:Nat)(hk:k≤16):((C.toNat:Int)).fdiv (2 ^ min k 16)=((C >>> k).toNat:Nat):=by
 rw[ab2 hk,fY,BitVec.toNat_ushiftRight,Nat.shiftRight_eq_div_pow]
theorem MU(C:jd):(BitVec.ofInt 16 (C.toNat:Int))=C:=by
 apply BitVec.eq_of_toNat_eq
 rw[adR]
 have:=C.isLt
 omega
def Er(a b:Int):Int:=IntKind.u16.wrap ((BitVec.ofInt 16 a ^^^ BitVec.ofInt 16 b).toNat)
@[go_sem high] theorem NT (a b:Int):cS .xor (.int .u16 a) (.int .u16 b)=some (.int .u16 (Er a b)):=by
  simp only[cS,acg,abb];rfl
def AZ(a b:Int):Int:=IntKind.u8.wrap ((BitVec.ofInt 8 a&&&BitVec.ofInt 8 b).toNat)
@[go_sem high] theorem Pq (a b:Int):cS .and (.int .u8 a) (.int .u8 b)=some (.int .u8 (AZ a b)):=by
  simp only[cS,acg,abb];rfl
theorem Hh(A B:jd):Er (A.toNat:Int) (B.toNat:Int)=((A ^^^ B).toNat:Nat):=by
 unfold Er
 rw[MU,MU,um]
 have:=(A ^^^ B).isLt
 omega
theorem Le{b:Nat}(hb:b<256):AZ b 15=((b%16:Nat):Int):=by
 unfold AZ
 have h3:(BitVec.ofInt 8 15).toNat=15:=by decide
 rw[aeq,gK _ hb,h3,Nat.and_two_pow_sub_one_eq_mod b 4]
 exact lL (by omega) (by omega)
theorem toW{v:Nat}(h:v<65536):(v:Int)=((BitVec.ofNat 16 v:jd).toNat:Nat):=by
 rw[BitVec.toNat_ofNat];omega
theorem Uh(n:Nat)(H:ae)(s:ByteArray)(hs:s.size≤1000):aa T (n+4) (.fn 222) [.int .u16 0,.str s] H=some (.int .u16 ((xR 0#16 s s.size).toNat:Nat),H):=by
 refine ab Ud (by rfl) ?_
 have h:=fun H=>Tw n H
 simp only[KH,ah,go_sem,simprocAttr,h]
 refine aY (fun i=>([(0,.int .u16 ((xR 0#16 s i).toNat:Nat)),(1,.str s),(5,.ptr 0 0 0 0),(9,aew s.size),(10,aew i)],⟨[.box zj],[],0⟩)) (fun _=>True) s.size ?_ trivial ?_
 ·simp only[go_sem,simprocAttr]<;>rfl
 ·intro i hi _
  rcases aa4 i s.size with hlt|hge
  ·have hs2:=br hlt (abv hs (by decide))
   have hd:s.data[i]?=some s.data[i]:=abU (by exact hlt)
   have hu:xR 0#16 s (i+1)=Ee (xR 0#16 s i) s.data[i].toNat:=by simp only[xR,hd,acj]
   have hv:=aei s.data[i]
   obtain⟨C,hC⟩:∃C,xR 0#16 s i=C:=⟨_,rfl⟩
   obtain⟨b,hb⟩:∃b,s.data[i].toNat=b:=⟨_,rfl⟩
   rw[hC,hb]at hu
   rw[hb]at hv
   have e1:IntKind.u16.wrap (((b:Int)).fdiv (2 ^ min 4 8))=((BitVec.ofNat 16 (b/16):jd).toNat:Nat):=by
    rw[show min 4 8=4 from rfl,fY,um,←toW (by omega)];omega
   have e2:IntKind.u16.wrap ((b%16:Nat):Int)=((BitVec.ofNat 16 (b%16):jd).toNat:Nat):=by
    rw[um,←toW (by omega)];omega
   have e3:=Le hv
   have q1:=XV C (v:=b/16) (by omega)
   have l1:((C >>> 12) ^^^ BitVec.ofNat 16 (b/16)).toNat<16:=by
    have:=aaS.1 q1
    exact this.1
   obtain⟨C1,hC1⟩:∃C1,t4 (C ^^^ (BitVec.ofNat 16 (b/16) <<< 12))=C1:=⟨_,rfl⟩
   have q2:=XV C1 (v:=b%16) (by omega)
   have l2:((C1 >>> 12) ^^^ BitVec.ofNat 16 (b%16)).toNat<16:=by
    have:=aaS.1 q2
    exact this.1
   have hst:Ee C b=t4 (C1 ^^^ (BitVec.ofNat 16 (b%16) <<< 12)):=by rw[Ii C hv,hC1]
   rw[hC1]at q1
   have x1:(C <<< 4) ^^^ (C1 ^^^ (C <<< 4))=C1:=by rw[show(C <<< 4) ^^^ (C1 ^^^ (C <<< 4))=C1 ^^^ ((C <<< 4) ^^^ (C <<< 4)) by ac_rfl,ad9,adx]
   have x2:(C1 <<< 4) ^^^ (t4 (C1 ^^^ (BitVec.ofNat 16 (b%16) <<< 12)) ^^^ (C1 <<< 4))=Ee C b:=by
    rw[hst,show ∀P Q:jd,P ^^^ (Q ^^^ P)=Q ^^^ (P ^^^ P)from fun P Q=>by ac_rfl,ad9,adx]
   have d1:∀n:Nat,n<16→decide ((n:Int)<16)=true:=fun n h=>aaV (by omega)
   have d1:=d1 _ l1
   have d2:decide (((((C1 >>> 12) ^^^ BitVec.ofNat 16 (b%16)).toNat:Nat):Int)<16)=true:=aaV (by omega)
   have s1:=fun C=>GX C 4 (by omega)
   have s2:=fun C=>Vh C 12 (by omega)
   have hm:decide (max 0 (max 0 (max 1 0))≤1)=true:=by decide
   simp only[go_sem,simprocAttr,hlt,hd,hs2,hC,hb,hu,e1,e2,e3,s1,s2,Hh,d1,d2,abD,Nat.mul_one,A3,q1,q2,x1,x2,hm]
   exact⟨trivial,trivial,trivial⟩
  ·obtain rfl:i=s.size:=by omega
   have hd:decide (s.size<s.size)=false:=aaZ (by omega)
   simp only[go_sem,simprocAttr,hd]
end fh
namespace fh
def v3(s:ByteArray):jd:=xR 0#16 s s.size
def Py(C:jd):ByteArray:=⟨#[UInt8.ofNat (C.toNat/256),UInt8.ofNat (C.toNat%256)]⟩
def nW(s:ByteArray):ByteArray:=s++Py (v3 s)
theorem Bi(C:jd):(Py C).size=2:=by rfl
theorem iZ(s:ByteArray):(nW s).size=s.size+2:=by rw[nW,ByteArray.size_append,Bi]
theorem FP(C:jd):IntKind.u8.wrap ((C.toNat:Int).fdiv (2 ^ min 8 16))=((C.toNat/256:Nat):Int):=by
 have:=C.isLt
 rw[show min 8 16=8 from rfl,fY]
 exact lL (by omega) (by omega)
theorem FV(C:jd):IntKind.u8.wrap (C.toNat:Int)=((C.toNat%256:Nat):Int):=by
 have e:∀n:Int,IntKind.u8.wrap n=n%256:=fun n=>by simp[IntKind.wrap,IntKind.bits,IntKind.signed]
 rw[e];omega
theorem toB_cons{n:Nat}(L:List (List SV)):toBytes ([.int .u8 (n:Int)]::L)=(toBytes L).map (fun l=>UInt8.ofNat n::l):=by
 simp only[toBytes,abD]
theorem toB_nil:toBytes []=some []:=rfl
theorem TH(n:Nat)(H:ae)(s:ByteArray)(hs:s.size≤1000):aa T (n+5) (.fn 203) [.str s] H=some (.int .u16 ((v3 s).toNat:Nat),H):=by
 refine ab UF (by rfl) ?_
 simp only[Mc,ah,go_sem,simprocAttr,Uh _ _ _ hs,v3]
theorem UE(n:Nat)(H:ae)(s:ByteArray)(hs:s.size≤1000):aa T (n+6) (.fn 178) [.str s] H=some (.str (nW s),H):=by
 refine ab VJ (by rfl) ?_
 obtain⟨C,hC⟩:∃C,v3 s=C:=⟨_,rfl⟩
 have h:∀H,aa T (n+5) (.fn 203) [.str s] H=some (.int .u16 (C.toNat:Nat),H):=fun H=>hC▸TH n H s hs
 have hz:decide (s.size+ #[UInt8.ofNat (C.toNat/256),UInt8.ofNat (C.toNat%256)].size≤4611686018427387904)=true:=aaV (show s.size+2≤4611686018427387904 by omega)
 simp only[JD,ah,go_sem,simprocAttr,h,FP,FV,nW,hC,Py,toB_cons,toB_nil,abL,hz]
def nE(bs:List Bool):ByteArray:=⟨((List.range (nb bs.length)).map fun j=>UInt8.ofNat (di bs j)).toArray⟩
theorem iK(bs:List Bool):(nE bs).size=nb bs.length:=by simp[nE,ByteArray.size]
theorem toB_map(f:Nat→Nat):∀l:List Nat,toBytes (l.map fun j=>[.int .u8 (f j:Nat)])=some (l.map fun j=>UInt8.ofNat (f j))
 |[]=>rfl
 |a::l=>by rw[abB,toB_cons,toB_map f l];rfl
theorem toB_pkS(bs:List Bool):toBytes (q9 bs)=some ((List.range (nb bs.length)).map fun j=>UInt8.ofNat (di bs j)):=toB_map _ _
theorem Ve(n:Nat)(b0:aK)(tl:List aK)(es:List (Nat×Nat))(bs:List Bool):aa T (n+1) (.fn 177) [.ptr 1 0 0 0] (wH b0 bs tl es)=some (.bk [.str (nE bs),aex],wH b0 bs tl es):=by
 refine bm NH (by rfl) ?_
 have l0:decide (0<tl.length+1+1+1)=true:=aaV (by omega)
 have l3:decide (3≤tl.length+1+1+1)=true:=aaV (by omega)
 have ht:List.take (nb bs.length) (q9 bs)=q9 bs:=abu (by rw[eD];exact aa8 _)
 have hl:decide (nb bs.length≤(q9 bs).length)=true:=aaV (by rw[eD];exact aa8 _)
 have hl2:decide (nb bs.length≤nb bs.length)=true:=aaV (aa8 _)
 simp only[Gm,go_sem,simprocAttr,l0,l3,ht,hl,hl2,toB_pkS,nE]
 trace_state
end fh
section
namespace fh
abbrev wE(bs:List Bool):aK:=.box [.bp 2 (nb bs.length) 0 (nb bs.length),aew bs.length,aew 8]
abbrev wX(b0:aK)(bs:List Bool)(tl:List aK)(es:List (Nat×Nat)):ae:=⟨b0::wE bs::wA bs::tl,es,0⟩
section
variable(b0:aK)(tl:List aK)(es:List (Nat×Nat))(bs:List Bool)
theorem Sf(n:Nat)(x:ByteArray)(hx:127<x.size) :
 aa T (n+4) (.fn 229) [.ptr 1 0 0 0,aew 127,.str x] (wH b0 bs tl es)=some (.bk [],wX b0 bs tl es):=by
 refine bm KE (by rfl) ?_
 have h101:=fun H=>K5 (n+2) H 127
 have x1:decide ((127:Int)<(x.size:Int))=true:=aaV (by omega)
 have l0:decide (0<tl.length+1+1+1)=true:=aaV (by omega)
 have l1:decide (1<tl.length+1+1+1)=true:=aaV (by omega)
 have l2:decide (2<tl.length+1+1+1)=true:=aaV (by omega)
 have l3':decide (tl.length+1+1+1<3)=false:=aaZ (by omega)
 have l3:decide (3≤tl.length+1+1+1)=true:=aaV (by omega)
 simp only[GL,go_sem,simprocAttr,h101,x1,l0,l1,l2,l3,l3',aa7,abe,ite_self,if_true]
theorem QG(n:Nat):aa T (n+1) (.fn 177) [.ptr 1 0 0 0] (wX b0 bs tl es)=some (.bk [.str ⟨#[]⟩,aew 8],wX b0 bs tl es):=by
 refine bm NH (by rfl) ?_
 have l3:decide (3≤tl.length+1+1+1)=true:=aaV (by omega)
 simp only[Gm,go_sem,simprocAttr,l3]
end
section
variable(n:Nat)(cs:List SV)(t1 t2 t3:aK)(es:List (Nat×Nat))(bs:List Bool)
theorem HG(x:ByteArray)(j:Nat)(hj:cs[j]?=some (.str x))(hx:127<x.size) :
 aa T (n+5) (.fn 215) [pW,.ptr 0 0 0 j] (wH (.box cs) bs [t1,t2,t3] es)=some (.bk [],wX (.box cs) bs [t1,t2,t3] es):=by
 refine bm Nn (by rfl) ?_
 have h:=fun t es=>Sf (.box cs) [t1,t2,t3,t] es bs n x hx
 simp only[Hk,go_sem,simprocAttr,h,hj,abg,abh,aa7,abe,abl,aby,abn,aaU,ite_self,if_true]
theorem QV(k s d q o c m e t u v:Int)(x:ByteArray)(hc:0≤c∧c≤255)(hm:0≤m∧m≤65535)(hx:127<x.size)(hb:bs.length≤900) :
 aa T (n+6) (.fn 197) [pW,.ptr 0 0 0 0] (wH (.box (fr k s d q o c m e t u v x)) bs [t1,t2] es)=some (.bk [],wX (.box (fr k s d q o c m e t u v x)) (bs++(bits 8 c.toNat++(bits 16 m.toNat))) [t1,t2] (es++ek bs 24)):=by
 refine bm N4 (by rfl) ?_
 have h0:∀t' es,aa T (n+5) (.fn 201) [pW,aew 8,.ptr 0 0 0 5] (wH (.box (fr k s d q o c m e t u v x)) bs [t1,t2,t'] es)=some (.bk [],wH (.box (fr k s d q o c m e t u v x)) (bs++(bits 8 c.toNat)) [t1,t2,t'] (es++ek bs 8)):=fun t' es=>by
  have:=qe (n+1) _ t1 t2 t' es bs 8 c.toNat 5 (show(fr k s d q o c m e t u v x)[5]?=_ by rw[aba hc.1];rfl) (by omega) (by omega) (by omega) (by omega)
  try simp only[aaU]at this
  exact this
 have l0:(bs++(bits 8 c.toNat)).length=bs.length+8:=by simp only[aaT,aw]<;>omega
 have h1:∀t' es,aa T (n+5) (.fn 201) [pW,aew 16,.ptr 0 0 0 6] (wH (.box (fr k s d q o c m e t u v x)) (bs++(bits 8 c.toNat)) [t1,t2,t'] es)=some (.bk [],wH (.box (fr k s d q o c m e t u v x)) (bs++(bits 8 c.toNat++(bits 16 m.toNat))) [t1,t2,t'] (es++ek (bs++(bits 8 c.toNat)) 16)):=fun t' es=>by
  have:=qe (n+1) _ t1 t2 t' es (bs++(bits 8 c.toNat)) 16 m.toNat 6 (show(fr k s d q o c m e t u v x)[6]?=_ by rw[aba hm.1];rfl) (by omega) (by omega) (by omega) (by rw[l0];omega)
  try simp only[aaU]at this
  exact this
 have l1:(bs++(bits 8 c.toNat++(bits 16 m.toNat))).length=bs.length+24:=by simp only[aaT,aw]<;>omega
 have hT:∀t' es,aa T (n+5) (.fn 215) [pW,.ptr 0 0 0 11] (wH (.box (fr k s d q o c m e t u v x)) (bs++(bits 8 c.toNat++(bits 16 m.toNat))) [t1,t2,t'] es)=some (.bk [],wX (.box (fr k s d q o c m e t u v x)) (bs++(bits 8 c.toNat++(bits 16 m.toNat))) [t1,t2,t'] es):=fun t' es=>HG n (fr k s d q o c m e t u v x) t1 t2 t' es (bs++(bits 8 c.toNat++(bits 16 m.toNat))) x 11 rfl hx
 have hk:ek bs 24=ek bs 8++ek (bs++(bits 8 c.toNat)) 16:=by rw[cq l0]
 try simp only[aaU]at hk
 rw[hk]
 simp only[Gb,go_sem,simprocAttr,h0,h1,hT,abg,abh,aa7,abe,abl,aby,abn,aaU,ite_self,if_true]
theorem SH(k s d q o c m e t u v:Int)(x:ByteArray)(ht:0≤t∧t≤109951162)(hu:0≤u∧u≤65535)(hv:0≤v∧v≤65535)(hx:127<x.size)(hb:bs.length≤900) :
 aa T (n+6) (.fn 199) [pW,.ptr 0 0 0 0] (wH (.box (fr k s d q o c m e t u v x)) bs [t1,t2] es)=some (.bk [],wX (.box (fr k s d q o c m e t u v x)) (bs++(bits 27 t.toNat++(bits 16 u.toNat++(bits 16 v.toNat)))) [t1,t2] (es++ek bs 59)):=by
 refine bm Kl (by rfl) ?_
 have h0:∀t' es,aa T (n+5) (.fn 201) [pW,aew 27,.ptr 0 0 0 8] (wH (.box (fr k s d q o c m e t u v x)) bs [t1,t2,t'] es)=some (.bk [],wH (.box (fr k s d q o c m e t u v x)) (bs++(bits 27 t.toNat)) [t1,t2,t'] (es++ek bs 27)):=fun t' es=>by
  have:=qe (n+1) _ t1 t2 t' es bs 27 t.toNat 8 (show(fr k s d q o c m e t u v x)[8]?=_ by rw[aba ht.1];rfl) (by omega) (by omega) (by omega) (by omega)
  try simp only[aaU]at this
  exact this
 have l0:(bs++(bits 27 t.toNat)).length=bs.length+27:=by simp only[aaT,aw]<;>omega
 have h1:∀t' es,aa T (n+5) (.fn 201) [pW,aew 16,.ptr 0 0 0 9] (wH (.box (fr k s d q o c m e t u v x)) (bs++(bits 27 t.toNat)) [t1,t2,t'] es)=some (.bk [],wH (.box (fr k s d q o c m e t u v x)) (bs++(bits 27 t.toNat++(bits 16 u.toNat))) [t1,t2,t'] (es++ek (bs++(bits 27 t.toNat)) 16)):=fun t' es=>by
  have:=qe (n+1) _ t1 t2 t' es (bs++(bits 27 t.toNat)) 16 u.toNat 9 (show(fr k s d q o c m e t u v x)[9]?=_ by rw[aba hu.1];rfl) (by omega) (by omega) (by omega) (by rw[l0];omega)
  try simp only[aaU]at this
  exact this
 have l1:(bs++(bits 27 t.toNat++(bits 16 u.toNat))).length=bs.length+43:=by simp only[aaT,aw]<;>omega
 have h2:∀t' es,aa T (n+5) (.fn 201) [pW,aew 16,.ptr 0 0 0 10] (wH (.box (fr k s d q o c m e t u v x)) (bs++(bits 27 t.toNat++(bits 16 u.toNat))) [t1,t2,t'] es)=some (.bk [],wH (.box (fr k s d q o c m e t u v x)) (bs++(bits 27 t.toNat++(bits 16 u.toNat++(bits 16 v.toNat)))) [t1,t2,t'] (es++ek (bs++(bits 27 t.toNat++(bits 16 u.toNat))) 16)):=fun t' es=>by
  have:=qe (n+1) _ t1 t2 t' es (bs++(bits 27 t.toNat++(bits 16 u.toNat))) 16 v.toNat 10 (show(fr k s d q o c m e t u v x)[10]?=_ by rw[aba hv.1];rfl) (by omega) (by omega) (by omega) (by rw[l1];omega)
  try simp only[aaU]at this
  exact this
 have l2:(bs++(bits 27 t.toNat++(bits 16 u.toNat++(bits 16 v.toNat)))).length=bs.length+59:=by simp only[aaT,aw]<;>omega
 have hT:∀t' es,aa T (n+5) (.fn 215) [pW,.ptr 0 0 0 11] (wH (.box (fr k s d q o c m e t u v x)) (bs++(bits 27 t.toNat++(bits 16 u.toNat++(bits 16 v.toNat)))) [t1,t2,t'] es)=some (.bk [],wX (.box (fr k s d q o c m e t u v x)) (bs++(bits 27 t.toNat++(bits 16 u.toNat++(bits 16 v.toNat)))) [t1,t2,t'] es):=fun t' es=>HG n (fr k s d q o c m e t u v x) t1 t2 t' es (bs++(bits 27 t.toNat++(bits 16 u.toNat++(bits 16 v.toNat)))) x 11 rfl hx
 have hk:ek bs 59=ek bs 27++ek (bs++(bits 27 t.toNat)) 16++ek (bs++(bits 27 t.toNat++(bits 16 u.toNat))) 16:=by rw[cq l0,cq l1]
 try simp only[aaU]at hk
 rw[hk]
 simp only[Hb,go_sem,simprocAttr,h0,h1,h2,hT,abg,abh,aa7,abe,abl,aby,abn,aaU,ite_self,if_true]
theorem Uw(k s d q o c m e t u v:Int)(x:ByteArray)(hx:127<x.size)(hb:bs.length≤900) :
 aa T (n+6) (.fn 200) [pW,.ptr 0 0 0 0] (wH (.box (fr k s d q o c m e t u v x)) bs [t1,t2] es)=some (.bk [],wX (.box (fr k s d q o c m e t u v x)) bs [t1,t2] es):=by
 refine bm Lf (by rfl) ?_
 have hT:∀t' es,aa T (n+5) (.fn 215) [pW,.ptr 0 0 0 11] (wH (.box (fr k s d q o c m e t u v x)) bs [t1,t2,t'] es)=some (.bk [],wX (.box (fr k s d q o c m e t u v x)) bs [t1,t2,t'] es):=fun t' es=>HG n (fr k s d q o c m e t u v x) t1 t2 t' es bs x 11 rfl hx
 simp only[Gk,go_sem,simprocAttr,hT,abg,abh,aa7,abe,abl,aby,abn,aaU,ite_self,if_true]
theorem HE(s d q o c m e t u v:Int)(x:ByteArray)(hs:0≤s∧s≤31)(hd:d<32)(hd0:d<0→d= -1)(hq:0≤q∧q≤255)(ho:0≤o∧o≤255)(hc:0≤c∧c≤255)(hm:0≤m∧m≤65535)(hx:127<x.size)(hb:bs.length≤100) :
 ∃bs' es',aa T (n+7) (.fn 176) [pW,.ptr 0 0 0 0] (wH (.box (fr 1 s d q o c m e t u v x)) bs [] es)=some (.bool true,wX (.box (fr 1 s d q o c m e t u v x)) bs' [] es'):=by
 refine⟨(bs++(bits 3 1++(bits 5 s.toNat++(av d++(bits 8 q.toNat++(bits 8 o.toNat++(bits 8 c.toNat++(bits 16 m.toNat)))))))),es++(ek bs 3++(ek (bs++(bits 3 1)) 5++(ek (bs++(bits 3 1++(bits 5 s.toNat))) (bH d)++(ek (bs++(bits 3 1++(bits 5 s.toNat++(av d)))) 8++(ek (bs++(bits 3 1++(bits 5 s.toNat++(av d++(bits 8 q.toNat))))) 8++(ek (bs++(bits 3 1++(bits 5 s.toNat++(av d++(bits 8 q.toNat++(bits 8 o.toNat)))))) 24)))))),?_⟩
 refine bm wP (by rfl) ?_
 have h0:∀t1 t2 es,aa T (n+6) (.fn 201) [pW,aew 3,.ptr 0 0 0 0] (wH (.box (fr 1 s d q o c m e t u v x)) bs [t1,t2] es)=some (.bk [],wH (.box (fr 1 s d q o c m e t u v x)) (bs++(bits 3 1)) [t1,t2] (es++ek bs 3)):=fun t1 t2 es=>by
  have:=fB (n+2) (fr 1 s d q o c m e t u v x) t1 t2 es bs 3 1 0 rfl (by omega) (by omega) (by omega) (by omega)
  try simp only[aaU]at this
  exact this
 have l0:(bs++(bits 3 1)).length=bs.length+(3):=by simp only[aaT,aw,bw]<;>omega
 have h1:∀t1 t2 es,aa T (n+6) (.fn 201) [pW,aew 5,.ptr 0 0 0 1] (wH (.box (fr 1 s d q o c m e t u v x)) (bs++(bits 3 1)) [t1,t2] es)=some (.bk [],wH (.box (fr 1 s d q o c m e t u v x)) (bs++(bits 3 1++(bits 5 s.toNat))) [t1,t2] (es++ek (bs++(bits 3 1)) 5)):=fun t1 t2 es=>by
  have:=fB (n+2) (fr 1 s d q o c m e t u v x) t1 t2 es (bs++(bits 3 1)) 5 s.toNat 1 (show(fr 1 s d q o c m e t u v x)[1]?=_ by rw[aba hs.1];rfl) (by omega) (by omega) (by omega) (by have:=fq d;rw[l0];omega)
  try simp only[aaU]at this
  exact this
 have l1:(bs++(bits 3 1++(bits 5 s.toNat))).length=bs.length+(8):=by simp only[aaT,aw,bw]<;>omega
 have h2:∀t1 t2 es,aa T (n+6) (.fn 202) [pW,.ptr 0 0 0 2] (wH (.box (fr 1 s d q o c m e t u v x)) (bs++(bits 3 1++(bits 5 s.toNat))) [t1,t2] es)=some (.bk [],wH (.box (fr 1 s d q o c m e t u v x)) (bs++(bits 3 1++(bits 5 s.toNat++(av d)))) [t1,t2] (es++ek (bs++(bits 3 1++(bits 5 s.toNat))) (bH d))):=fun t1 t2 es=>by
  have:=xy n t1 t2 es (bs++(bits 3 1++(bits 5 s.toNat))) 1 s d q o c m e t u v x hd hd0 (by rw[l1];omega)
  try simp only[aaU]at this
  exact this
 have l2:(bs++(bits 3 1++(bits 5 s.toNat++(av d)))).length=bs.length+(8+bH d):=by simp only[aaT,aw,bw]<;>omega
 have h3:∀t1 t2 es,aa T (n+6) (.fn 201) [pW,aew 8,.ptr 0 0 0 3] (wH (.box (fr 1 s d q o c m e t u v x)) (bs++(bits 3 1++(bits 5 s.toNat++(av d)))) [t1,t2] es)=some (.bk [],wH (.box (fr 1 s d q o c m e t u v x)) (bs++(bits 3 1++(bits 5 s.toNat++(av d++(bits 8 q.toNat))))) [t1,t2] (es++ek (bs++(bits 3 1++(bits 5 s.toNat++(av d)))) 8)):=fun t1 t2 es=>by
  have:=fB (n+2) (fr 1 s d q o c m e t u v x) t1 t2 es (bs++(bits 3 1++(bits 5 s.toNat++(av d)))) 8 q.toNat 3 (show(fr 1 s d q o c m e t u v x)[3]?=_ by rw[aba hq.1];rfl) (by omega) (by omega) (by omega) (by have:=fq d;rw[l2];omega)
  try simp only[aaU]at this
  exact this
 have l3:(bs++(bits 3 1++(bits 5 s.toNat++(av d++(bits 8 q.toNat))))).length=bs.length+(16+bH d):=by simp only[aaT,aw,bw]<;>omega
 have h4:∀t1 t2 es,aa T (n+6) (.fn 201) [pW,aew 8,.ptr 0 0 0 4] (wH (.box (fr 1 s d q o c m e t u v x)) (bs++(bits 3 1++(bits 5 s.toNat++(av d++(bits 8 q.toNat))))) [t1,t2] es)=some (.bk [],wH (.box (fr 1 s d q o c m e t u v x)) (bs++(bits 3 1++(bits 5 s.toNat++(av d++(bits 8 q.toNat++(bits 8 o.toNat)))))) [t1,t2] (es++ek (bs++(bits 3 1++(bits 5 s.toNat++(av d++(bits 8 q.toNat))))) 8)):=fun t1 t2 es=>by
  have:=fB (n+2) (fr 1 s d q o c m e t u v x) t1 t2 es (bs++(bits 3 1++(bits 5 s.toNat++(av d++(bits 8 q.toNat))))) 8 o.toNat 4 (show(fr 1 s d q o c m e t u v x)[4]?=_ by rw[aba ho.1];rfl) (by omega) (by omega) (by omega) (by have:=fq d;rw[l3];omega)
  try simp only[aaU]at this
  exact this
 have l4:(bs++(bits 3 1++(bits 5 s.toNat++(av d++(bits 8 q.toNat++(bits 8 o.toNat)))))).length=bs.length+(24+bH d):=by simp only[aaT,aw,bw]<;>omega
 have hb1:∀t1 t2 es,aa T (n+6) (.fn 197) [pW,.ptr 0 0 0 0] (wH (.box (fr 1 s d q o c m e t u v x)) (bs++(bits 3 1++(bits 5 s.toNat++(av d++(bits 8 q.toNat++(bits 8 o.toNat)))))) [t1,t2] es)=some (.bk [],wX (.box (fr 1 s d q o c m e t u v x)) (bs++(bits 3 1++(bits 5 s.toNat++(av d++(bits 8 q.toNat++(bits 8 o.toNat++(bits 8 c.toNat++(bits 16 m.toNat)))))))) [t1,t2] (es++ek (bs++(bits 3 1++(bits 5 s.toNat++(av d++(bits 8 q.toNat++(bits 8 o.toNat)))))) 24)):=fun t1 t2 es=>by
  have:=QV n t1 t2 es (bs++(bits 3 1++(bits 5 s.toNat++(av d++(bits 8 q.toNat++(bits 8 o.toNat)))))) 1 s d q o c m e t u v x hc hm hx (by have:=fq d;rw[l4];omega)
  try simp only[aaU]at this
  exact this
 simp only[vi,go_sem,simprocAttr,h0,h1,h2,h3,h4,hb1,abg,abh,aa7,abe,abl,aby,abn,aaU,ite_self,if_true]
theorem GS(s d q o c m e t u v:Int)(x:ByteArray)(hs:0≤s∧s≤31)(hd:d<32)(hd0:d<0→d= -1)(hq:0≤q∧q≤255)(ho:0≤o∧o≤255)(ht:0≤t∧t≤109951162)(hu:0≤u∧u≤65535)(hv:0≤v∧v≤65535)(hx:127<x.size)(hb:bs.length≤100) :
 ∃bs' es',aa T (n+7) (.fn 176) [pW,.ptr 0 0 0 0] (wH (.box (fr 3 s d q o c m e t u v x)) bs [] es)=some (.bool true,wX (.box (fr 3 s d q o c m e t u v x)) bs' [] es'):=by
 refine⟨(bs++(bits 3 3++(bits 5 s.toNat++(av d++(bits 8 q.toNat++(bits 8 o.toNat++(bits 27 t.toNat++(bits 16 u.toNat++(bits 16 v.toNat))))))))),es++(ek bs 3++(ek (bs++(bits 3 3)) 5++(ek (bs++(bits 3 3++(bits 5 s.toNat))) (bH d)++(ek (bs++(bits 3 3++(bits 5 s.toNat++(av d)))) 8++(ek (bs++(bits 3 3++(bits 5 s.toNat++(av d++(bits 8 q.toNat))))) 8++(ek (bs++(bits 3 3++(bits 5 s.toNat++(av d++(bits 8 q.toNat++(bits 8 o.toNat)))))) 59)))))),?_⟩
 refine bm wP (by rfl) ?_
 have h0:∀t1 t2 es,aa T (n+6) (.fn 201) [pW,aew 3,.ptr 0 0 0 0] (wH (.box (fr 3 s d q o c m e t u v x)) bs [t1,t2] es)=some (.bk [],wH (.box (fr 3 s d q o c m e t u v x)) (bs++(bits 3 3)) [t1,t2] (es++ek bs 3)):=fun t1 t2 es=>by
  have:=fB (n+2) (fr 3 s d q o c m e t u v x) t1 t2 es bs 3 3 0 rfl (by omega) (by omega) (by omega) (by omega)
  try simp only[aaU]at this
  exact this
 have l0:(bs++(bits 3 3)).length=bs.length+(3):=by simp only[aaT,aw,bw]<;>omega
 have h1:∀t1 t2 es,aa T (n+6) (.fn 201) [pW,aew 5,.ptr 0 0 0 1] (wH (.box (fr 3 s d q o c m e t u v x)) (bs++(bits 3 3)) [t1,t2] es)=some (.bk [],wH (.box (fr 3 s d q o c m e t u v x)) (bs++(bits 3 3++(bits 5 s.toNat))) [t1,t2] (es++ek (bs++(bits 3 3)) 5)):=fun t1 t2 es=>by
  have:=fB (n+2) (fr 3 s d q o c m e t u v x) t1 t2 es (bs++(bits 3 3)) 5 s.toNat 1 (show(fr 3 s d q o c m e t u v x)[1]?=_ by rw[aba hs.1];rfl) (by omega) (by omega) (by omega) (by have:=fq d;rw[l0];omega)
  try simp only[aaU]at this
  exact this
 have l1:(bs++(bits 3 3++(bits 5 s.toNat))).length=bs.length+(8):=by simp only[aaT,aw,bw]<;>omega
 have h2:∀t1 t2 es,aa T (n+6) (.fn 202) [pW,.ptr 0 0 0 2] (wH (.box (fr 3 s d q o c m e t u v x)) (bs++(bits 3 3++(bits 5 s.toNat))) [t1,t2] es)=some (.bk [],wH (.box (fr 3 s d q o c m e t u v x)) (bs++(bits 3 3++(bits 5 s.toNat++(av d)))) [t1,t2] (es++ek (bs++(bits 3 3++(bits 5 s.toNat))) (bH d))):=fun t1 t2 es=>by
  have:=xy n t1 t2 es (bs++(bits 3 3++(bits 5 s.toNat))) 3 s d q o c m e t u v x hd hd0 (by rw[l1];omega)
  try simp only[aaU]at this
  exact this
 have l2:(bs++(bits 3 3++(bits 5 s.toNat++(av d)))).length=bs.length+(8+bH d):=by simp only[aaT,aw,bw]<;>omega
 have h3:∀t1 t2 es,aa T (n+6) (.fn 201) [pW,aew 8,.ptr 0 0 0 3] (wH (.box (fr 3 s d q o c m e t u v x)) (bs++(bits 3 3++(bits 5 s.toNat++(av d)))) [t1,t2] es)=some (.bk [],wH (.box (fr 3 s d q o c m e t u v x)) (bs++(bits 3 3++(bits 5 s.toNat++(av d++(bits 8 q.toNat))))) [t1,t2] (es++ek (bs++(bits 3 3++(bits 5 s.toNat++(av d)))) 8)):=fun t1 t2 es=>by
  have:=fB (n+2) (fr 3 s d q o c m e t u v x) t1 t2 es (bs++(bits 3 3++(bits 5 s.toNat++(av d)))) 8 q.toNat 3 (show(fr 3 s d q o c m e t u v x)[3]?=_ by rw[aba hq.1];rfl) (by omega) (by omega) (by omega) (by have:=fq d;rw[l2];omega)
  try simp only[aaU]at this
  exact this
 have l3:(bs++(bits 3 3++(bits 5 s.toNat++(av d++(bits 8 q.toNat))))).length=bs.length+(16+bH d):=by simp only[aaT,aw,bw]<;>omega
 have h4:∀t1 t2 es,aa T (n+6) (.fn 201) [pW,aew 8,.ptr 0 0 0 4] (wH (.box (fr 3 s d q o c m e t u v x)) (bs++(bits 3 3++(bits 5 s.toNat++(av d++(bits 8 q.toNat))))) [t1,t2] es)=some (.bk [],wH (.box (fr 3 s d q o c m e t u v x)) (bs++(bits 3 3++(bits 5 s.toNat++(av d++(bits 8 q.toNat++(bits 8 o.toNat)))))) [t1,t2] (es++ek (bs++(bits 3 3++(bits 5 s.toNat++(av d++(bits 8 q.toNat))))) 8)):=fun t1 t2 es=>by
  have:=fB (n+2) (fr 3 s d q o c m e t u v x) t1 t2 es (bs++(bits 3 3++(bits 5 s.toNat++(av d++(bits 8 q.toNat))))) 8 o.toNat 4 (show(fr 3 s d q o c m e t u v x)[4]?=_ by rw[aba ho.1];rfl) (by omega) (by omega) (by omega) (by have:=fq d;rw[l3];omega)
  try simp only[aaU]at this
  exact this
 have l4:(bs++(bits 3 3++(bits 5 s.toNat++(av d++(bits 8 q.toNat++(bits 8 o.toNat)))))).length=bs.length+(24+bH d):=by simp only[aaT,aw,bw]<;>omega
 have hb1:∀t1 t2 es,aa T (n+6) (.fn 199) [pW,.ptr 0 0 0 0] (wH (.box (fr 3 s d q o c m e t u v x)) (bs++(bits 3 3++(bits 5 s.toNat++(av d++(bits 8 q.toNat++(bits 8 o.toNat)))))) [t1,t2] es)=some (.bk [],wX (.box (fr 3 s d q o c m e t u v x)) (bs++(bits 3 3++(bits 5 s.toNat++(av d++(bits 8 q.toNat++(bits 8 o.toNat++(bits 27 t.toNat++(bits 16 u.toNat++(bits 16 v.toNat))))))))) [t1,t2] (es++ek (bs++(bits 3 3++(bits 5 s.toNat++(av d++(bits 8 q.toNat++(bits 8 o.toNat)))))) 59)):=fun t1 t2 es=>by
  have:=SH n t1 t2 es (bs++(bits 3 3++(bits 5 s.toNat++(av d++(bits 8 q.toNat++(bits 8 o.toNat)))))) 3 s d q o c m e t u v x ht hu hv hx (by have:=fq d;rw[l4];omega)
  try simp only[aaU]at this
  exact this
 simp only[vi,go_sem,simprocAttr,h0,h1,h2,h3,h4,hb1,abg,abh,aa7,abe,abl,aby,abn,aaU,ite_self,if_true]
theorem G0(s d q o c m e t u v:Int)(x:ByteArray)(hs:0≤s∧s≤31)(hd:d<32)(hd0:d<0→d= -1)(hq:0≤q∧q≤255)(ho:0≤o∧o≤255)(hx:127<x.size)(hb:bs.length≤100) :
 ∃bs' es',aa T (n+7) (.fn 176) [pW,.ptr 0 0 0 0] (wH (.box (fr 4 s d q o c m e t u v x)) bs [] es)=some (.bool true,wX (.box (fr 4 s d q o c m e t u v x)) bs' [] es'):=by
 refine⟨(bs++(bits 3 4++(bits 5 s.toNat++(av d++(bits 8 q.toNat++(bits 8 o.toNat)))))),es++(ek bs 3++(ek (bs++(bits 3 4)) 5++(ek (bs++(bits 3 4++(bits 5 s.toNat))) (bH d)++(ek (bs++(bits 3 4++(bits 5 s.toNat++(av d)))) 8++(ek (bs++(bits 3 4++(bits 5 s.toNat++(av d++(bits 8 q.toNat))))) 8))))),?_⟩
 refine bm wP (by rfl) ?_
 have h0:∀t1 t2 es,aa T (n+6) (.fn 201) [pW,aew 3,.ptr 0 0 0 0] (wH (.box (fr 4 s d q o c m e t u v x)) bs [t1,t2] es)=some (.bk [],wH (.box (fr 4 s d q o c m e t u v x)) (bs++(bits 3 4)) [t1,t2] (es++ek bs 3)):=fun t1 t2 es=>by
  have:=fB (n+2) (fr 4 s d q o c m e t u v x) t1 t2 es bs 3 4 0 rfl (by omega) (by omega) (by omega) (by omega)
  try simp only[aaU]at this
  exact this
 have l0:(bs++(bits 3 4)).length=bs.length+(3):=by simp only[aaT,aw,bw]<;>omega
 have h1:∀t1 t2 es,aa T (n+6) (.fn 201) [pW,aew 5,.ptr 0 0 0 1] (wH (.box (fr 4 s d q o c m e t u v x)) (bs++(bits 3 4)) [t1,t2] es)=some (.bk [],wH (.box (fr 4 s d q o c m e t u v x)) (bs++(bits 3 4++(bits 5 s.toNat))) [t1,t2] (es++ek (bs++(bits 3 4)) 5)):=fun t1 t2 es=>by
  have:=fB (n+2) (fr 4 s d q o c m e t u v x) t1 t2 es (bs++(bits 3 4)) 5 s.toNat 1 (show(fr 4 s d q o c m e t u v x)[1]?=_ by rw[aba hs.1];rfl) (by omega) (by omega) (by omega) (by have:=fq d;rw[l0];omega)
  try simp only[aaU]at this
  exact this
 have l1:(bs++(bits 3 4++(bits 5 s.toNat))).length=bs.length+(8):=by simp only[aaT,aw,bw]<;>omega
 have h2:∀t1 t2 es,aa T (n+6) (.fn 202) [pW,.ptr 0 0 0 2] (wH (.box (fr 4 s d q o c m e t u v x)) (bs++(bits 3 4++(bits 5 s.toNat))) [t1,t2] es)=some (.bk [],wH (.box (fr 4 s d q o c m e t u v x)) (bs++(bits 3 4++(bits 5 s.toNat++(av d)))) [t1,t2] (es++ek (bs++(bits 3 4++(bits 5 s.toNat))) (bH d))):=fun t1 t2 es=>by
  have:=xy n t1 t2 es (bs++(bits 3 4++(bits 5 s.toNat))) 4 s d q o c m e t u v x hd hd0 (by rw[l1];omega)
  try simp only[aaU]at this
  exact this
 have l2:(bs++(bits 3 4++(bits 5 s.toNat++(av d)))).length=bs.length+(8+bH d):=by simp only[aaT,aw,bw]<;>omega
 have h3:∀t1 t2 es,aa T (n+6) (.fn 201) [pW,aew 8,.ptr 0 0 0 3] (wH (.box (fr 4 s d q o c m e t u v x)) (bs++(bits 3 4++(bits 5 s.toNat++(av d)))) [t1,t2] es)=some (.bk [],wH (.box (fr 4 s d q o c m e t u v x)) (bs++(bits 3 4++(bits 5 s.toNat++(av d++(bits 8 q.toNat))))) [t1,t2] (es++ek (bs++(bits 3 4++(bits 5 s.toNat++(av d)))) 8)):=fun t1 t2 es=>by
  have:=fB (n+2) (fr 4 s d q o c m e t u v x) t1 t2 es (bs++(bits 3 4++(bits 5 s.toNat++(av d)))) 8 q.toNat 3 (show(fr 4 s d q o c m e t u v x)[3]?=_ by rw[aba hq.1];rfl) (by omega) (by omega) (by omega) (by have:=fq d;rw[l2];omega)
  try simp only[aaU]at this
  exact this
 have l3:(bs++(bits 3 4++(bits 5 s.toNat++(av d++(bits 8 q.toNat))))).length=bs.length+(16+bH d):=by simp only[aaT,aw,bw]<;>omega
 have h4:∀t1 t2 es,aa T (n+6) (.fn 201) [pW,aew 8,.ptr 0 0 0 4] (wH (.box (fr 4 s d q o c m e t u v x)) (bs++(bits 3 4++(bits 5 s.toNat++(av d++(bits 8 q.toNat))))) [t1,t2] es)=some (.bk [],wH (.box (fr 4 s d q o c m e t u v x)) (bs++(bits 3 4++(bits 5 s.toNat++(av d++(bits 8 q.toNat++(bits 8 o.toNat)))))) [t1,t2] (es++ek (bs++(bits 3 4++(bits 5 s.toNat++(av d++(bits 8 q.toNat))))) 8)):=fun t1 t2 es=>by
  have:=fB (n+2) (fr 4 s d q o c m e t u v x) t1 t2 es (bs++(bits 3 4++(bits 5 s.toNat++(av d++(bits 8 q.toNat))))) 8 o.toNat 4 (show(fr 4 s d q o c m e t u v x)[4]?=_ by rw[aba ho.1];rfl) (by omega) (by omega) (by omega) (by have:=fq d;rw[l3];omega)
  try simp only[aaU]at this
  exact this
 have l4:(bs++(bits 3 4++(bits 5 s.toNat++(av d++(bits 8 q.toNat++(bits 8 o.toNat)))))).length=bs.length+(24+bH d):=by simp only[aaT,aw,bw]<;>omega
 have hb1:∀t1 t2 es,aa T (n+6) (.fn 200) [pW,.ptr 0 0 0 0] (wH (.box (fr 4 s d q o c m e t u v x)) (bs++(bits 3 4++(bits 5 s.toNat++(av d++(bits 8 q.toNat++(bits 8 o.toNat)))))) [t1,t2] es)=some (.bk [],wX (.box (fr 4 s d q o c m e t u v x)) (bs++(bits 3 4++(bits 5 s.toNat++(av d++(bits 8 q.toNat++(bits 8 o.toNat)))))) [t1,t2] es):=fun t1 t2 es=>by
  have:=Uw n t1 t2 es (bs++(bits 3 4++(bits 5 s.toNat++(av d++(bits 8 q.toNat++(bits 8 o.toNat)))))) 4 s d q o c m e t u v x hx (by have:=fq d;rw[l4];omega)
  try simp only[aaU]at this
  exact this
 simp only[vi,go_sem,simprocAttr,h0,h1,h2,h3,h4,hb1,abg,abh,aa7,abe,abl,aby,abn,aaU,ite_self,if_true]
end
end fh
end
namespace fh
def mb(k c m e t u v:Int)(x:ByteArray):List Bool:=
 bif decide (k=1)then bits 8 c.toNat++(bits 16 m.toNat++(bits 7 x.size++ic x x.size))
 else bif decide (k=2)then bits 16 (vF e)
 else bif decide (k=3)then bits 27 t.toNat++(bits 16 u.toNat++(bits 16 v.toNat++(bits 7 x.size++ic x x.size)))
 else bits 7 x.size++ic x x.size
def dy(k s d q o c m e t u v:Int)(x:ByteArray):List Bool:=
 bits 3 k.toNat++(bits 5 s.toNat++(av d++(bits 8 q.toNat++(bits 8 o.toNat++mb k c m e t u v x))))
def uB(k s d q o c m e t u v:Int)(x:ByteArray):SV:=
 bif !lJ k s d q o c m e t u v x then .bk [.str ⟨#[]⟩,aew 1]
 else bif decide (127<x.size)||decide (127<(nE (dy k s d q o c m e t u v x)).size+2)then .bk [.str ⟨#[]⟩,aew 8]
 else .bk [.str (nW (nE (dy k s d q o c m e t u v x))),aex]
theorem QN(n:Nat)(es:List (Nat×Nat))(b0:aK):aa T (n+1) (.qX 175) [] ⟨[b0],es,0⟩=some (.ptr 1 0 0 0,⟨[b0,.box [.ay 0 [] true,aex,aex]],es,0⟩):=by
 refine eP RM ?_
 simp only[ML,go_sem,simprocAttr]
theorem oQ{k s d q o c m e t u v:Int}{x:ByteArray}(h:lJ k s d q o c m e t u v x=true) :
 (0≤s∧s≤31)∧d<32∧(d<0→d= -1)∧(0≤q∧q≤255)∧(0≤o∧o≤255)∧
  ((k=1∧(0≤c∧c≤255)∧(0≤m∧m≤65535))∨(k=2∧(-32768≤e∧e≤32767)∧x=⟨#[]⟩)∨(k=3∧(0≤t∧t≤109951162)∧(0≤u∧u≤65535)∧(0≤v∧v≤65535))∨k=4):=by
 unfold lJ ua at h
 simp only[dQ,A7,aa1,aaX]at h
 obtain⟨h1,hs,hq,ho⟩:=h
 by_cases k1:k=1
 ·rw[aaV k1]at h1
  simp only[abb,aa1,aaX,abx,aa0]at h1
  exact⟨hs,by omega,by omega,hq,ho,.inl ⟨k1,h1.1.1.2,h1.1.2⟩⟩
 ·rw[aaZ k1]at h1
  by_cases k2:k=2
  ·rw[aaV k2]at h1
   simp only[abb,abc,aa1,aaX,abx,aa0]at h1
   exact⟨hs,by omega,by omega,hq,ho,.inr (.inl ⟨k2,h1.1.2,h1.2.2.2.2.2.2⟩)⟩
  ·rw[aaZ k2]at h1
   by_cases k3:k=3
   ·rw[aaV k3]at h1
    simp only[abb,abc,aa1,aaX,abx,aa0]at h1
    exact⟨hs,by omega,by omega,hq,ho,.inr (.inr (.inl ⟨k3,h1.1.1.1.2,h1.1.1.2,h1.1.2⟩))⟩
   ·rw[aaZ k3]at h1
    by_cases k4:k=4
    ·rw[aaV k4]at h1
     simp only[abb,abc,aa1,abS,aaX,abx,aa0]at h1
     exact⟨hs,by omega,by omega,hq,ho,.inr (.inr (.inr k4))⟩
    ·rw[aaZ k4]at h1
     simp at h1
end fh
section
namespace fh
section
variable{k s d q o c m e t u v:Int}{x:ByteArray}
theorem RA(n:Nat)(es:List (Nat×Nat))(h:lJ k s d q o c m e t u v x=true)(hx:x.size≤127) :
 ∃es',aa T (n+7) (.fn 176) [pW,.ptr 0 0 0 0] (wH (.box (fr k s d q o c m e t u v x)) [] [] es)=some (.bool true,wH (.box (fr k s d q o c m e t u v x)) (dy k s d q o c m e t u v x) [] es'):=by
 obtain⟨hs,hd,hd0,hq,ho,h⟩:=oQ h
 rcases h with⟨rfl,hc,hm⟩|⟨rfl,he,rfl⟩|⟨rfl,ht,hu,hv⟩|rfl
 ·exact⟨_,NJ n es [] s d q o c m e t u v x hs hd hd0 hq ho hc hm hx (by simp)⟩
 ·exact⟨_,KY n es [] s d q o c m e t u v _ hs hd hd0 hq ho he (by simp)⟩
 ·exact⟨_,Jz n es [] s d q o c m e t u v x hs hd hd0 hq ho ht hu hv hx (by simp)⟩
 ·exact⟨_,MV n es [] s d q o c m e t u v x hs hd hd0 hq ho hx (by simp)⟩
theorem Ry(n:Nat)(es:List (Nat×Nat))(h:lJ k s d q o c m e t u v x=true)(hx:127<x.size) :
 ∃bs' es',aa T (n+7) (.fn 176) [pW,.ptr 0 0 0 0] (wH (.box (fr k s d q o c m e t u v x)) [] [] es)=some (.bool true,wX (.box (fr k s d q o c m e t u v x)) bs' [] es'):=by
 obtain⟨hs,hd,hd0,hq,ho,h⟩:=oQ h
 rcases h with⟨rfl,hc,hm⟩|⟨rfl,he,rfl⟩|⟨rfl,ht,hu,hv⟩|rfl
 ·exact HE n es [] s d q o c m e t u v x hs hd hd0 hq ho hc hm hx (by simp)
 ·exact absurd hx (by decide)
 ·exact GS n es [] s d q o c m e t u v x hs hd hd0 hq ho ht hu hv hx (by simp)
 ·exact G0 n es [] s d q o c m e t u v x hs hd hd0 hq ho hx (by simp)
end
theorem Jj(n:Nat)(H:ae)(k s d q o c m e t u v:Int)(x:ByteArray)(hX:x.size≤10000):aa T (n+8) (.fn 133) [.agg (fr k s d q o c m e t u v x)] H=some (uB k s d q o c m e t u v x,H):=by
 refine ab J3 (by rfl) ?_
 have h17:=fun H=>Qy (n+3) H k s d q o c m e t u v x
 unfold uB
 cases hch:lJ k s d q o c m e t u v x with
 |false=>
  rw[hch]at h17
  simp only[AX,ah,go_sem,simprocAttr,h17]
 |true=>
  rw[hch]at h17
  have h26:=fun es b0=>QN (n+6) es b0
  rcases aa4 127 x.size with hx|hx
  ·obtain⟨bs',es',h27⟩:=Ry n [(1,3)] hch hx
   have h27:aa T (n+7) (.fn 176) [.agg [.ptr 1 0 0 0,.dc],.ptr 0 0 0 0] ⟨[.box (fr k s d q o c m e t u v x),.box [.bp 2 0 0 0,aex,aex],.arr 0 1 [] false],[(1,3)],0⟩=_:=h27
   have h28:=QG (.box (fr k s d q o c m e t u v x)) [] es' bs' (n+6)
   have hd:decide (127<x.size)=true:=aaV hx
   simp only[AX,ah,go_sem,simprocAttr,h17,h26,h27,h28,hd,Nat.reduceMod,Nat.reduceDiv]
  ·obtain⟨es',h27⟩:=RA n [(1,3)] hch hx
   have h27:aa T (n+7) (.fn 176) [.agg [.ptr 1 0 0 0,.dc],.ptr 0 0 0 0] ⟨[.box (fr k s d q o c m e t u v x),.box [.bp 2 0 0 0,aex,aex],.arr 0 1 [] false],[(1,3)],0⟩=_:=h27
   have h28:=Ve (n+6) (.box (fr k s d q o c m e t u v x)) [] es' (dy k s d q o c m e t u v x)
   obtain⟨P,hP⟩:∃P,nE (dy k s d q o c m e t u v x)=P:=⟨_,rfl⟩
   rw[hP]at h28⊢
   have hd:decide (127<x.size)=false:=aaZ (by omega)
   have hs:P.size≤1000:=by
    rw[←hP,iK]
    have hl:(dy k s d q o c m e t u v x).length≤2000:=by
     have:=fq d
     unfold dy mb
     simp only[aaT,aw,bw]
     cases decide (k=1)<;>cases decide (k=2)<;>cases decide (k=3)<;>simp only[abb,abc,aaT,aw,gC]<;>omega
    unfold nb;omega
   have h25:=fun H=>UE (n+1) H P hs
   have hw:bj ((P.size:Int)+2)=(P.size:Int)+2:=ax (by omega) (by omega)
   cases hp:decide (127<P.size+2)with
   |false=>
    have hp2:decide ((127:Int)<(P.size:Int)+2)=false:=by simp only[aa0]at hp ⊢;omega
    simp only[AX,ah,go_sem,simprocAttr,h17,h26,h27,h28,hd,hw,hp2,h25,Nat.reduceMod,Nat.reduceDiv]
   |true=>
    have hp2:decide ((127:Int)<(P.size:Int)+2)=true:=by simp only[aaX]at hp ⊢;omega
    simp only[AX,ah,go_sem,simprocAttr,h17,h26,h27,h28,hd,hw,hp2,h25,Nat.reduceMod,Nat.reduceDiv]
end fh
end
namespace fh
theorem vI{x h:Int}:dQ x h=true↔0≤x∧x≤h:=by simp[dQ]
theorem xY{x h:Int}:dQ x h=false↔¬(0≤x∧x≤h):=by rw[←vI,ac5]
theorem FX{s d q o c m e t u v:Int}{x:ByteArray}:lJ 1 s d q o c m e t u v x=decide (((0≤d∧d≤31)∧d≠s)∧(0≤c∧c≤255)∧(0≤m∧m≤65535)∧e=0∧t=0∧u=0∧v=0∧(0≤s∧s≤31)∧(0≤q∧q≤255)∧(0≤o∧o≤255)):=by
 rw[abG]
 simp only[lJ,ua,dQ,A7,ace,abb,abc,aa1,abS,aaX,abx,aa0]
 constructor<;>intro h<;>omega
theorem FZ{s d q o c m e t u v:Int}{x:ByteArray}:lJ 2 s d q o c m e t u v x=(decide (x=⟨#[]⟩)&&decide (((0≤d∧d≤31)∧d≠s)∧(-32768≤e∧e≤32767)∧c=0∧m=0∧t=0∧u=0∧v=0∧(0≤s∧s≤31)∧(0≤q∧q≤255)∧(0≤o∧o≤255))):=by
 have k1:decide ((2:Int)=1)=false:=rfl
 rw[abG]
 simp only[lJ,ua,dQ,A7,k1,ace,abb,abc,aa1,abS,aaX,abx,aa0]
 constructor
 ·intro h
  exact⟨h.1.2.2.2.2.2.2,by omega⟩
 ·intro⟨h1,h⟩
  refine⟨⟨by omega,by omega,by omega,by omega,by omega,by omega,h1⟩,by omega⟩
theorem FD{s d q o c m e t u v:Int}{x:ByteArray}:lJ 3 s d q o c m e t u v x=decide (d= -1∧(0≤t∧t≤109951162)∧(0≤u∧u≤65535)∧(0≤v∧v≤65535)∧c=0∧m=0∧e=0∧(0≤s∧s≤31)∧(0≤q∧q≤255)∧(0≤o∧o≤255)):=by
 have k1:decide ((3:Int)=1)=false:=rfl
 have k2:decide ((3:Int)=2)=false:=rfl
 rw[abG]
 simp only[lJ,ua,dQ,A7,k1,k2,ace,abb,abc,aa1,abS,aaX,abx,aa0]
 constructor<;>intro h<;>omega
theorem KN{s d q o c m e t u v:Int}{x:ByteArray}:lJ 4 s d q o c m e t u v x=decide ((d= -1∨((0≤d∧d≤31)∧d≠s))∧c=0∧m=0∧e=0∧t=0∧u=0∧v=0∧(0≤s∧s≤31)∧(0≤q∧q≤255)∧(0≤o∧o≤255)):=by
 have k1:decide ((4:Int)=1)=false:=rfl
 have k2:decide ((4:Int)=2)=false:=rfl
 have k3:decide ((4:Int)=3)=false:=rfl
 rw[abG]
 simp only[lJ,ua,dQ,A7,k1,k2,k3,ace,abb,abc,aa1,abS,aaX,abx,aa0]
 constructor<;>intro h<;>omega
theorem Nj(n:Nat)(H:ae)(s d q o c m e t u v:Int)(x:ByteArray):aa T (n+2) (.fn 89) [.agg (fr 1 s d q o c m e t u v x)] H=some (aew (bif lJ 1 s d q o c m e t u v x then 0 else 1),H):=by
 refine ab Nb (by rfl) ?_
 rw[FX]
 simp only[IB,ah,go_sem,Int.reduceToNat,Nat.reduceAdd,Nat.reduceBEq,Nat.reduceLeDiff,Nat.reduceLT,Nat.reduceMul,Nat.reduceSub,Int.reduceEq,Int.reduceLT,Int.reduceLE,Int.reduceNeg,sZ]
 repeat' (with_reducible refine aA (fun _=>?_) (fun _=>?_)<;>simp only[*,go_sem,Int.reduceToNat,Nat.reduceAdd,Nat.reduceBEq,Nat.reduceLeDiff,Nat.reduceLT,Nat.reduceMul,Nat.reduceSub,Int.reduceEq,Int.reduceLT,Int.reduceLE,Int.reduceNeg,sZ])
 all_goals (simp only[vI,xY,aaX,aa0]at *;refine congrArg some (congrArg (SV.int .i64) ?_);first|(rw[aaZ (by omega)];rfl)|(rw[aaV (by omega)];rfl))
theorem Me(n:Nat)(H:ae)(s d q o c m e t u v:Int)(x:ByteArray):aa T (n+2) (.fn 89) [.agg (fr 2 s d q o c m e t u v x)] H=some (aew (bif lJ 2 s d q o c m e t u v x then 0 else 1),H):=by
 refine ab Nb (by rfl) ?_
 rw[FZ]
 cases hx:decide (x=⟨#[]⟩)<;>simp only[IB,ah,go_sem,Int.reduceToNat,Nat.reduceAdd,Nat.reduceBEq,Nat.reduceLeDiff,Nat.reduceLT,Nat.reduceMul,Nat.reduceSub,Int.reduceEq,Int.reduceLT,Int.reduceLE,Int.reduceNeg,sZ,hx]
 all_goals repeat' (with_reducible refine aA (fun _=>?_) (fun _=>?_)<;>simp only[*,go_sem,Int.reduceToNat,Nat.reduceAdd,Nat.reduceBEq,Nat.reduceLeDiff,Nat.reduceLT,Nat.reduceMul,Nat.reduceSub,Int.reduceEq,Int.reduceLT,Int.reduceLE,Int.reduceNeg,sZ])
 all_goals (simp only[vI,xY,aaX,aa0]at *;refine congrArg some (congrArg (SV.int .i64) ?_);first|(rw[aaZ (by omega)];rfl)|(rw[aaV (by omega)];rfl))
theorem JZ(n:Nat)(H:ae)(s d q o c m e t u v:Int)(x:ByteArray):aa T (n+2) (.fn 89) [.agg (fr 3 s d q o c m e t u v x)] H=some (aew (bif lJ 3 s d q o c m e t u v x then 0 else 1),H):=by
 refine ab Nb (by rfl) ?_
 rw[FD]
 simp only[IB,ah,go_sem,Int.reduceToNat,Nat.reduceAdd,Nat.reduceBEq,Nat.reduceLeDiff,Nat.reduceLT,Nat.reduceMul,Nat.reduceSub,Int.reduceEq,Int.reduceLT,Int.reduceLE,Int.reduceNeg,sZ]
 repeat' (with_reducible refine aA (fun _=>?_) (fun _=>?_)<;>simp only[*,go_sem,Int.reduceToNat,Nat.reduceAdd,Nat.reduceBEq,Nat.reduceLeDiff,Nat.reduceLT,Nat.reduceMul,Nat.reduceSub,Int.reduceEq,Int.reduceLT,Int.reduceLE,Int.reduceNeg,sZ])
 all_goals (simp only[vI,xY,aaX,aa0]at *;refine congrArg some (congrArg (SV.int .i64) ?_);first|(rw[aaZ (by omega)];rfl)|(rw[aaV (by omega)];rfl))
theorem LX(n:Nat)(H:ae)(s d q o c m e t u v:Int)(x:ByteArray):aa T (n+2) (.fn 89) [.agg (fr 4 s d q o c m e t u v x)] H=some (aew (bif lJ 4 s d q o c m e t u v x then 0 else 1),H):=by
 refine ab Nb (by rfl) ?_
 rw[KN]
 simp only[IB,ah,go_sem,Int.reduceToNat,Nat.reduceAdd,Nat.reduceBEq,Nat.reduceLeDiff,Nat.reduceLT,Nat.reduceMul,Nat.reduceSub,Int.reduceEq,Int.reduceLT,Int.reduceLE,Int.reduceNeg,sZ]
 repeat' (with_reducible refine aA (fun _=>?_) (fun _=>?_)<;>simp only[*,go_sem,Int.reduceToNat,Nat.reduceAdd,Nat.reduceBEq,Nat.reduceLeDiff,Nat.reduceLT,Nat.reduceMul,Nat.reduceSub,Int.reduceEq,Int.reduceLT,Int.reduceLE,Int.reduceNeg,sZ])
 all_goals (simp only[vI,xY,aaX,aa0]at *;refine congrArg some (congrArg (SV.int .i64) ?_);first|(rw[aaZ (by omega)];rfl)|(rw[aaV (by omega)];rfl))
theorem GW(n:Nat)(H:ae)(k s d q o c m e t u v:Int)(x:ByteArray):aa T (n+2) (.fn 89) [.agg (fr k s d q o c m e t u v x)] H=some (aew (bif lJ k s d q o c m e t u v x then 0 else 1),H):=by
 by_cases h1:k=1
 ·subst h1;exact Nj n H s d q o c m e t u v x
 ·by_cases h2:k=2
  ·subst h2;exact Me n H s d q o c m e t u v x
  ·by_cases h3:k=3
   ·subst h3;exact JZ n H s d q o c m e t u v x
   ·by_cases h4:k=4
    ·subst h4;exact LX n H s d q o c m e t u v x
    ·have hc:lJ k s d q o c m e t u v x=false:=by
      unfold lJ;rw[aaZ h1,aaZ h2,aaZ h3,aaZ h4];rfl
     have d1:=aaZ h1
     have d2:=aaZ h2
     have d3:=aaZ h3
     have d4:=aaZ h4
     refine ab Nb (by rfl) ?_
     rw[hc]
     simp only[IB,ah,go_sem,Int.reduceToNat,Nat.reduceAdd,Nat.reduceBEq,Nat.reduceLeDiff,Nat.reduceLT,Nat.reduceMul,Nat.reduceSub,Int.reduceEq,Int.reduceLT,Int.reduceLE,Int.reduceNeg,sZ,d1,d2,d3,d4]
end fh
section
namespace fh
def v7(bs:List Bool):List (List SV):=bs.map fun b=>[.int .u8 (bt b:Nat)]
@[go_sem] theorem sW {bs:List Bool}:(v7 bs).length=bs.length:=by simp[v7]
@[go_sem] theorem OY (bs:List Bool)(i:Nat):(v7 bs)[i]?=(bs[i]?).map (fun b=>[.int .u8 (bt b:Nat)]):=by simp[v7]
theorem tI(bs:List Bool)(b:Bool):v7 bs++[[.int .u8 (bt b:Nat)]]=v7 (bs++[b]):=by simp[v7]
abbrev rB(bs:List Bool):aK:=.box [.bp 2 bs.length 0 bs.length,aex]
abbrev rA(bs:List Bool):aK:=.arr bs.length 1 (v7 bs) false
abbrev rH(b0:aK)(bs:List Bool)(tl:List aK)(es:List (Nat×Nat)):ae:=⟨b0::rB bs::rA bs::tl,es,0⟩
abbrev rk(w:Nat):List (Nat×Nat):=List.replicate w (1,3)
def DO(a b:Int):Int:=IntKind.wrap .i64 ((BitVec.ofInt 64 a&&&BitVec.ofInt 64 b).toNat)
@[go_sem high] theorem Kn (a b:Int):cS .and (aew a) (aew b)=some (aew (DO a b)):=by
  simp only[cS,acg,abb];rfl
theorem uM(a:Int):DO a 1=a%2:=by
 unfold DO
 have h3:(BitVec.ofInt 64 1).toNat=1:=by decide
 rw[aeq,h3,Nat.and_one_is_mod,adR]
 have hw:IntKind.wrap .i64 (((a%(2 ^ 64:Nat)).toNat%2:Nat):Int)=(((a%(2 ^ 64:Nat)).toNat%2:Nat):Int):=ax (by omega) (by omega)
 rw[hw]
 omega
def vX(w:Nat)(v':Int)(v:Nat):Prop:=∀i,i<w→IntKind.u8.wrap (DO (v'.fdiv (2 ^ min i 64)) 1)=(bt (v.testBit i):Nat)
theorem l8(w v:Nat)(hw:w≤63):vX w (v:Int) v:=by
 intro i hi
 rw[ab2 (by omega),fY,uM,wu]
 rw[lL (by omega) (by omega)]
 rfl
theorem zp(x:Int):vX 16 x (vF x):=by
 intro i hi
 have hp:(0:Int)≤2 ^ i:=Int.pow_nonneg (by decide)
 rw[ab2 (by omega),uM,wu,ade _ hp]
 rw[lL (by omega) (by omega)]
 unfold vF
 have:i=0∨i=1∨i=2∨i=3∨i=4∨i=5∨i=6∨i=7∨i=8∨i=9∨i=10∨i=11∨i=12∨i=13∨i=14∨i=15:=by omega
 rcases this with rfl|rfl|rfl|rfl|rfl|rfl|rfl|rfl|rfl|rfl|rfl|rfl|rfl|rfl|rfl|rfl<;>omega
section
variable(b0:aK)(tl:List aK)(es:List (Nat×Nat))(bs:List Bool)
theorem D5(n:Nat)(w:Nat)(hb:bs.length+w≤524288):aa T (n+1) (.fn 143) [.ptr 1 0 0 0,aew w] (rH b0 bs tl es)=some (.bool true,rH b0 bs tl es):=by
 refine bm UQ (by rfl) ?_
 have hs:bj ((bs.length:Int)+w)=bs.length+w:=ax (by omega) (by omega)
 have hx2:decide ((524288:Int)<(bs.length:Int)+w)=false:=aaZ (by omega)
 have l3:decide (3≤tl.length+1+1+1)=true:=aaV (by omega)
 simp only[Nu,go_sem,Int.reduceToNat,Nat.reduceAdd,Nat.reduceBEq,Nat.reduceLeDiff,Nat.reduceLT,Nat.reduceMul,Nat.reduceSub,Int.reduceEq,Int.reduceLT,Int.reduceLE,Int.reduceNeg,hs,hx2,l3]
theorem EH(n:Nat)(w v:Nat)(v':Int)(hw:w≤63)(hv:vX w v' v)(hb:bs.length+w≤600000):aa T (n+1) (.fn 144) [.ptr 1 0 0 0,aew w,aew v'] (rH b0 bs tl es)=some (.bk [],rH b0 (bs++bits w v) tl (es++rk w)):=by
 refine bm Rz (by rfl) ?_
 have hw1:bj ((w:Int)-1)=(w:Int)-1:=ax (by omega) (by omega)
 have hN:decide (max 2 0≤tl.length+1+1+1)=true:=aaV (by omega)
 have l0:decide (0<tl.length+1+1+1)=true:=aaV (by omega)
 have l1:decide (1<tl.length+1+1+1)=true:=aaV (by omega)
 have l2:decide (2<tl.length+1+1+1)=true:=aaV (by omega)
 have l3':decide (tl.length+1+1+1<3)=false:=aaZ (by omega)
 have l3:decide (3≤tl.length+1+1+1)=true:=aaV (by omega)
 simp only[Lx,go_sem,Int.reduceToNat,Nat.reduceAdd,Nat.reduceBEq,Nat.reduceLeDiff,Nat.reduceLT,Nat.reduceMul,Nat.reduceSub,Int.reduceEq,Int.reduceLT,Int.reduceLE,Int.reduceNeg]
 refine aY (fun j=>([(0,.ptr 1 0 0 0),(2,aew v'),(6,aew ((w:Int)-1-(j:Int)))],⟨b0::rB (bs++(bits w v).take j)::rA (bs++(bits w v).take j)::tl,rk j,0⟩)) (fun _=>True) w ?_ trivial ?_
 ·simp only[go_sem,Int.reduceToNat,Nat.reduceAdd,Nat.reduceBEq,Nat.reduceLeDiff,Nat.reduceLT,Nat.reduceMul,Nat.reduceSub,Int.reduceEq,Int.reduceLT,Int.reduceLE,Int.reduceNeg,hw1,adn,abQ,Int.sub_zero,hN,Int.natCast_zero,Int.ofNat_zero]
  try rfl
 ·intro j hj _
  rcases aa4 j w with hlt|hge
  ·have hx:decide ((0:Int)≤(w:Int)-1-j)=true:=aaV (by omega)
   have hs:bj ((w:Int)-1-j-1)=(w:Int)-1-(j+1:Nat):=by rw[ax (by omega) (by omega)];omega
   have hB:(bs++(bits w v).take j).length=bs.length+j:=by rw[aaT,abF,aw];omega
   have hB':bs++(bits w v).take (j+1)=(bs++(bits w v).take j)++[v.testBit (w-1-j)]:=by rw[sx hlt,aaU]
   have hi:((w:Int)-1-j).toNat=w-1-j:=by omega
   have hE:=hv (w-1-j) (by omega)
   obtain⟨b,hb'⟩:∃b,v.testBit (w-1-j)=b:=⟨_,rfl⟩
   obtain⟨B,hBd⟩:∃B,bs++(bits w v).take j=B:=⟨_,rfl⟩
   rw[hb',hBd]at hB'
   rw[hBd]at hB
   rw[hb']at hE
   have hl1:(B++[b]).length=B.length+1:=by simp
   have gb:=fun H=>eo 1 H 2 B.length B.length [[.int .u8 (bt b:Nat)]] (v7 B) sW
   have hr:decide ((B.length+1)*1≤bX)=true:=aaV (abv (show(B.length+1)*1≤1000000 by omega) (by decide))
   have ha:=tI B b
   simp only[go_sem,Int.reduceToNat,Nat.reduceAdd,Nat.reduceBEq,Nat.reduceLeDiff,Nat.reduceLT,Nat.reduceMul,Nat.reduceSub,Int.reduceEq,Int.reduceLT,Int.reduceLE,Int.reduceNeg,hx,hi,hE,hBd,gb,hr,l0,l1,l2,l3,l3',hN,hs,hB',hl1,ha,acP,aa7,abe,ite_self,if_true]
   refine⟨by first|trivial|omega,by simp only[rB,rA,hl1],trivial⟩
  ·obtain rfl:j=w:=by omega
   have hx:decide ((0:Int)≤(j:Int)-1-j)=false:=aaZ (by omega)
   have ht:(bits j v).take j=bits j v:=abu (by rw[aw];exact aa8 _)
   simp only[go_sem,Int.reduceToNat,Nat.reduceAdd,Nat.reduceBEq,Nat.reduceLeDiff,Nat.reduceLT,Nat.reduceMul,Nat.reduceSub,Int.reduceEq,Int.reduceLT,Int.reduceLE,Int.reduceNeg,hx,ht,hN,l0,l1,l2,l3,l3',aa7,abe,ite_self,if_true]
theorem nF(n:Nat)(w v:Nat)(h1:1≤w)(hw:w≤62)(hv:v<2 ^ w)(hb:bs.length+w≤524288):aa T (n+2) (.fn 91) [.ptr 1 0 0 0,aew w,aew v] (rH b0 bs tl es)=some (.bk [],rH b0 (bs++bits w v) tl (es++rk w)):=by
 refine bm ZS (by rfl) ?_
 have h63:=fun es=>D5 b0 tl es bs n w hb
 have h64:=fun es=>EH b0 tl es bs n w v v (by omega) (l8 w v (by omega)) (by omega)
 have h62:2 ^ w≤2 ^ 62:=adl (by decide) hw
 have x1:decide ((w:Int)<1)=false:=aaZ (by omega)
 have x2:decide ((63:Int)<(w:Int))=false:=aaZ (by omega)
 have x3:decide ((v:Int)<0)=false:=aaZ (by omega)
 have x4:decide ((w:Int)<63)=true:=aaV (by omega)
 have x5:bj (1*2 ^ min w 64)=((2 ^ w:Nat):Int):=by
  rw[ab2 (by omega),show((1:Int)*2 ^ w)=((2 ^ w:Nat):Int) by rw[Int.one_mul,adQ];rfl]
  exact ax (by omega) (by omega)
 have x6:decide ((((2 ^ w:Nat)):Int)≤(v:Int))=false:=aaZ (by omega)
 have x7:decide ((0:Int)≤(w:Int))=true:=aaV (by omega)
 have l0:decide (0<tl.length+1+1+1)=true:=aaV (by omega)
 have l1:decide (1<tl.length+1+1+1)=true:=aaV (by omega)
 have l2:decide (2<tl.length+1+1+1)=true:=aaV (by omega)
 have l3':decide (tl.length+1+1+1<3)=false:=aaZ (by omega)
 have l3:decide (3≤tl.length+1+1+1)=true:=aaV (by omega)
 simp only[Xp,go_sem,Int.reduceToNat,Nat.reduceAdd,Nat.reduceBEq,Nat.reduceLeDiff,Nat.reduceLT,Nat.reduceMul,Nat.reduceSub,Int.reduceEq,Int.reduceLT,Int.reduceLE,Int.reduceNeg,h63,h64,x1,x2,x3,x4,x5,x6,abD,l0,l1,l2,l3,l3',aa7,abe,abl,aby,abn,ite_self,if_true,aaU]
theorem Kg(n:Nat)(f:Bool)(hb:bs.length+1≤524288):aa T (n+2) (.fn 92) [.ptr 1 0 0 0,.bool f] (rH b0 bs tl es)=some (.bk [],rH b0 (bs++bits 1 (bt f)) tl (es++rk 1)):=by
 refine bm Yu (by rfl) ?_
 have h63:∀es,aa T (n+1) (.fn 143) [.ptr 1 0 0 0,aew 1] (rH b0 bs tl es)=some (.bool true,rH b0 bs tl es):=fun es=>D5 b0 tl es bs n 1 hb
 have hl1:∀b:Bool,(bs++[b]).length=bs.length+1:=fun b=>by simp
 have hr:decide ((bs.length+1)*1≤bX)=true:=aaV (abv (show(bs.length+1)*1≤1000000 by omega) (by decide))
 have hb1:bits 1 1=[true]:=by rfl
 have hb0:bits 1 0=[false]:=by rfl
 have l0:decide (0<tl.length+1+1+1)=true:=aaV (by omega)
 have l1:decide (1<tl.length+1+1+1)=true:=aaV (by omega)
 have l2:decide (2<tl.length+1+1+1)=true:=aaV (by omega)
 have l3':decide (tl.length+1+1+1<3)=false:=aaZ (by omega)
 have l3:decide (3≤tl.length+1+1+1)=true:=aaV (by omega)
 cases f with
 |true=>
  have gb:=fun H=>eo 1 H 2 bs.length bs.length [[.int .u8 1]] (v7 bs) sW
  have ha:v7 bs++[[SV.int .u8 1]]=v7 (bs++[true]):=tI bs true
  simp only[U8,go_sem,Int.reduceToNat,Nat.reduceAdd,Nat.reduceBEq,Nat.reduceLeDiff,Nat.reduceLT,Nat.reduceMul,Nat.reduceSub,Int.reduceEq,Int.reduceLT,Int.reduceLE,Int.reduceNeg,h63,gb,hr,ha,bt,hb1,hl1,acP,ac0,rH,rB,rA,l0,l1,l2,l3,l3',aa7,abe,abl,aby,abn,ite_self,if_true,aaU]
 |false=>
  have gb:=fun H=>eo 1 H 2 bs.length bs.length [[.int .u8 0]] (v7 bs) sW
  have ha:v7 bs++[[SV.int .u8 0]]=v7 (bs++[false]):=tI bs false
  simp only[U8,go_sem,Int.reduceToNat,Nat.reduceAdd,Nat.reduceBEq,Nat.reduceLeDiff,Nat.reduceLT,Nat.reduceMul,Nat.reduceSub,Int.reduceEq,Int.reduceLT,Int.reduceLE,Int.reduceNeg,h63,gb,hr,ha,bt,hb0,hl1,acP,ac0,rH,rB,rA,l0,l1,l2,l3,l3',aa7,abe,abl,aby,abn,ite_self,if_true,aaU]
theorem Y9(n:Nat)(x:Int)(h0: -32768≤x)(h1:x≤32767)(hb:bs.length+16≤524288):aa T (n+2) (.fn 93) [.ptr 1 0 0 0,aew 16,aew x] (rH b0 bs tl es)=some (.bk [],rH b0 (bs++bits 16 (vF x)) tl (es++rk 16)):=by
 refine bm e93 (by rfl) ?_
 have h63:∀es,aa T (n+1) (.fn 143) [.ptr 1 0 0 0,aew 16] (rH b0 bs tl es)=some (.bool true,rH b0 bs tl es):=fun es=>D5 b0 tl es bs n 16 hb
 have h64:∀es,aa T (n+1) (.fn 144) [.ptr 1 0 0 0,aew 16,aew x] (rH b0 bs tl es)=some (.bk [],rH b0 (bs++bits 16 (vF x)) tl (es++rk 16)):=fun es=>EH b0 tl es bs n 16 (vF x) x (by omega) (zp x) (by omega)
 have m2:bj (16-1)=15:=by decide
 have m3:bj (1*2 ^ min 15 64)=32768:=by decide
 have m4:bj (-32768)= -32768:=by decide
 have m5:bj (32768-1)=32767:=by decide
 have m6:bj (0-32768)= -32768:=by decide
 have x1:decide (x< -32768)=false:=aaZ (by omega)
 have x2:decide (32767<x)=false:=aaZ (by omega)
 have l0:decide (0<tl.length+1+1+1)=true:=aaV (by omega)
 have l1:decide (1<tl.length+1+1+1)=true:=aaV (by omega)
 have l2:decide (2<tl.length+1+1+1)=true:=aaV (by omega)
 have l3':decide (tl.length+1+1+1<3)=false:=aaZ (by omega)
 have l3:decide (3≤tl.length+1+1+1)=true:=aaV (by omega)
 simp only[XB,go_sem,Int.reduceToNat,Nat.reduceAdd,Nat.reduceBEq,Nat.reduceLeDiff,Nat.reduceLT,Nat.reduceMul,Nat.reduceSub,Int.reduceEq,Int.reduceLT,Int.reduceLE,Int.reduceNeg,h63,h64,m2,m3,m4,m5,m6,x1,x2,l0,l1,l2,l3,l3',aa7,abe,abl,aby,abn,ite_self,if_true,aaU]
end
theorem S5(n:Nat)(H:ae):aa T (n+1) (.fn 145) [aew 127] H=some (aew 7,H):=eB VU (by rfl) (fk (T:=T) 100 (n+1) (.fn 145) [aew 127] ah (aew 7,ah) (by kernel_rfl))
end fh
end
section
namespace fh
section
variable(b0:aK)(tl:List aK)(es:List (Nat×Nat))(bs:List Bool)
theorem BW(a b:Nat):rk a++rk b=rk (a+b):=List.replicate_append_replicate
theorem Pk(n:Nat)(x:ByteArray)(hx:x.size≤127)(hb:bs.length≤1000) :
 aa T (n+2) (.fn 94) [.ptr 1 0 0 0,aew 127,.str x] (rH b0 bs tl es)=some (.bk [],rH b0 (bs++bits 7 x.size++ic x x.size) tl (es++rk (7+8*x.size))):=by
 refine bm ZA (by rfl) ?_
 have h65:=fun H=>S5 n H
 have h63:∀es,aa T (n+1) (.fn 143) [.ptr 1 0 0 0,aew (7+8*(x.size:Int))] (rH b0 bs tl es)=some (.bool true,rH b0 bs tl es):=fun es=>by
  have:=D5 b0 tl es bs n (7+8*x.size) (by omega)
  rw[show(((7+8*x.size:Nat)):Int)=7+8*(x.size:Int) by omega]at this
  exact this
 have x1:decide ((127:Int)<(x.size:Int))=false:=aaZ (by omega)
 have w2:bj (8*(x.size:Int))=8*(x.size:Int):=ax (by omega) (by omega)
 have w3:bj (7+8*(x.size:Int))=7+8*(x.size:Int):=ax (by omega) (by omega)
 have h64:∀es,aa T (n+1) (.fn 144) [.ptr 1 0 0 0,aew 7,aew x.size] (rH b0 bs tl es)=some (.bk [],rH b0 (bs++bits 7 x.size) tl (es++rk 7)):=fun es=>EH b0 tl es bs n 7 x.size x.size (by omega) (l8 7 _ (by omega)) (by omega)
 have l0:decide (0<tl.length+1+1+1)=true:=aaV (by omega)
 have l1:decide (1<tl.length+1+1+1)=true:=aaV (by omega)
 have l2:decide (2<tl.length+1+1+1)=true:=aaV (by omega)
 have l3':decide (tl.length+1+1+1<3)=false:=aaZ (by omega)
 have l3:decide (3≤tl.length+1+1+1)=true:=aaV (by omega)
 have hN:decide (max 2 0≤tl.length+1+1+1)=true:=aaV (by omega)
 simp only[Yb,go_sem,simprocAttr,h65,h63,x1,w2,w3,h64,l0,l1,l2,l3,l3',aa7,abe,ite_self,if_true]
 have hP:(bs++bits 7 x.size).length=bs.length+7:=by rw[aaT,aw]
 obtain⟨P,hPd⟩:∃P,bs++bits 7 x.size=P:=⟨_,rfl⟩
 rw[hPd]at hP⊢
 rw[←BW,←aaU]
 have hx2:x.size≤maxLen:=abv hx (by decide)
 refine aY (fun i=>([(0,.ptr 1 0 0 0),(2,.str x),(6,aew i)],⟨b0::rB (P++ic x i)::rA (P++ic x i)::tl,rk (8*i),0⟩)) (fun _=>True) x.size ?_ trivial ?_
 ·simp only[go_sem,simprocAttr,hN,l0,l1,l2,l3,l3',ic,abQ,Nat.mul_zero,ac0]
  try rfl
 ·intro i hi _
  rcases aa4 i x.size with hlt|hge
  ·have hs:=br hlt hx2
   have hd:x.data[i]?=some x.data[i]:=abU (by exact hlt)
   have hv:=aei x.data[i]
   have hu8:bj ((x.data[i].toNat:Nat):Int)=(x.data[i].toNat:Nat):=ax (by omega) (by omega)
   have h1:∀es,aa T (n+1) (.fn 144) [.ptr 1 0 0 0,aew 8,aew (x.data[i].toNat:Nat)] (rH b0 (P++ic x i) tl es)=some (.bk [],rH b0 (P++ic x i++bits 8 x.data[i].toNat) tl (es++rk 8)):=
    fun es=>EH b0 tl es (P++ic x i) n 8 x.data[i].toNat x.data[i].toNat (by omega) (l8 8 _ (by omega)) (by rw[aaT,gC];omega)
   have hB:P++ic x i++bits 8 x.data[i].toNat=P++ic x (i+1):=by simp only[ic,hd,acj,aaU]
   have hE:rk (8*i)++rk 8=rk (8*(i+1)):=by rw[BW];rfl
   rw[hB]at h1
   have h1:=h1 (rk (8*i))
   rw[hE]at h1
   simp only[go_sem,simprocAttr,hlt,hd,hu8,h1,hs,hN,l0,l1,l2,l3,l3',aa7,abe,ite_self,if_true]
   refine⟨by first|trivial|omega,by first|trivial|rfl,trivial⟩
  ·obtain rfl:i=x.size:=by omega
   have hd:decide (x.size<x.size)=false:=aaZ (by omega)
   simp only[go_sem,simprocAttr,hd,hN,l0,l1,l2,l3,l3',aa7,abe,abl,aby,ite_self,if_true,abn,aaU]
end
def HJ(a b:Int):Int:=IntKind.u8.wrap ((BitVec.ofInt 8 a|||BitVec.ofInt 8 b).toNat)
@[go_sem high] theorem VZ (a b:Int):cS .or (.int .u8 a) (.int .u8 b)=some (.int .u8 (HJ a b)):=by
  simp only[cS,acg,abb];rfl
theorem Ic(B:List Bool)(b:Bool):HJ (di B (B.length/8):Nat) (IntKind.u8.wrap ((bt b:Nat)*2 ^ min (7-B.length%8) 8))=(di (B++[b]) (B.length/8):Nat):=by
 have hb:=vR b
 have h1:=wy b (B.length%8) (aeu _ (by decide))
 have h2:2 ^ (8-B.length%8)≤2 ^ 8:=adl (by decide) (by omega)
 have h3:bt b*2 ^ (7-B.length%8)<256:=by omega
 have h4:=mO B (B.length/8)
 have h5:=mO (B++[b]) (B.length/8)
 have h6:((bt b:Nat):Int)*2 ^ (7-B.length%8)=((bt b*2 ^ (7-B.length%8):Nat):Int):=by rw[aet,adQ];rfl
 unfold HJ
 rw[ab2 (by omega),h6,lL (n:=((bt b*2 ^ (7-B.length%8):Nat):Int)) (by omega) (by omega),BitVec.toNat_or,gK _ h4,gK _ h3,uY]
 exact lL (by omega) (by omega)
def C4(bs:List Bool)(i:Nat):List (List SV):=(List.range (nb bs.length)).map fun j=>[.int .u8 (di (bs.take i) j:Nat)]
theorem Cd(bs:List Bool):C4 bs 0=List.replicate (nb bs.length) [.int .u8 0]:=by
 apply acU
 intro j
 simp only[C4,adn,acs,ac6]
 by_cases h:j<nb bs.length
 ·rw[acZ h,if_pos h];rfl
 ·rw[aca (by simp;omega),if_neg h];rfl
theorem zU(bs:List Bool):C4 bs bs.length=q9 bs:=by simp[C4,q9]
theorem El{bs:List Bool}{i:Nat}(h:i<bs.length):(C4 bs i)[i/8]?=some [.int .u8 (di (bs.take i) (i/8):Nat)]:=by
 simp only[C4,acs]
 rw[acZ (by unfold nb;omega)];rfl
theorem DC{bs:List Bool}{i:Nat}{b:Bool}(h:bs[i]?=some b):(C4 bs i).set (i/8) [.int .u8 (di (bs.take i++[b]) (i/8):Nat)]=C4 bs (i+1):=by
 have hlt:i<bs.length:=(aaS.1 h).1
 have hl:(bs.take i).length=i:=by rw[abF];omega
 have ht:bs.take (i+1)=bs.take i++[b]:=by rw[acu,h];rfl
 apply acU
 intro j
 rw[ady]
 simp only[C4,acs,aes,adz]
 by_cases hj:i/8=j
 ·subst hj
  rw[if_pos rfl,if_pos (by unfold nb;omega),acZ (by unfold nb;omega),ht];rfl
 ·rw[if_neg hj]
  by_cases h2:j<nb bs.length
  ·rw[acZ h2,ht]
   simp only[abL]
   rw[qh (by rw[hl];exact fun h=>hj h.symm)]
  ·rw[aca (by simp;omega)];rfl
end fh
end
namespace fh
theorem Y3(H:ae)(m:Nat)(h:m≤100000):iG 1 [.int .u8 0] 1 H (aew m) (aew m)=some (.bp H.bl.length 0 0 m,bM H (.arr 0 1 (List.replicate m [.int .u8 0]) true)):=by
 have h1:decide ((0:Int)≤(m:Int))=true:=aaV (by omega)
 have h2:decide ((m:Int)≤(m:Int))=true:=aaV (by omega)
 have h3:decide ((m:Int)*((1:Nat):Int)≤(bX:Int))=true:=aaV (by have:(bX:Int)=1099511627776:=rfl;omega)
 simp only[iG,h1,h2,h3,abn,abb,abD]
theorem KS(n:Nat)(b0:aK)(es:List (Nat×Nat))(bs:List Bool)(hb:bs.length≤600000):aa T (n+1) (.fn 95) [.ptr 1 0 0 0] (rH b0 bs [] es)=some (.bk [.str (nE bs),aex],rH b0 bs [] es):=by
 refine bm Za (by rfl) ?_
 have w1:bj ((bs.length:Int)+7)=((bs.length+7:Nat):Int):=by rw[ax (by omega) (by omega)];omega
 have w2:bj (((bs.length+7)/8:Nat):Int)=((nb bs.length:Nat):Int):=by rw[ax (by omega) (by omega)];rfl
 have hL:bs.length≤maxLen:=abv hb (by decide)
 simp only[XG,go_sem,simprocAttr,w1,w2,Y3 _ _ (show nb bs.length≤100000 by unfold nb;omega),abg,abh,←Cd]
 refine aY (fun i=>([(0,.ptr 1 0 0 0),(4,.bp 3 0 0 (nb bs.length)),(5,aew i)],⟨[b0,rB bs,rA bs,.arr 0 1 (C4 bs i) true],[],0⟩)) (fun _=>True) bs.length ?_ trivial ?_
 ·simp only[go_sem,simprocAttr]
  try rfl
 ·intro i hi _
  rcases aa4 i bs.length with hlt|hge
  ·obtain⟨b,hbi⟩:=bF hlt
   have hs:=br hlt hL
   have hw8:bj ((i/8:Nat):Int)=((i/8:Nat):Int):=ax (by omega) (by omega)
   have hw7:bj (7-((i%8:Nat):Int))=((7-i%8:Nat):Int):=by rw[ax (by omega) (by omega)];omega
   have hlt1:decide (i/8<nb bs.length)=true:=aaV (by unfold nb;omega)
   have hg:=El hlt
   have hl:(bs.take i).length=i:=by rw[abF];omega
   have hE:=Ic (bs.take i) b
   rw[hl]at hE
   have cz:=DC hbi
   simp only[go_sem,simprocAttr,hlt,hbi,hw8,hw7,hlt1,hg,hE,cz,hs,abD]
   refine⟨by first|trivial|omega,by first|trivial|rfl,trivial⟩
  ·obtain rfl:i=bs.length:=by omega
   have hd:decide (bs.length<bs.length)=false:=aaZ (by omega)
   have ht:List.take (nb bs.length) (q9 bs)=q9 bs:=abu (by rw[eD];exact aa8 _)
   have hl:decide (nb bs.length≤(q9 bs).length)=true:=aaV (by rw[eD];exact aa8 _)
   have hl2:decide (nb bs.length≤nb bs.length)=true:=aaV (aa8 _)
   simp only[go_sem,simprocAttr,hd,zU,ht,hl,hl2,toB_pkS,nE]
end fh
namespace fh
theorem N6{C:jd}(h:32768≤C.toNat):tm C=(C <<< 1) ^^^ uP:=by
 unfold tm
 rw[show C.msb=true by rw[BitVec.msb_eq_decide];exact aaV h];rfl
theorem KC{C:jd}(h:¬32768≤C.toNat):tm C=C <<< 1:=by
 apply qf
 rw[BitVec.msb_eq_decide];exact aaZ h
theorem RT(n:Nat)(H:ae)(C:jd):aa T (n+1) (.fn 212) [.int .u16 (C.toNat:Nat)] H=some (.int .u16 ((tm C).toNat:Nat),H):=by
 refine ab TY (by rfl) ?_
 have s1:=GX C 1 (by omega)
 have hp:=Hh (C <<< 1) uP
 have hp:Er ((C <<< 1).toNat:Nat) 4129=((C <<< 1 ^^^ uP).toNat:Nat):=hp
 by_cases h:32768≤C.toNat
 ·have hd:decide ((32768:Int)≤(C.toNat:Int))=true:=aaV (by omega)
  rw[N6 h]
  simp only[Hd,ah,go_sem,simprocAttr,hd,s1,hp]
 ·have hd:decide ((32768:Int)≤(C.toNat:Int))=false:=aaZ (by omega)
  rw[KC h]
  simp only[Hd,ah,go_sem,simprocAttr,hd,s1,hp]
def Ot(C:jd):Nat→jd
 |0=>C
 |j+1=>tm (Ot C j)
theorem Qr(n:Nat)(H:ae)(s:ByteArray)(hs:s.size≤1000):aa T (n+2) (.fn 187) [.int .u16 0,.str s] H=some (.int .u16 ((xR 0#16 s s.size).toNat:Nat),H):=by
 refine ab Up (by rfl) ?_
 simp only[Mu,ah,go_sem,simprocAttr]
 have hL:s.size≤maxLen:=abv hs (by decide)
 refine aY (fun i=>([(0,.int .u16 ((xR 0#16 s i).toNat:Nat)),(1,.str s),(5,aew i)],⟨[],[],0⟩)) (fun _=>True) s.size ?_ trivial ?_
 ·simp only[go_sem,simprocAttr]<;>rfl
 ·intro i hi _
  rcases aa4 i s.size with hlt|hge
  ·have hs2:=br hlt hL
   have hd:s.data[i]?=some s.data[i]:=abU (by exact hlt)
   have hu:xR 0#16 s (i+1)=Ee (xR 0#16 s i) s.data[i].toNat:=by simp only[xR,hd,acj]
   have hv:=aei s.data[i]
   obtain⟨C,hC⟩:∃C,xR 0#16 s i=C:=⟨_,rfl⟩
   obtain⟨b,hb⟩:∃b,s.data[i].toNat=b:=⟨_,rfl⟩
   rw[hC,hb]at hu
   rw[hb]at hv
   have e1:IntKind.u16.wrap (b:Int)=((BitVec.ofNat 16 b:jd).toNat:Nat):=by rw[um,←toW (by omega)];omega
   have s1:=GX (BitVec.ofNat 16 b) 8 (by omega)
   simp only[go_sem,simprocAttr,hlt,hd,hC,hb,e1,s1,Hh]
   refine oz (fun j=>([(0,.int .u16 ((Ot (C ^^^ (BitVec.ofNat 16 b <<< 8)) j).toNat:Nat)),(1,.str s),(5,aew i),(6,aew j)],⟨[],[],0⟩)) (fun _=>True) 8 ?_ trivial ?_
   ·simp only[go_sem,simprocAttr]<;>rfl
   ·intro j hj _
    rcases aa4 j 8 with hlj|hgj
    ·have hxj:decide ((j:Int)<8)=true:=aaV (by omega)
     have hsj:bj ((j:Int)+1)=((j+1:Nat):Int):=by rw[ax (by omega) (by omega)];omega
     have h98:=fun H=>RT n H (Ot (C ^^^ (BitVec.ofNat 16 b <<< 8)) j)
     simp only[go_sem,simprocAttr,hxj,hsj,h98]
     refine⟨by first|trivial|omega,by first|trivial|rfl,trivial⟩
    ·obtain rfl:j=8:=by omega
     have ht:Ot (C ^^^ (BitVec.ofNat 16 b <<< 8)) 8=Ee C b:=rfl
     have hxj:decide (((8:Nat):Int)<8)=false:=by decide
     simp only[go_sem,simprocAttr,hxj,ht,hs2,hu]
     refine⟨by first|trivial|omega,by first|trivial|rfl,trivial⟩
  ·obtain rfl:i=s.size:=by omega
   have hd:decide (s.size<s.size)=false:=aaZ (by omega)
   simp only[go_sem,simprocAttr,hd]
theorem Rk(n:Nat)(H:ae)(s:ByteArray)(hs:s.size≤1000):aa T (n+3) (.fn 146) [.str s] H=some (.int .u16 ((v3 s).toNat:Nat),H):=by
 refine ab V8 (by rfl) ?_
 simp only[NI,ah,go_sem,simprocAttr,Qr _ _ _ hs,v3]
theorem Kc(n:Nat)(H:ae)(s:ByteArray)(hs:s.size≤1000):aa T (n+4) (.fn 96) [.str s] H=some (.str (nW s),H):=by
 refine ab Zw (by rfl) ?_
 obtain⟨C,hC⟩:∃C,v3 s=C:=⟨_,rfl⟩
 have h:∀H,aa T (n+3) (.fn 146) [.str s] H=some (.int .u16 (C.toNat:Nat),H):=fun H=>hC▸Rk n H s hs
 have hz:decide (s.size+ #[UInt8.ofNat (C.toNat/256),UInt8.ofNat (C.toNat%256)].size≤4611686018427387904)=true:=aaV (show s.size+2≤4611686018427387904 by omega)
 simp only[Xh,ah,go_sem,simprocAttr,h,FP,FV,nW,hC,Py,toB_cons,toB_nil,abL,hz]
end fh
namespace fh
theorem MT(n:Nat)(es:List (Nat×Nat))(b0:aK):aa T (n+1) (.qX 90) [] ⟨[b0],es,0⟩=some (.ptr 1 0 0 0,⟨[b0,.box [.ay 0 [] true,aex]],es,0⟩):=by
 refine eP Ze ?_
 simp only[Xr,go_sem,simprocAttr]
theorem GC(n:Nat)(H:ae)(s d q o c m e t u v:Int)(x:ByteArray)(hch:lJ 1 s d q o c m e t u v x=true)(hx:x.size≤127)(hd:0≤d):aa T (n+5) (.fn 51) [.agg (fr 1 s d q o c m e t u v x)] H=some (uB 1 s d q o c m e t u v x,H):=by
 refine ab G9 (by rfl) ?_
 have h18:=fun H=>GW (n+2) H 1 s d q o c m e t u v x
 rw[hch]at h18
 obtain⟨hs,hd1,hd0,hq,ho,hk⟩:=oQ hch
 obtain⟨hcc,hmm⟩:(0≤c∧c≤255)∧(0≤m∧m≤65535):=by rcases hk with h|h|h|h<;>first|exact h.2|(exfalso;omega)
 have h29:=fun es b0=>MT (n+3) es b0
 obtain⟨B0,hB0⟩:∃B,B=[]++bits 3 1:=⟨_,rfl⟩
 have lB0:B0.length=3:=by rw[hB0,aaT,aw]<;>rfl
 have h0:∀es,aa T (n+4) (.fn 91) [.ptr 1 0 0 0,aew 3,aew 1] (⟨[.box (fr 1 s d q o c m e t u v x),.box [.bp 2 0 0 0,aex],.arr 0 1 [] false],es,0⟩)=some (.bk [],rH (.box (fr 1 s d q o c m e t u v x)) B0 [] (es++rk 3)):=fun es=>by
  have:=nF (.box (fr 1 s d q o c m e t u v x)) [] es [] (n+2) 3 1 (by omega) (by omega) (by omega) (by rw[abh];omega)
  rw[hB0];exact this
 obtain⟨B1,hB1⟩:∃B,B=B0++bits 5 s.toNat:=⟨_,rfl⟩
 have lB1:B1.length=8:=by rw[hB1,aaT,aw,lB0]
 have h1:∀es,aa T (n+4) (.fn 91) [.ptr 1 0 0 0,aew 5,aew s] (rH (.box (fr 1 s d q o c m e t u v x)) B0 [] es)=some (.bk [],rH (.box (fr 1 s d q o c m e t u v x)) B1 [] (es++rk 5)):=fun es=>by
  have:=nF (.box (fr 1 s d q o c m e t u v x)) [] es B0 (n+2) 5 s.toNat (by omega) (by omega) (by omega) (by rw[lB0];omega)
  rw[aba hs.1]at this
  rw[hB1];exact this
 obtain⟨B2,hB2⟩:∃B,B=B1++bits 1 (bt true):=⟨_,rfl⟩
 have lB2:B2.length=9:=by rw[hB2,aaT,aw,lB1]
 have h2:∀es,aa T (n+4) (.fn 92) [.ptr 1 0 0 0,.bool true] (rH (.box (fr 1 s d q o c m e t u v x)) B1 [] es)=some (.bk [],rH (.box (fr 1 s d q o c m e t u v x)) B2 [] (es++rk 1)):=fun es=>by
  have:=Kg (.box (fr 1 s d q o c m e t u v x)) [] es B1 (n+2) true (by rw[lB1];omega)
  rw[hB2];exact this
 obtain⟨B3,hB3⟩:∃B,B=B2++bits 5 d.toNat:=⟨_,rfl⟩
 have lB3:B3.length=14:=by rw[hB3,aaT,aw,lB2]
 have h3:∀es,aa T (n+4) (.fn 91) [.ptr 1 0 0 0,aew 5,aew d] (rH (.box (fr 1 s d q o c m e t u v x)) B2 [] es)=some (.bk [],rH (.box (fr 1 s d q o c m e t u v x)) B3 [] (es++rk 5)):=fun es=>by
  have:=nF (.box (fr 1 s d q o c m e t u v x)) [] es B2 (n+2) 5 d.toNat (by omega) (by omega) (by omega) (by rw[lB2];omega)
  rw[aba hd]at this
  rw[hB3];exact this
 obtain⟨B4,hB4⟩:∃B,B=B3++bits 8 q.toNat:=⟨_,rfl⟩
 have lB4:B4.length=22:=by rw[hB4,aaT,aw,lB3]
 have h4:∀es,aa T (n+4) (.fn 91) [.ptr 1 0 0 0,aew 8,aew q] (rH (.box (fr 1 s d q o c m e t u v x)) B3 [] es)=some (.bk [],rH (.box (fr 1 s d q o c m e t u v x)) B4 [] (es++rk 8)):=fun es=>by
  have:=nF (.box (fr 1 s d q o c m e t u v x)) [] es B3 (n+2) 8 q.toNat (by omega) (by omega) (by omega) (by rw[lB3];omega)
  rw[aba hq.1]at this
  rw[hB4];exact this
 obtain⟨B5,hB5⟩:∃B,B=B4++bits 8 o.toNat:=⟨_,rfl⟩
 have lB5:B5.length=30:=by rw[hB5,aaT,aw,lB4]
 have h5:∀es,aa T (n+4) (.fn 91) [.ptr 1 0 0 0,aew 8,aew o] (rH (.box (fr 1 s d q o c m e t u v x)) B4 [] es)=some (.bk [],rH (.box (fr 1 s d q o c m e t u v x)) B5 [] (es++rk 8)):=fun es=>by
  have:=nF (.box (fr 1 s d q o c m e t u v x)) [] es B4 (n+2) 8 o.toNat (by omega) (by omega) (by omega) (by rw[lB4];omega)
  rw[aba ho.1]at this
  rw[hB5];exact this
 obtain⟨B6,hB6⟩:∃B,B=B5++bits 8 c.toNat:=⟨_,rfl⟩
 have lB6:B6.length=38:=by rw[hB6,aaT,aw,lB5]
 have h6:∀es,aa T (n+4) (.fn 91) [.ptr 1 0 0 0,aew 8,aew c] (rH (.box (fr 1 s d q o c m e t u v x)) B5 [] es)=some (.bk [],rH (.box (fr 1 s d q o c m e t u v x)) B6 [] (es++rk 8)):=fun es=>by
  have:=nF (.box (fr 1 s d q o c m e t u v x)) [] es B5 (n+2) 8 c.toNat (by omega) (by omega) (by omega) (by rw[lB5];omega)
  rw[aba hcc.1]at this
  rw[hB6];exact this
 obtain⟨B7,hB7⟩:∃B,B=B6++bits 16 m.toNat:=⟨_,rfl⟩
 have lB7:B7.length=54:=by rw[hB7,aaT,aw,lB6]
 have h7:∀es,aa T (n+4) (.fn 91) [.ptr 1 0 0 0,aew 16,aew m] (rH (.box (fr 1 s d q o c m e t u v x)) B6 [] es)=some (.bk [],rH (.box (fr 1 s d q o c m e t u v x)) B7 [] (es++rk 16)):=fun es=>by
  have:=nF (.box (fr 1 s d q o c m e t u v x)) [] es B6 (n+2) 16 m.toNat (by omega) (by omega) (by omega) (by rw[lB6];omega)
  rw[aba hmm.1]at this
  rw[hB7];exact this
 obtain⟨B8,hB8⟩:∃B,B=B7++bits 7 x.size++ic x x.size:=⟨_,rfl⟩
 have lB8:B8.length=61+8*x.size:=by rw[hB8,aaT,aaT,aw,lB7,gC]
 have h8:∀es,aa T (n+4) (.fn 94) [.ptr 1 0 0 0,aew 127,.str x] (rH (.box (fr 1 s d q o c m e t u v x)) B7 [] es)=some (.bk [],rH (.box (fr 1 s d q o c m e t u v x)) B8 [] (es++rk (7+8*x.size))):=fun es=>by
  rw[hB8];exact Pk (.box (fr 1 s d q o c m e t u v x)) [] es B7 (n+2) x hx (by rw[lB7];omega)
 have hE:dy 1 s d q o c m e t u v x=B8:=by
  have kd1:decide ((1:Int)=1)=true:=rfl
  have kd2:decide ((1:Int)=2)=false:=rfl
  have kd3:decide ((1:Int)=3)=false:=rfl
  have hd2:decide (0≤d)=true:=aaV (by omega)
  rw[hB8,hB7,hB6,hB5,hB4,hB3,hB2,hB1,hB0]
  have h3:((1:Int)).toNat=1:=rfl
  simp only[dy,mb,av,kd1,kd2,kd3,hd2,h3,ace,ac2,abb,abc,aaU,abM,abQ]
 have h34:=fun es=>KS (n+3) (.box (fr 1 s d q o c m e t u v x)) es B8 (by rw[lB8];omega)
 have hps:(nE B8).size≤1000:=by rw[iK,lB8];unfold nb;omega
 obtain⟨P,hP⟩:∃P,nE B8=P:=⟨_,rfl⟩
 have h35:=fun H=>Kc n H (nE B8) hps
 have hsz:(nW P).size=P.size+2:=iZ _
 unfold uB
 rw[hE,hch,aaZ (show ¬127<x.size by omega)]
 rw[hP]at h34 h35⊢
 have xx:decide ((127:Int)<(x.size:Int))=false:=aaZ (by omega)
 have xd:decide ((0:Int)≤d)=true:=aaV (by omega)
 cases hp:decide (127<P.size+2)with
 |false=>
  have hp2:decide ((127:Int)<((P.size+2:Nat):Int))=false:=by simp only[aa0]at hp ⊢;omega
  simp only[zG,ah,go_sem,simprocAttr,h18,h29,h0,h1,h2,h3,h4,h5,h6,h7,h8,h34,h35,xx,xd,hsz,hp,hp2,Nat.reduceMod,Nat.reduceDiv,abg,abh,aa7,abe,abl,aby,abn,ite_self,if_true]
 |true=>
  have hp2:decide ((127:Int)<((P.size+2:Nat):Int))=true:=by simp only[aaX]at hp ⊢;omega
  simp only[zG,ah,go_sem,simprocAttr,h18,h29,h0,h1,h2,h3,h4,h5,h6,h7,h8,h34,h35,xx,xd,hsz,hp,hp2,Nat.reduceMod,Nat.reduceDiv,abg,abh,aa7,abe,abl,aby,abn,ite_self,if_true]
theorem Hq(n:Nat)(H:ae)(s d q o c m e t u v:Int)(x:ByteArray)(hch:lJ 2 s d q o c m e t u v x=true)(hx:x.size≤127)(hd:0≤d):aa T (n+5) (.fn 51) [.agg (fr 2 s d q o c m e t u v x)] H=some (uB 2 s d q o c m e t u v x,H):=by
 refine ab G9 (by rfl) ?_
 have h18:=fun H=>GW (n+2) H 2 s d q o c m e t u v x
 rw[hch]at h18
 obtain⟨hs,hd1,hd0,hq,ho,hk⟩:=oQ hch
 obtain⟨hee,hx0⟩:(-32768≤e∧e≤32767)∧x=⟨#[]⟩:=by rcases hk with h|h|h|h<;>first|exact h.2|(exfalso;omega)
 have h29:=fun es b0=>MT (n+3) es b0
 obtain⟨B0,hB0⟩:∃B,B=[]++bits 3 2:=⟨_,rfl⟩
 have lB0:B0.length=3:=by rw[hB0,aaT,aw]<;>rfl
 have h0:∀es,aa T (n+4) (.fn 91) [.ptr 1 0 0 0,aew 3,aew 2] (⟨[.box (fr 2 s d q o c m e t u v x),.box [.bp 2 0 0 0,aex],.arr 0 1 [] false],es,0⟩)=some (.bk [],rH (.box (fr 2 s d q o c m e t u v x)) B0 [] (es++rk 3)):=fun es=>by
  have:=nF (.box (fr 2 s d q o c m e t u v x)) [] es [] (n+2) 3 2 (by omega) (by omega) (by omega) (by rw[abh];omega)
  rw[hB0];exact this
 obtain⟨B1,hB1⟩:∃B,B=B0++bits 5 s.toNat:=⟨_,rfl⟩
 have lB1:B1.length=8:=by rw[hB1,aaT,aw,lB0]
 have h1:∀es,aa T (n+4) (.fn 91) [.ptr 1 0 0 0,aew 5,aew s] (rH (.box (fr 2 s d q o c m e t u v x)) B0 [] es)=some (.bk [],rH (.box (fr 2 s d q o c m e t u v x)) B1 [] (es++rk 5)):=fun es=>by
  have:=nF (.box (fr 2 s d q o c m e t u v x)) [] es B0 (n+2) 5 s.toNat (by omega) (by omega) (by omega) (by rw[lB0];omega)
  rw[aba hs.1]at this
  rw[hB1];exact this
 obtain⟨B2,hB2⟩:∃B,B=B1++bits 1 (bt true):=⟨_,rfl⟩
 have lB2:B2.length=9:=by rw[hB2,aaT,aw,lB1]
 have h2:∀es,aa T (n+4) (.fn 92) [.ptr 1 0 0 0,.bool true] (rH (.box (fr 2 s d q o c m e t u v x)) B1 [] es)=some (.bk [],rH (.box (fr 2 s d q o c m e t u v x)) B2 [] (es++rk 1)):=fun es=>by
  have:=Kg (.box (fr 2 s d q o c m e t u v x)) [] es B1 (n+2) true (by rw[lB1];omega)
  rw[hB2];exact this
 obtain⟨B3,hB3⟩:∃B,B=B2++bits 5 d.toNat:=⟨_,rfl⟩
 have lB3:B3.length=14:=by rw[hB3,aaT,aw,lB2]
 have h3:∀es,aa T (n+4) (.fn 91) [.ptr 1 0 0 0,aew 5,aew d] (rH (.box (fr 2 s d q o c m e t u v x)) B2 [] es)=some (.bk [],rH (.box (fr 2 s d q o c m e t u v x)) B3 [] (es++rk 5)):=fun es=>by
  have:=nF (.box (fr 2 s d q o c m e t u v x)) [] es B2 (n+2) 5 d.toNat (by omega) (by omega) (by omega) (by rw[lB2];omega)
  rw[aba hd]at this
  rw[hB3];exact this
 obtain⟨B4,hB4⟩:∃B,B=B3++bits 8 q.toNat:=⟨_,rfl⟩
 have lB4:B4.length=22:=by rw[hB4,aaT,aw,lB3]
 have h4:∀es,aa T (n+4) (.fn 91) [.ptr 1 0 0 0,aew 8,aew q] (rH (.box (fr 2 s d q o c m e t u v x)) B3 [] es)=some (.bk [],rH (.box (fr 2 s d q o c m e t u v x)) B4 [] (es++rk 8)):=fun es=>by
  have:=nF (.box (fr 2 s d q o c m e t u v x)) [] es B3 (n+2) 8 q.toNat (by omega) (by omega) (by omega) (by rw[lB3];omega)
  rw[aba hq.1]at this
  rw[hB4];exact this
 obtain⟨B5,hB5⟩:∃B,B=B4++bits 8 o.toNat:=⟨_,rfl⟩
 have lB5:B5.length=30:=by rw[hB5,aaT,aw,lB4]
 have h5:∀es,aa T (n+4) (.fn 91) [.ptr 1 0 0 0,aew 8,aew o] (rH (.box (fr 2 s d q o c m e t u v x)) B4 [] es)=some (.bk [],rH (.box (fr 2 s d q o c m e t u v x)) B5 [] (es++rk 8)):=fun es=>by
  have:=nF (.box (fr 2 s d q o c m e t u v x)) [] es B4 (n+2) 8 o.toNat (by omega) (by omega) (by omega) (by rw[lB4];omega)
  rw[aba ho.1]at this
  rw[hB5];exact this
 obtain⟨B6,hB6⟩:∃B,B=B5++bits 16 (vF e):=⟨_,rfl⟩
 have lB6:B6.length=46:=by rw[hB6,aaT,aw,lB5]
 have h6:∀es,aa T (n+4) (.fn 93) [.ptr 1 0 0 0,aew 16,aew e] (rH (.box (fr 2 s d q o c m e t u v x)) B5 [] es)=some (.bk [],rH (.box (fr 2 s d q o c m e t u v x)) B6 [] (es++rk 16)):=fun es=>by
  have:=Y9 (.box (fr 2 s d q o c m e t u v x)) [] es B5 (n+2) e hee.1 hee.2 (by rw[lB5];omega)
  rw[hB6];exact this
 have hE:dy 2 s d q o c m e t u v x=B6:=by
  have kd1:decide ((2:Int)=1)=false:=rfl
  have kd2:decide ((2:Int)=2)=true:=rfl
  have kd3:decide ((2:Int)=3)=false:=rfl
  have hd2:decide (0≤d)=true:=aaV (by omega)
  rw[hB6,hB5,hB4,hB3,hB2,hB1,hB0]
  have h3:((2:Int)).toNat=2:=rfl
  simp only[dy,mb,av,kd1,kd2,kd3,hd2,h3,ace,ac2,abb,abc,aaU,abM,abQ]
 have h34:=fun es=>KS (n+3) (.box (fr 2 s d q o c m e t u v x)) es B6 (by rw[lB6];omega)
 have hps:(nE B6).size≤1000:=by rw[iK,lB6];unfold nb;omega
 obtain⟨P,hP⟩:∃P,nE B6=P:=⟨_,rfl⟩
 have h35:=fun H=>Kc n H (nE B6) hps
 have hsz:(nW P).size=P.size+2:=iZ _
 unfold uB
 rw[hE,hch,aaZ (show ¬127<x.size by omega)]
 rw[hP]at h34 h35⊢
 have xx:decide ((127:Int)<(x.size:Int))=false:=aaZ (by omega)
 have xd:decide ((0:Int)≤d)=true:=aaV (by omega)
 cases hp:decide (127<P.size+2)with
 |false=>
  have hp2:decide ((127:Int)<((P.size+2:Nat):Int))=false:=by simp only[aa0]at hp ⊢;omega
  simp only[zG,ah,go_sem,simprocAttr,h18,h29,h0,h1,h2,h3,h4,h5,h6,h34,h35,xx,xd,hsz,hp,hp2,Nat.reduceMod,Nat.reduceDiv,abg,abh,aa7,abe,abl,aby,abn,ite_self,if_true]
 |true=>
  have hp2:decide ((127:Int)<((P.size+2:Nat):Int))=true:=by simp only[aaX]at hp ⊢;omega
  simp only[zG,ah,go_sem,simprocAttr,h18,h29,h0,h1,h2,h3,h4,h5,h6,h34,h35,xx,xd,hsz,hp,hp2,Nat.reduceMod,Nat.reduceDiv,abg,abh,aa7,abe,abl,aby,abn,ite_self,if_true]
theorem GI(n:Nat)(H:ae)(s d q o c m e t u v:Int)(x:ByteArray)(hch:lJ 3 s d q o c m e t u v x=true)(hx:x.size≤127)(hd:d= -1):aa T (n+5) (.fn 51) [.agg (fr 3 s d q o c m e t u v x)] H=some (uB 3 s d q o c m e t u v x,H):=by
 refine ab G9 (by rfl) ?_
 have h18:=fun H=>GW (n+2) H 3 s d q o c m e t u v x
 rw[hch]at h18
 obtain⟨hs,hd1,hd0,hq,ho,hk⟩:=oQ hch
 obtain⟨htt,huu,hvv⟩:(0≤t∧t≤109951162)∧(0≤u∧u≤65535)∧(0≤v∧v≤65535):=by rcases hk with h|h|h|h<;>first|exact h.2|(exfalso;omega)
 have h29:=fun es b0=>MT (n+3) es b0
 obtain⟨B0,hB0⟩:∃B,B=[]++bits 3 3:=⟨_,rfl⟩
 have lB0:B0.length=3:=by rw[hB0,aaT,aw]<;>rfl
 have h0:∀es,aa T (n+4) (.fn 91) [.ptr 1 0 0 0,aew 3,aew 3] (⟨[.box (fr 3 s d q o c m e t u v x),.box [.bp 2 0 0 0,aex],.arr 0 1 [] false],es,0⟩)=some (.bk [],rH (.box (fr 3 s d q o c m e t u v x)) B0 [] (es++rk 3)):=fun es=>by
  have:=nF (.box (fr 3 s d q o c m e t u v x)) [] es [] (n+2) 3 3 (by omega) (by omega) (by omega) (by rw[abh];omega)
  rw[hB0];exact this
 obtain⟨B1,hB1⟩:∃B,B=B0++bits 5 s.toNat:=⟨_,rfl⟩
 have lB1:B1.length=8:=by rw[hB1,aaT,aw,lB0]
 have h1:∀es,aa T (n+4) (.fn 91) [.ptr 1 0 0 0,aew 5,aew s] (rH (.box (fr 3 s d q o c m e t u v x)) B0 [] es)=some (.bk [],rH (.box (fr 3 s d q o c m e t u v x)) B1 [] (es++rk 5)):=fun es=>by
  have:=nF (.box (fr 3 s d q o c m e t u v x)) [] es B0 (n+2) 5 s.toNat (by omega) (by omega) (by omega) (by rw[lB0];omega)
  rw[aba hs.1]at this
  rw[hB1];exact this
 obtain⟨B2,hB2⟩:∃B,B=B1++bits 1 (bt false):=⟨_,rfl⟩
 have lB2:B2.length=9:=by rw[hB2,aaT,aw,lB1]
 have h2:∀es,aa T (n+4) (.fn 92) [.ptr 1 0 0 0,.bool false] (rH (.box (fr 3 s d q o c m e t u v x)) B1 [] es)=some (.bk [],rH (.box (fr 3 s d q o c m e t u v x)) B2 [] (es++rk 1)):=fun es=>by
  have:=Kg (.box (fr 3 s d q o c m e t u v x)) [] es B1 (n+2) false (by rw[lB1];omega)
  rw[hB2];exact this
 obtain⟨B3,hB3⟩:∃B,B=B2++bits 8 q.toNat:=⟨_,rfl⟩
 have lB3:B3.length=17:=by rw[hB3,aaT,aw,lB2]
 have h3:∀es,aa T (n+4) (.fn 91) [.ptr 1 0 0 0,aew 8,aew q] (rH (.box (fr 3 s d q o c m e t u v x)) B2 [] es)=some (.bk [],rH (.box (fr 3 s d q o c m e t u v x)) B3 [] (es++rk 8)):=fun es=>by
  have:=nF (.box (fr 3 s d q o c m e t u v x)) [] es B2 (n+2) 8 q.toNat (by omega) (by omega) (by omega) (by rw[lB2];omega)
  rw[aba hq.1]at this
  rw[hB3];exact this
 obtain⟨B4,hB4⟩:∃B,B=B3++bits 8 o.toNat:=⟨_,rfl⟩
 have lB4:B4.length=25:=by rw[hB4,aaT,aw,lB3]
 have h4:∀es,aa T (n+4) (.fn 91) [.ptr 1 0 0 0,aew 8,aew o] (rH (.box (fr 3 s d q o c m e t u v x)) B3 [] es)=some (.bk [],rH (.box (fr 3 s d q o c m e t u v x)) B4 [] (es++rk 8)):=fun es=>by
  have:=nF (.box (fr 3 s d q o c m e t u v x)) [] es B3 (n+2) 8 o.toNat (by omega) (by omega) (by omega) (by rw[lB3];omega)
  rw[aba ho.1]at this
  rw[hB4];exact this
 obtain⟨B5,hB5⟩:∃B,B=B4++bits 27 t.toNat:=⟨_,rfl⟩
 have lB5:B5.length=52:=by rw[hB5,aaT,aw,lB4]
 have h5:∀es,aa T (n+4) (.fn 91) [.ptr 1 0 0 0,aew 27,aew t] (rH (.box (fr 3 s d q o c m e t u v x)) B4 [] es)=some (.bk [],rH (.box (fr 3 s d q o c m e t u v x)) B5 [] (es++rk 27)):=fun es=>by
  have:=nF (.box (fr 3 s d q o c m e t u v x)) [] es B4 (n+2) 27 t.toNat (by omega) (by omega) (by omega) (by rw[lB4];omega)
  rw[aba htt.1]at this
  rw[hB5];exact this
 obtain⟨B6,hB6⟩:∃B,B=B5++bits 16 u.toNat:=⟨_,rfl⟩
 have lB6:B6.length=68:=by rw[hB6,aaT,aw,lB5]
 have h6:∀es,aa T (n+4) (.fn 91) [.ptr 1 0 0 0,aew 16,aew u] (rH (.box (fr 3 s d q o c m e t u v x)) B5 [] es)=some (.bk [],rH (.box (fr 3 s d q o c m e t u v x)) B6 [] (es++rk 16)):=fun es=>by
  have:=nF (.box (fr 3 s d q o c m e t u v x)) [] es B5 (n+2) 16 u.toNat (by omega) (by omega) (by omega) (by rw[lB5];omega)
  rw[aba huu.1]at this
  rw[hB6];exact this
 obtain⟨B7,hB7⟩:∃B,B=B6++bits 16 v.toNat:=⟨_,rfl⟩
 have lB7:B7.length=84:=by rw[hB7,aaT,aw,lB6]
 have h7:∀es,aa T (n+4) (.fn 91) [.ptr 1 0 0 0,aew 16,aew v] (rH (.box (fr 3 s d q o c m e t u v x)) B6 [] es)=some (.bk [],rH (.box (fr 3 s d q o c m e t u v x)) B7 [] (es++rk 16)):=fun es=>by
  have:=nF (.box (fr 3 s d q o c m e t u v x)) [] es B6 (n+2) 16 v.toNat (by omega) (by omega) (by omega) (by rw[lB6];omega)
  rw[aba hvv.1]at this
  rw[hB7];exact this
 obtain⟨B8,hB8⟩:∃B,B=B7++bits 7 x.size++ic x x.size:=⟨_,rfl⟩
 have lB8:B8.length=91+8*x.size:=by rw[hB8,aaT,aaT,aw,lB7,gC]
 have h8:∀es,aa T (n+4) (.fn 94) [.ptr 1 0 0 0,aew 127,.str x] (rH (.box (fr 3 s d q o c m e t u v x)) B7 [] es)=some (.bk [],rH (.box (fr 3 s d q o c m e t u v x)) B8 [] (es++rk (7+8*x.size))):=fun es=>by
  rw[hB8];exact Pk (.box (fr 3 s d q o c m e t u v x)) [] es B7 (n+2) x hx (by rw[lB7];omega)
 have hE:dy 3 s d q o c m e t u v x=B8:=by
  have kd1:decide ((3:Int)=1)=false:=rfl
  have kd2:decide ((3:Int)=2)=false:=rfl
  have kd3:decide ((3:Int)=3)=true:=rfl
  have hd2:decide (0≤d)=false:=aaZ (by omega)
  rw[hB8,hB7,hB6,hB5,hB4,hB3,hB2,hB1,hB0]
  have h3:((3:Int)).toNat=3:=rfl
  simp only[dy,mb,av,kd1,kd2,kd3,hd2,h3,ace,ac2,abb,abc,aaU,abM,abQ]
 have h34:=fun es=>KS (n+3) (.box (fr 3 s d q o c m e t u v x)) es B8 (by rw[lB8];omega)
 have hps:(nE B8).size≤1000:=by rw[iK,lB8];unfold nb;omega
 obtain⟨P,hP⟩:∃P,nE B8=P:=⟨_,rfl⟩
 have h35:=fun H=>Kc n H (nE B8) hps
 have hsz:(nW P).size=P.size+2:=iZ _
 unfold uB
 rw[hE,hch,aaZ (show ¬127<x.size by omega)]
 rw[hP]at h34 h35⊢
 have xx:decide ((127:Int)<(x.size:Int))=false:=aaZ (by omega)
 have xd:decide ((0:Int)≤d)=false:=aaZ (by omega)
 cases hp:decide (127<P.size+2)with
 |false=>
  have hp2:decide ((127:Int)<((P.size+2:Nat):Int))=false:=by simp only[aa0]at hp ⊢;omega
  simp only[zG,ah,go_sem,simprocAttr,h18,h29,h0,h1,h2,h3,h4,h5,h6,h7,h8,h34,h35,xx,xd,hsz,hp,hp2,Nat.reduceMod,Nat.reduceDiv,abg,abh,aa7,abe,abl,aby,abn,ite_self,if_true]
 |true=>
  have hp2:decide ((127:Int)<((P.size+2:Nat):Int))=true:=by simp only[aaX]at hp ⊢;omega
  simp only[zG,ah,go_sem,simprocAttr,h18,h29,h0,h1,h2,h3,h4,h5,h6,h7,h8,h34,h35,xx,xd,hsz,hp,hp2,Nat.reduceMod,Nat.reduceDiv,abg,abh,aa7,abe,abl,aby,abn,ite_self,if_true]
theorem GH(n:Nat)(H:ae)(s d q o c m e t u v:Int)(x:ByteArray)(hch:lJ 4 s d q o c m e t u v x=true)(hx:x.size≤127)(hd:0≤d):aa T (n+5) (.fn 51) [.agg (fr 4 s d q o c m e t u v x)] H=some (uB 4 s d q o c m e t u v x,H):=by
 refine ab G9 (by rfl) ?_
 have h18:=fun H=>GW (n+2) H 4 s d q o c m e t u v x
 rw[hch]at h18
 obtain⟨hs,hd1,hd0,hq,ho,hk⟩:=oQ hch
 have h29:=fun es b0=>MT (n+3) es b0
 obtain⟨B0,hB0⟩:∃B,B=[]++bits 3 4:=⟨_,rfl⟩
 have lB0:B0.length=3:=by rw[hB0,aaT,aw]<;>rfl
 have h0:∀es,aa T (n+4) (.fn 91) [.ptr 1 0 0 0,aew 3,aew 4] (⟨[.box (fr 4 s d q o c m e t u v x),.box [.bp 2 0 0 0,aex],.arr 0 1 [] false],es,0⟩)=some (.bk [],rH (.box (fr 4 s d q o c m e t u v x)) B0 [] (es++rk 3)):=fun es=>by
  have:=nF (.box (fr 4 s d q o c m e t u v x)) [] es [] (n+2) 3 4 (by omega) (by omega) (by omega) (by rw[abh];omega)
  rw[hB0];exact this
 obtain⟨B1,hB1⟩:∃B,B=B0++bits 5 s.toNat:=⟨_,rfl⟩
 have lB1:B1.length=8:=by rw[hB1,aaT,aw,lB0]
 have h1:∀es,aa T (n+4) (.fn 91) [.ptr 1 0 0 0,aew 5,aew s] (rH (.box (fr 4 s d q o c m e t u v x)) B0 [] es)=some (.bk [],rH (.box (fr 4 s d q o c m e t u v x)) B1 [] (es++rk 5)):=fun es=>by
  have:=nF (.box (fr 4 s d q o c m e t u v x)) [] es B0 (n+2) 5 s.toNat (by omega) (by omega) (by omega) (by rw[lB0];omega)
  rw[aba hs.1]at this
  rw[hB1];exact this
 obtain⟨B2,hB2⟩:∃B,B=B1++bits 1 (bt true):=⟨_,rfl⟩
 have lB2:B2.length=9:=by rw[hB2,aaT,aw,lB1]
 have h2:∀es,aa T (n+4) (.fn 92) [.ptr 1 0 0 0,.bool true] (rH (.box (fr 4 s d q o c m e t u v x)) B1 [] es)=some (.bk [],rH (.box (fr 4 s d q o c m e t u v x)) B2 [] (es++rk 1)):=fun es=>by
  have:=Kg (.box (fr 4 s d q o c m e t u v x)) [] es B1 (n+2) true (by rw[lB1];omega)
  rw[hB2];exact this
 obtain⟨B3,hB3⟩:∃B,B=B2++bits 5 d.toNat:=⟨_,rfl⟩
 have lB3:B3.length=14:=by rw[hB3,aaT,aw,lB2]
 have h3:∀es,aa T (n+4) (.fn 91) [.ptr 1 0 0 0,aew 5,aew d] (rH (.box (fr 4 s d q o c m e t u v x)) B2 [] es)=some (.bk [],rH (.box (fr 4 s d q o c m e t u v x)) B3 [] (es++rk 5)):=fun es=>by
  have:=nF (.box (fr 4 s d q o c m e t u v x)) [] es B2 (n+2) 5 d.toNat (by omega) (by omega) (by omega) (by rw[lB2];omega)
  rw[aba hd]at this
  rw[hB3];exact this
 obtain⟨B4,hB4⟩:∃B,B=B3++bits 8 q.toNat:=⟨_,rfl⟩
 have lB4:B4.length=22:=by rw[hB4,aaT,aw,lB3]
 have h4:∀es,aa T (n+4) (.fn 91) [.ptr 1 0 0 0,aew 8,aew q] (rH (.box (fr 4 s d q o c m e t u v x)) B3 [] es)=some (.bk [],rH (.box (fr 4 s d q o c m e t u v x)) B4 [] (es++rk 8)):=fun es=>by
  have:=nF (.box (fr 4 s d q o c m e t u v x)) [] es B3 (n+2) 8 q.toNat (by omega) (by omega) (by omega) (by rw[lB3];omega)
  rw[aba hq.1]at this
  rw[hB4];exact this
 obtain⟨B5,hB5⟩:∃B,B=B4++bits 8 o.toNat:=⟨_,rfl⟩
 have lB5:B5.length=30:=by rw[hB5,aaT,aw,lB4]
 have h5:∀es,aa T (n+4) (.fn 91) [.ptr 1 0 0 0,aew 8,aew o] (rH (.box (fr 4 s d q o c m e t u v x)) B4 [] es)=some (.bk [],rH (.box (fr 4 s d q o c m e t u v x)) B5 [] (es++rk 8)):=fun es=>by
  have:=nF (.box (fr 4 s d q o c m e t u v x)) [] es B4 (n+2) 8 o.toNat (by omega) (by omega) (by omega) (by rw[lB4];omega)
  rw[aba ho.1]at this
  rw[hB5];exact this
 obtain⟨B6,hB6⟩:∃B,B=B5++bits 7 x.size++ic x x.size:=⟨_,rfl⟩
 have lB6:B6.length=37+8*x.size:=by rw[hB6,aaT,aaT,aw,lB5,gC]
 have h6:∀es,aa T (n+4) (.fn 94) [.ptr 1 0 0 0,aew 127,.str x] (rH (.box (fr 4 s d q o c m e t u v x)) B5 [] es)=some (.bk [],rH (.box (fr 4 s d q o c m e t u v x)) B6 [] (es++rk (7+8*x.size))):=fun es=>by
  rw[hB6];exact Pk (.box (fr 4 s d q o c m e t u v x)) [] es B5 (n+2) x hx (by rw[lB5];omega)
 have hE:dy 4 s d q o c m e t u v x=B6:=by
  have kd1:decide ((4:Int)=1)=false:=rfl
  have kd2:decide ((4:Int)=2)=false:=rfl
  have kd3:decide ((4:Int)=3)=false:=rfl
  have hd2:decide (0≤d)=true:=aaV (by omega)
  rw[hB6,hB5,hB4,hB3,hB2,hB1,hB0]
  have h3:((4:Int)).toNat=4:=rfl
  simp only[dy,mb,av,kd1,kd2,kd3,hd2,h3,ace,ac2,abb,abc,aaU,abM,abQ]
 have h34:=fun es=>KS (n+3) (.box (fr 4 s d q o c m e t u v x)) es B6 (by rw[lB6];omega)
 have hps:(nE B6).size≤1000:=by rw[iK,lB6];unfold nb;omega
 obtain⟨P,hP⟩:∃P,nE B6=P:=⟨_,rfl⟩
 have h35:=fun H=>Kc n H (nE B6) hps
 have hsz:(nW P).size=P.size+2:=iZ _
 unfold uB
 rw[hE,hch,aaZ (show ¬127<x.size by omega)]
 rw[hP]at h34 h35⊢
 have xx:decide ((127:Int)<(x.size:Int))=false:=aaZ (by omega)
 have xd:decide ((0:Int)≤d)=true:=aaV (by omega)
 cases hp:decide (127<P.size+2)with
 |false=>
  have hp2:decide ((127:Int)<((P.size+2:Nat):Int))=false:=by simp only[aa0]at hp ⊢;omega
  simp only[zG,ah,go_sem,simprocAttr,h18,h29,h0,h1,h2,h3,h4,h5,h6,h34,h35,xx,xd,hsz,hp,hp2,Nat.reduceMod,Nat.reduceDiv,abg,abh,aa7,abe,abl,aby,abn,ite_self,if_true]
 |true=>
  have hp2:decide ((127:Int)<((P.size+2:Nat):Int))=true:=by simp only[aaX]at hp ⊢;omega
  simp only[zG,ah,go_sem,simprocAttr,h18,h29,h0,h1,h2,h3,h4,h5,h6,h34,h35,xx,xd,hsz,hp,hp2,Nat.reduceMod,Nat.reduceDiv,abg,abh,aa7,abe,abl,aby,abn,ite_self,if_true]
theorem Ge(n:Nat)(H:ae)(s d q o c m e t u v:Int)(x:ByteArray)(hch:lJ 4 s d q o c m e t u v x=true)(hx:x.size≤127)(hd:d= -1):aa T (n+5) (.fn 51) [.agg (fr 4 s d q o c m e t u v x)] H=some (uB 4 s d q o c m e t u v x,H):=by
 refine ab G9 (by rfl) ?_
 have h18:=fun H=>GW (n+2) H 4 s d q o c m e t u v x
 rw[hch]at h18
 obtain⟨hs,hd1,hd0,hq,ho,hk⟩:=oQ hch
 have h29:=fun es b0=>MT (n+3) es b0
 obtain⟨B0,hB0⟩:∃B,B=[]++bits 3 4:=⟨_,rfl⟩
 have lB0:B0.length=3:=by rw[hB0,aaT,aw]<;>rfl
 have h0:∀es,aa T (n+4) (.fn 91) [.ptr 1 0 0 0,aew 3,aew 4] (⟨[.box (fr 4 s d q o c m e t u v x),.box [.bp 2 0 0 0,aex],.arr 0 1 [] false],es,0⟩)=some (.bk [],rH (.box (fr 4 s d q o c m e t u v x)) B0 [] (es++rk 3)):=fun es=>by
  have:=nF (.box (fr 4 s d q o c m e t u v x)) [] es [] (n+2) 3 4 (by omega) (by omega) (by omega) (by rw[abh];omega)
  rw[hB0];exact this
 obtain⟨B1,hB1⟩:∃B,B=B0++bits 5 s.toNat:=⟨_,rfl⟩
 have lB1:B1.length=8:=by rw[hB1,aaT,aw,lB0]
 have h1:∀es,aa T (n+4) (.fn 91) [.ptr 1 0 0 0,aew 5,aew s] (rH (.box (fr 4 s d q o c m e t u v x)) B0 [] es)=some (.bk [],rH (.box (fr 4 s d q o c m e t u v x)) B1 [] (es++rk 5)):=fun es=>by
  have:=nF (.box (fr 4 s d q o c m e t u v x)) [] es B0 (n+2) 5 s.toNat (by omega) (by omega) (by omega) (by rw[lB0];omega)
  rw[aba hs.1]at this
  rw[hB1];exact this
 obtain⟨B2,hB2⟩:∃B,B=B1++bits 1 (bt false):=⟨_,rfl⟩
 have lB2:B2.length=9:=by rw[hB2,aaT,aw,lB1]
 have h2:∀es,aa T (n+4) (.fn 92) [.ptr 1 0 0 0,.bool false] (rH (.box (fr 4 s d q o c m e t u v x)) B1 [] es)=some (.bk [],rH (.box (fr 4 s d q o c m e t u v x)) B2 [] (es++rk 1)):=fun es=>by
  have:=Kg (.box (fr 4 s d q o c m e t u v x)) [] es B1 (n+2) false (by rw[lB1];omega)
  rw[hB2];exact this
 obtain⟨B3,hB3⟩:∃B,B=B2++bits 8 q.toNat:=⟨_,rfl⟩
 have lB3:B3.length=17:=by rw[hB3,aaT,aw,lB2]
 have h3:∀es,aa T (n+4) (.fn 91) [.ptr 1 0 0 0,aew 8,aew q] (rH (.box (fr 4 s d q o c m e t u v x)) B2 [] es)=some (.bk [],rH (.box (fr 4 s d q o c m e t u v x)) B3 [] (es++rk 8)):=fun es=>by
  have:=nF (.box (fr 4 s d q o c m e t u v x)) [] es B2 (n+2) 8 q.toNat (by omega) (by omega) (by omega) (by rw[lB2];omega)
  rw[aba hq.1]at this
  rw[hB3];exact this
 obtain⟨B4,hB4⟩:∃B,B=B3++bits 8 o.toNat:=⟨_,rfl⟩
 have lB4:B4.length=25:=by rw[hB4,aaT,aw,lB3]
 have h4:∀es,aa T (n+4) (.fn 91) [.ptr 1 0 0 0,aew 8,aew o] (rH (.box (fr 4 s d q o c m e t u v x)) B3 [] es)=some (.bk [],rH (.box (fr 4 s d q o c m e t u v x)) B4 [] (es++rk 8)):=fun es=>by
  have:=nF (.box (fr 4 s d q o c m e t u v x)) [] es B3 (n+2) 8 o.toNat (by omega) (by omega) (by omega) (by rw[lB3];omega)
  rw[aba ho.1]at this
  rw[hB4];exact this
 obtain⟨B5,hB5⟩:∃B,B=B4++bits 7 x.size++ic x x.size:=⟨_,rfl⟩
 have lB5:B5.length=32+8*x.size:=by rw[hB5,aaT,aaT,aw,lB4,gC]
 have h5:∀es,aa T (n+4) (.fn 94) [.ptr 1 0 0 0,aew 127,.str x] (rH (.box (fr 4 s d q o c m e t u v x)) B4 [] es)=some (.bk [],rH (.box (fr 4 s d q o c m e t u v x)) B5 [] (es++rk (7+8*x.size))):=fun es=>by
  rw[hB5];exact Pk (.box (fr 4 s d q o c m e t u v x)) [] es B4 (n+2) x hx (by rw[lB4];omega)
 have hE:dy 4 s d q o c m e t u v x=B5:=by
  have kd1:decide ((4:Int)=1)=false:=rfl
  have kd2:decide ((4:Int)=2)=false:=rfl
  have kd3:decide ((4:Int)=3)=false:=rfl
  have hd2:decide (0≤d)=false:=aaZ (by omega)
  rw[hB5,hB4,hB3,hB2,hB1,hB0]
  have h3:((4:Int)).toNat=4:=rfl
  simp only[dy,mb,av,kd1,kd2,kd3,hd2,h3,ace,ac2,abb,abc,aaU,abM,abQ]
 have h34:=fun es=>KS (n+3) (.box (fr 4 s d q o c m e t u v x)) es B5 (by rw[lB5];omega)
 have hps:(nE B5).size≤1000:=by rw[iK,lB5];unfold nb;omega
 obtain⟨P,hP⟩:∃P,nE B5=P:=⟨_,rfl⟩
 have h35:=fun H=>Kc n H (nE B5) hps
 have hsz:(nW P).size=P.size+2:=iZ _
 unfold uB
 rw[hE,hch,aaZ (show ¬127<x.size by omega)]
 rw[hP]at h34 h35⊢
 have xx:decide ((127:Int)<(x.size:Int))=false:=aaZ (by omega)
 have xd:decide ((0:Int)≤d)=false:=aaZ (by omega)
 cases hp:decide (127<P.size+2)with
 |false=>
  have hp2:decide ((127:Int)<((P.size+2:Nat):Int))=false:=by simp only[aa0]at hp ⊢;omega
  simp only[zG,ah,go_sem,simprocAttr,h18,h29,h0,h1,h2,h3,h4,h5,h34,h35,xx,xd,hsz,hp,hp2,Nat.reduceMod,Nat.reduceDiv,abg,abh,aa7,abe,abl,aby,abn,ite_self,if_true]
 |true=>
  have hp2:decide ((127:Int)<((P.size+2:Nat):Int))=true:=by simp only[aaX]at hp ⊢;omega
  simp only[zG,ah,go_sem,simprocAttr,h18,h29,h0,h1,h2,h3,h4,h5,h34,h35,xx,xd,hsz,hp,hp2,Nat.reduceMod,Nat.reduceDiv,abg,abh,aa7,abe,abl,aby,abn,ite_self,if_true]
end fh
section
namespace fh
section
variable(k s d q o c m e t u v:Int)(x:ByteArray)
theorem XZ(n:Nat)(H:ae):aa T (n+5) (.fn 51) [.agg (fr k s d q o c m e t u v x)] H=some (uB k s d q o c m e t u v x,H):=by
 cases hch:lJ k s d q o c m e t u v x with
 |false=>
  refine ab G9 (by rfl) ?_
  have h18:=fun H=>GW (n+2) H k s d q o c m e t u v x
  unfold uB
  rw[hch]at h18
  rw[hch]
  simp only[zG,ah,go_sem,simprocAttr,h18]
 |true=>
  rcases aa4 127 x.size with hx|hx
  ·refine ab G9 (by rfl) ?_
   have h18:=fun H=>GW (n+2) H k s d q o c m e t u v x
   unfold uB
   rw[hch]at h18
   rw[hch,aaV hx]
   have hd:decide ((127:Int)<(x.size:Int))=true:=aaV (by omega)
   simp only[zG,ah,go_sem,simprocAttr,h18,hd]
  ·obtain⟨hs,hd1,hd0,hq,ho,hk⟩:=oQ hch
   rcases hk with⟨rfl,_,_⟩|⟨rfl,_,_⟩|⟨rfl,_,_⟩|rfl
   ·have hdd:0≤d:=by rw[FX,aaX]at hch;omega
    exact GC n H s d q o c m e t u v x hch hx hdd
   ·have hdd:0≤d:=by rw[FZ,aa1,aaX,aaX]at hch;have:=hch.2;omega
    exact Hq n H s d q o c m e t u v x hch hx hdd
   ·have hdd:d= -1:=by rw[FD,aaX]at hch;omega
    exact GI n H s d q o c m e t u v x hch hx hdd
   ·by_cases hdd:0≤d
    ·exact GH n H s d q o c m e t u v x hch hx hdd
    ·exact Ge n H s d q o c m e t u v x hch hx (by omega)
end
end fh
end
structure Ac where
 kd:Int
 of:Int
 k:Int
 s:Int
 d:Int
 q:Int
 o:Int
 c:Int
 m:Int
 e:Int
 t:Int
 u:Int
 v:Int
 x:ByteArray
abbrev EI(a:Ac):List SV:=[aew a.kd,aew a.of,aew a.k,aew a.s,aew a.d,aew a.q,aew a.o,aew a.c,aew a.m,aew a.e,aew a.t,aew a.u,aew a.v,.str a.x]
def qK(L:List Ac):List (List SV):=L.map EI
@[go_sem] theorem DX {L:List Ac}:(qK L).length=L.length:=by simp[qK]
@[go_sem] theorem PZ {L:List Ac}{i:Nat}:(qK L)[i]?=(L[i]?).map EI:=by simp[qK]
structure Fi where
 N:List (Int×Int)
 P:List Int
 W:List G.Wl
 f1:Bool
 f2:Bool
 f3:Bool
 ex:Int
 no:Int
 th:Int
 S:List U.Src
 g1:Bool
 F:List U.Fd
 g2:Bool
 K:List (Int×Int)
 h1:Bool
 v:Int
 a:Int
 b:Int
 C:List Int
 h2:Bool
abbrev oM(f:Fi):List SV:=[.ay 2 (G.cW f.N) f.f1,.ay 1 (G.cM f.P) f.f2,.ay 5 (G.ey f.W) f.f3,aew f.ex,aew f.no,aew f.th,
 .ay 7 (U.c0 f.S) f.g1,.ay 6 (U.cZ f.F) f.g2,.ay 2 (G.cW f.K) f.h1,aew f.v,aew f.a,aew f.b,.ay 1 (iS f.C) f.h2]
theorem CI(n:Nat):decide ((n:Int)≤40)=decide (n≤40):=by rw[adf];omega
theorem JK(n:Nat):decide ((n:Int)≤20)=decide (n≤20):=by rw[adf];omega
theorem xC(n:Nat):decide ((n:Int)<40)=decide (n<40):=by rw[adf];omega
theorem AM(n:Nat):decide (200<(n:Int))=decide (200<n):=by rw[adf];omega
theorem pd(n k:Nat):decide ((n:Int)=(k:Int))=decide (n=k):=by rw[adf];omega
def wZ(f:Fi):Bool:=G.DV f.N f.P f.W&&U.tN f.S f.F&&decide (f.K.length≤40)&&decide (f.C.length≤20)
theorem YL(n:Nat)(H:ae)(f:Fi)(hS:f.S.length≤maxLen):aa T (n+3) (.fn 48) [.agg (oM f)] H=some (.bool (wZ f),H):=by
 have h1:=fun H=>G.YH (n+1) H f.N f.P f.W f.f1 f.f2 f.f3 f.ex f.no f.th
 have h2:=fun H=>U.s87 n H f.S f.F f.g1 f.g2 hS
 refine ab YI (by rfl) ?_
 unfold wZ
 cases a1:G.DV f.N f.P f.W<;>cases a2:U.tN f.S f.F<;>cases a3:decide (f.K.length≤40)<;>rw[a1]at h1<;>rw[a2]at h2<;>simp only[XS,ah,go_sem,simprocAttr,h1,h2,CI,JK,a3,G.aL,abo,abk]
def pE(A:List Ac):Bool:=bif (A.take 40).any (fun a=>decide (200<a.x.size))then false else decide (A.length≤40)
theorem yj{A:List Ac}{i:Nat}(hP:∀(j:Nat) a,j<i→A[j]?=some a→decide (200<a.x.size)=false)(h:A.length≤i∨i=40):pE A=decide (A.length≤40):=by
 unfold pE
 have:(A.take 40).any (fun a=>decide (200<a.x.size))=false:=by
  rw[ab3]
  intro a ha
  obtain⟨j,hj⟩:=abw ha
  rw[abp]at hj
  split at hj
  ·rename_i h40
   have hl:=(aaS.1 hj).1
   rw[hP j a (by omega) hj]
   exact aed
  ·cases hj
 rw[this]
 rfl
theorem Yi(n:Nat)(H:ae)(A:List Ac)(f:Bool)(hA:A.length≤maxLen):aa T (n+1) (.fn 49) [.ay 14 (qK A) f] H=some (.bool (pE A),H):=by
 refine ab YO (by rfl) ?_
 simp only[WX,ah,go_sem,simprocAttr]
 refine aY (fun i=>([(0,.ay 14 (qK A) f),(3,aew i)],⟨[],[],0⟩)) (fun i=>∀(j:Nat) a,j<i→A[j]?=some a→decide (200<a.x.size)=false) 40 ?_ (fun j a h=>by omega) ?_
 ·simp only[go_sem,simprocAttr]<;>rfl
 ·intro i hi hP
  rcases aa4 i A.length with hlt|hge
  ·rcases aa4 i 40 with h40|h40
   ·obtain⟨a,ha⟩:∃a,A[i]?=some a:=⟨A[i],aa9 hlt⟩
    have hw:=br hlt hA
    cases hd:decide (200<a.x.size)with
    |true=>
     have hx:pE A=false:=by
      unfold pE
      rw[ab5.2 ⟨a,aa3 (i:=i) (by rw[abp,if_pos h40];exact ha),hd⟩]
      rfl
     simp only[go_sem,simprocAttr,hlt,xC,h40,ha,AM,hd,hx]
    |false=>
     simp only[go_sem,simprocAttr,hlt,xC,h40,ha,AM,hd,hw]
     refine⟨by first|trivial|omega,by first|trivial|rfl,fun j b hj hb=>?_⟩
     rcases aa4 j i with h|h
     ·exact hP j b h hb
     ·obtain rfl:j=i:=by omega
      rw[ha]at hb
      cases hb
      exact hd
   ·have hx:pE A=decide (A.length≤40):=yj hP (.inr (by omega))
    have h41:¬i<40:=by omega
    simp only[go_sem,simprocAttr,hlt,xC,CI,h41,hx]
  ·have hx:pE A=decide (A.length≤40):=yj hP (.inl hge)
   have hlt:¬i<A.length:=by omega
   simp only[go_sem,simprocAttr,hlt,xC,CI,hx]
theorem PE:T 63=some (uL 120):=ZR
theorem Wv:T 120=some (kR true 2):=QQ
theorem s59(n:Nat)(H:ae)(a b:Int):aa T (n+2) (.fn 59) [.agg [aew a,aew b]] H=some (.bool (!pf a b),H):=by
 have h:=fun H=>OS n H a b
 unfold o7 at h
 refine ab Y8 (by rfl) ?_
 cases hc:pf a b<;>rw[hc]at h<;>simp only[Xz,ah,go_sem,simprocAttr,h]
def toK:List SV→Int×Int
 |[.int _ a,.int _ b]=>(a,b)
 |_=>(0,0)
theorem ZB(n:Nat)(H:ae)(K:List (Int×Int))(f:Bool)(hK:K.length≤maxLen):aa T (n+4) (.fn 63) [.ay 2 (G.cW K) f,.fn 59 []] H=some (.bool (K.any fun p=>!pf p.1 p.2),H):=by
 have h:=jS (T:=T) (f:=63) (n:=n+2) (H:=H) (ag:=true) (z:=2) (id:=59) (caps:=[]) (v:=.ay 2 (G.cW K) f) (L:=G.cW K) (p:=fun r=>!pf (toK r).1 (toK r).2) PE Wv (.ay 2 f (.inl rfl)) G.ue (fun h=>by cases h) (by simpa[G.cW]using hK)
  (fun r hr bl ro _=>by
   simp only[G.cW,acd]at hr
   obtain⟨p,_,rfl⟩:=hr
   exact s59 n ⟨bl,[],ro⟩ p.1 p.2) (by simp[SV.refs.aJ])
 rw[G.AO (q:=fun p=>!pf p.1 p.2) (fun a b=>rfl)]at h
 exact h
structure Bd(f:Fi):Prop where
 N:f.N.length≤maxLen
 P:f.P.length≤maxLen
 W:f.W.length≤maxLen
 S:U.tZ f.S
 F:f.F.length≤maxLen
 K:f.K.length≤maxLen
 C:f.C.length≤1000
theorem Bd.C'{f:Fi}(h:Bd f):f.C.length≤maxLen:=abv h.C (by decide)
def okF(f:Fi):Bool:=G.eJ f.N f.P f.W f.ex f.no f.th&&U.ji f.S f.F&&decide (f.K.length=f.N.length)&&!(f.K.any fun p=>!pf p.1 p.2)&&oT.wg f.v f.a f.b f.C
def wY(f:Fi):Int:=bif okF f then 0 else 1
theorem s22(n:Nat)(H:ae)(f:Fi)(hb:Bd f):aa T (n+8) (.fn 22) [.agg (oM f)] H=some (aew (wY f),H):=by
 have h1:=fun H=>G.IY (n+1) H f.N f.P f.W f.f1 f.f2 f.f3 f.ex f.no f.th hb.N hb.P hb.W
 have h2:=fun H=>U.XP n H f.S f.F f.g1 f.g2 hb.S hb.F
 have h3:=fun H=>ZB (n+3) H f.K f.h1 hb.K
 have h4:=fun H=>oT.Xe (n+3) H f.v f.a f.b f.C f.h2 hb.C'
 unfold G.pa at h1
 unfold U.ck at h2
 unfold oT.CP at h4
 unfold wY okF
 refine ab YJ (by rfl) ?_
 generalize (f.K.any fun p=>!pf p.1 p.2)=B at h3⊢
 cases a1:G.eJ f.N f.P f.W f.ex f.no f.th with
 |false=>rw[a1]at h1;simp only[Ik,ah,go_sem,simprocAttr,h1,abk]
 |true=>
  rw[a1]at h1
  cases a2:U.ji f.S f.F with
  |false=>rw[a2]at h2;simp only[Ik,ah,go_sem,simprocAttr,h1,h2,abk,abo]
  |true=>
   rw[a2]at h2
   cases a3:decide (f.K.length=f.N.length)with
   |false=>simp only[Ik,ah,go_sem,simprocAttr,h1,h2,pd,a3,G.aL,abk,abo]
   |true=>
    cases B with
    |true=>simp only[Ik,ah,go_sem,simprocAttr,h1,h2,h3,pd,a3,G.aL,abk,abo]
    |false=>
     cases a4:oT.wg f.v f.a f.b f.C<;>rw[a4]at h4<;>simp only[Ik,ah,go_sem,simprocAttr,h1,h2,h3,h4,pd,a3,G.aL,abk,abo,acb]
theorem YZ(n:Nat)(H:ae)(f:Fi)(hb:Bd f):aa T (n+7) (.fn 35) [.agg (oM f)] H=some (aew (wY f),H):=by
 have h1:=fun H=>G.J7 n H f.N f.P f.W f.f1 f.f2 f.f3 f.ex f.no f.th hb.W hb.N
 have h2:=fun H=>U.Vo (n+3) H f.S f.F f.g1 f.g2 hb.S hb.F
 have h3:=fun H a b=>PA (n+5) H a b
 have h4:=fun H=>oT.XI (n+3) H f.v f.a f.b f.C f.h2 hb.C'
 unfold G.pa at h1
 unfold U.ck at h2
 unfold oT.CP at h4
 unfold wY okF
 refine ab Y6 (by rfl) ?_
 obtain⟨B,hB⟩:∃B,(f.K.any fun p=>!pf p.1 p.2)=B:=⟨_,rfl⟩
 rw[hB]
 cases a1:G.eJ f.N f.P f.W f.ex f.no f.th with
 |false=>rw[a1]at h1;simp only[Jf,ah,go_sem,simprocAttr,h1,abk]
 |true=>
  rw[a1]at h1
  cases a2:U.ji f.S f.F with
  |false=>rw[a2]at h2;simp only[Jf,ah,go_sem,simprocAttr,h1,h2,abk,abo]
  |true=>
   rw[a2]at h2
   cases a3:decide (f.K.length=f.N.length)with
   |false=>simp only[Jf,ah,go_sem,simprocAttr,h1,h2,pd,a3,G.aL,abk,abo]
   |true=>
    cases a4:oT.wg f.v f.a f.b f.C with
    |false=>rw[a4]at h4;simp only[Jf,ah,go_sem,simprocAttr,h1,h2,h4,pd,a3,G.aL,abt]
    |true=>
     rw[a4]at h4
     simp only[Jf,ah,go_sem,simprocAttr,h1,h2,h4,pd,a3,G.aL,abo,acy]
     refine aY (fun i=>([(1,.ptr 0 0 0 0),(3,aew i)],⟨[.box (oM f)],[],0⟩)) (fun i=>∀(j:Nat) p,j<i→f.K[j]?=some p→pf p.1 p.2=true) f.K.length ?_ (fun j p h=>by omega) ?_
     ·simp only[go_sem,simprocAttr]<;>rfl
     ·intro i hi hP
      rcases aa4 i f.K.length with hlt|hge
      ·obtain⟨p,hp⟩:∃p,f.K[i]?=some p:=⟨f.K[i],aa9 hlt⟩
       have hw:=br hlt hb.K
       have hg:(G.cW f.K)[i]?=some [aew p.1,aew p.2]:=by simp[G.cW,hp]
       have h3:=fun H=>h3 H p.1 p.2
       unfold o7 at h3
       cases hc:pf p.1 p.2 with
       |false=>
        have hx:B=true:=by rw[←hB];exact ab5.2 ⟨p,aa3 hp,by rw[hc];rfl⟩
        rw[hc]at h3
        simp only[go_sem,simprocAttr,hlt,G.aL,hp,h3,hx]
       |true=>
        rw[hc]at h3
        simp only[go_sem,simprocAttr,hlt,G.aL,hp,h3,hw]
        refine⟨by first|trivial|omega,by first|trivial|rfl,fun j b hj hb=>?_⟩
        rcases aa4 j i with h|h
        ·exact hP j b h hb
        ·obtain rfl:j=i:=by omega
         rw[hp]at hb
         cases hb
         exact hc
      ·have hx:B=false:=by
        rw[←hB,ab3]
        intro p hp
        obtain⟨j,hj⟩:=abw hp
        have hl:=(aaS.1 hj).1
        rw[hP j p (by omega) hj]
        exact aed
       have hlt:¬i<f.K.length:=by omega
       simp only[go_sem,simprocAttr,hlt,G.aL,hx]
def CT(f:Fi)(s:Int):Bool:=decide (f.a≤s)&&decide (s<f.b)
theorem Yw(n:Nat)(H:ae)(f:Fi)(s:Int):aa T (n+1) (.fn 65) [.agg (oM f),aew s] H=some (.bool (CT f s),H):=by
 unfold CT
 refine ab YX (by rfl) ?_
 cases h:decide (f.a≤s)<;>simp only[WT,ah,go_sem,simprocAttr,h]
theorem Yt(n:Nat)(H:ae)(f:Fi)(s:Int):aa T (n+1) (.fn 73) [.agg (oM f),aew s] H=some (.bool (CT f s),H):=by
 unfold CT
 refine ab Zr (by rfl) ?_
 cases h:decide (f.a≤s)<;>simp only[W4,ah,go_sem,simprocAttr,h]
def Qh(a:Ac):ByteArray:=
 bif !fh.lJ a.k a.s a.d a.q a.o a.c a.m a.e a.t a.u a.v a.x then⟨#[]⟩
 else bif decide (127<a.x.size)||decide (127<(fh.nE (fh.dy a.k a.s a.d a.q a.o a.c a.m a.e a.t a.u a.v a.x)).size+2)then⟨#[]⟩
 else fh.nW (fh.nE (fh.dy a.k a.s a.d a.q a.o a.c a.m a.e a.t a.u a.v a.x))
def C6(a:Ac):Int:=
 bif !fh.lJ a.k a.s a.d a.q a.o a.c a.m a.e a.t a.u a.v a.x then 1
 else bif decide (127<a.x.size)||decide (127<(fh.nE (fh.dy a.k a.s a.d a.q a.o a.c a.m a.e a.t a.u a.v a.x)).size+2)then 8
 else 0
theorem sV(a:Ac):fh.uB a.k a.s a.d a.q a.o a.c a.m a.e a.t a.u a.v a.x=.bk [.str (Qh a),aew (C6 a)]:=by
 unfold fh.uB Qh C6
 cases fh.lJ a.k a.s a.d a.q a.o a.c a.m a.e a.t a.u a.v a.x with
 |false=>rfl
 |true=>
  simp only[abJ,abc]
  cases(decide (127<a.x.size)||decide (127<(fh.nE (fh.dy a.k a.s a.d a.q a.o a.c a.m a.e a.t a.u a.v a.x)).size+2))<;>rfl
def yL(nc:Nat)(i:Int)(a:Ac):Int:=
 bif decide (a.kd=0)then 0 else bif decide (a.kd=1)||decide (a.kd=2)then(bif decide (a.of<0)||decide ((nc:Int)≤a.of)then 2 else bif decide (a.kd=1)&&(!decide (C6 a=0)||(decide (a.k=2)||!decide (a.s=i)))then 1 else 0)else 1
theorem mE(x:Int):(decide (x=0)=true∧decide (x=1)=false∧decide (x=2)=false)∨(decide (x=0)=false∧decide (x=1)=true∧decide (x=2)=false)∨(decide (x=0)=false∧decide (x=1)=false∧decide (x=2)=true)∨
 (decide (x=0)=false∧decide (x=1)=false∧decide (x=2)=false):=by
 simp only[aaX,aa0];omega
theorem Zq(n:Nat)(H:ae)(f:Fi)(i:Int)(a:Ac)(hx:a.x.size≤10000):aa T (n+9) (.fn 77) [.agg (oM f),aew i,.agg (EI a)] H=some (aew (yL f.C.length i a),H):=by
 have h:=fun H=>fh.Jj n H a.k a.s a.d a.q a.o a.c a.m a.e a.t a.u a.v a.x hx
 rw[sV]at h
 unfold yL
 refine ab Yr (by rfl) ?_
 rcases mE a.kd with⟨e0,e1,e2⟩|⟨e0,e1,e2⟩|⟨e0,e1,e2⟩|⟨e0,e1,e2⟩
 ·simp only[Bf,ah,go_sem,simprocAttr,e0,e1,e2]
 ·cases e3:decide (a.of<0)
  ·cases e4:decide ((f.C.length:Int)≤a.of)
   ·cases e5:decide (C6 a=0)
    ·simp only[Bf,ah,go_sem,simprocAttr,e0,e1,e2,e3,e4,e5,h,acA,aci,acv,abW,acF,acb,abJ,acy,abt]
    ·cases e6:decide (a.k=2)
     ·cases e7:decide (a.s=i)<;>simp only[Bf,ah,go_sem,simprocAttr,e0,e1,e2,e3,e4,e5,e6,e7,h,acA,aci,acv,abW,acF,acb,abJ,acy,abt]
     ·simp only[Bf,ah,go_sem,simprocAttr,e0,e1,e2,e3,e4,e5,e6,h,acA,aci,acv,abW,acF,acb,abJ,acy,abt]
   ·simp only[Bf,ah,go_sem,simprocAttr,e0,e1,e2,e3,e4,acA,aci,acv,abW,acF]
  ·simp only[Bf,ah,go_sem,simprocAttr,e0,e1,e2,e3,acA,aci,acv,abW,acF]
 ·cases e3:decide (a.of<0)
  ·cases e4:decide ((f.C.length:Int)≤a.of)
   ·simp only[Bf,ah,go_sem,simprocAttr,e0,e1,e2,e3,e4,h,acA,aci,acv,abW,acF,acb,abJ,acy,abt,abk]
   ·simp only[Bf,ah,go_sem,simprocAttr,e0,e1,e2,e3,e4,acA,aci,acv,abW,acF]
  ·simp only[Bf,ah,go_sem,simprocAttr,e0,e1,e2,e3,acA,aci,acv,abW,acF]
 ·simp only[Bf,ah,go_sem,simprocAttr,e0,e1,e2,acA]
theorem YK(n:Nat)(H:ae)(f:Fi)(i:Int)(a:Ac):aa T (n+6) (.fn 74) [.agg (oM f),aew i,.agg (EI a)] H=some (aew (yL f.C.length i a),H):=by
 have h:=fun H=>fh.XZ a.k a.s a.d a.q a.o a.c a.m a.e a.t a.u a.v a.x n H
 rw[sV]at h
 unfold yL
 refine ab ZF (by rfl) ?_
 rcases mE a.kd with⟨e0,e1,e2⟩|⟨e0,e1,e2⟩|⟨e0,e1,e2⟩|⟨e0,e1,e2⟩
 ·simp only[Ak,ah,go_sem,simprocAttr,e0,e1,e2]
 ·cases e3:decide (a.of<0)
  ·cases e4:decide ((f.C.length:Int)≤a.of)
   ·cases e5:decide (C6 a=0)
    ·simp only[Ak,ah,go_sem,simprocAttr,e0,e1,e2,e3,e4,e5,h,acA,aci,acv,abW,acF,acb,abJ,acy,abt]
    ·cases e6:decide (a.k=2)
     ·cases e7:decide (a.s=i)<;>simp only[Ak,ah,go_sem,simprocAttr,e0,e1,e2,e3,e4,e5,e6,e7,h,acA,aci,acv,abW,acF,acb,abJ,acy,abt]
     ·simp only[Ak,ah,go_sem,simprocAttr,e0,e1,e2,e3,e4,e5,e6,h,acA,aci,acv,abW,acF,acb,abJ,acy,abt]
   ·simp only[Ak,ah,go_sem,simprocAttr,e0,e1,e2,e3,e4,acA,aci,acv,abW,acF]
  ·simp only[Ak,ah,go_sem,simprocAttr,e0,e1,e2,e3,acA,aci,acv,abW,acF]
 ·cases e3:decide (a.of<0)
  ·cases e4:decide ((f.C.length:Int)≤a.of)
   ·simp only[Ak,ah,go_sem,simprocAttr,e0,e1,e2,e3,e4,h,acA,aci,acv,abW,acF,acb,abJ,acy,abt,abk]
   ·simp only[Ak,ah,go_sem,simprocAttr,e0,e1,e2,e3,e4,acA,aci,acv,abW,acF]
  ·simp only[Ak,ah,go_sem,simprocAttr,e0,e1,e2,e3,acA,aci,acv,abW,acF]
 ·simp only[Ak,ah,go_sem,simprocAttr,e0,e1,e2,acA]
end Go.Sh
