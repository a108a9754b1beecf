/- A part of the proof: texts Ktgc, Ktgd, Ktgm, Ktge, Ktgf. -/
import Derived.Test.YtlkjiffohmkidaaGreatB5
import Derived.Test.YtlkjiffohmkidaaGreatB6
import Derived.Test.YtlkjiffohmkidaaGreatB3
namespace Go.Sh
set_option linter.unusedSectionVars false
set_option linter.unnecessarySimpa false
set_option linter.unusedSimpArgs false
set_option linter.unusedVariables false
set_option maxRecDepth 100000
set_option maxHeartbeats 4000000
namespace K
def vI(a:Int):Int:=bif decide (a.tmod 1000000000<0)then cY (cY (a.tdiv 1000000000)-1)else cY (a.tdiv 1000000000)
theorem Ci(n:Nat)(H:ab)(a:Int):aI T (n+1) (.fn 94) [FV a,FV 1000000000] H=some (FV (vI a),H):=by
 refine aJ Cd (by rfl) ?_
 simp only[Bx,aB,go_sem,simprocAttr,vI]
 repeat' (with_reducible refine cw (fun _=>?_) (fun _=>?_)<;>simp only[*,go_sem,simprocAttr,vI])
def gn(o d:Int):Bool:=decide (-1099511627776≤o)&&decide (o≤1099511627776)&&decide (-100000≤d)&&decide (d≤100000)
def nA(o d:Int):Int:=bif gn o d then 0 else 1
theorem sV(o d:Int):nA o d=if -1099511627776≤o∧o≤1099511627776∧ -100000≤d∧d≤100000 then 0 else 1:=by
 unfold nA gn
 by_cases h1: -1099511627776≤o<;>by_cases h2:o≤1099511627776<;>by_cases h3: -100000≤d<;>by_cases h4:d≤100000<;>simp[h1,h2,h3,h4]
theorem vC(n:Nat)(H:ab)(o d:Int):aI T (n+1) (.fn 92) [.agg [FV o,FV d]] H=some (FV (nA o d),H):=by
 refine aJ Ch (by rfl) ?_
 simp only[Be,aB,go_sem,simprocAttr]
 repeat' (with_reducible refine cw (fun _=>?_) (fun _=>?_)<;>simp only[*,go_sem,simprocAttr])
 all_goals (refine congrArg some (congrArg (SV.int .i64) ?_);simp only[Dc,Di]at *;rw[sV];split<;>omega)
def gi(o d t:Int):Int:=cY (cY (o+t)+vI (cY (t*d)))
theorem zC(n b:Nat)(H:ab)(t o d:Int)(hb:H.bl[b]?=some (.box [FV o,FV d])):aI T (n+2) (.fn 93) [FV t,.ptr b 0 0 0] H=some (FV (gi o d t),H):=by
 refine gf Cn rfl rfl (fun R k bl ro r hbl hk=>?_)
 have hb':bl[b]?=some (.box [FV o,FV d]):=by
  rcases hbl with⟨rfl,h0⟩|rfl
  ·simp[SV.refs.aK,SV.refs]at h0
  ·exact hb
 have hB:∀l:List bb,(bl++l)[b]?=some (.box [FV o,FV d]):=fun l=>rT hb'
 simp only[Bc,ar,ao,ax,av,aj,ai,al,ah,aO,aF,aN,aG,aE,aD,au,aH,aq,aw,af,ay,a9,ba,C9,C8,Da,go_sem,simprocAttr,hb',hB,Ci]
 have:=hk []
 rw[Er]at this
 exact this
theorem BZ(n b b1 b2:Nat)(H:ab)(t o d x:Int)(hb:H.bl[b]?=some (.box [FV o,FV d]))(hb1:H.bl[b1]?=some (.box [.fn 93 [.ptr b 0 0 0]]))(hb2:H.bl[b2]?=some (.box [FV x])) :
 aI T (n+3) (.fn 96) [FV t,.ptr b1 0 0 0,.ptr b2 0 0 0] H=some (.bool (decide (x≤gi o d t)),H):=by
 refine gf Cr rfl rfl (fun R k bl ro r hbl hk=>?_)
 obtain rfl:bl=H.bl:=by
  rcases hbl with⟨rfl,h0⟩|rfl
  ·simp[SV.refs.aK,SV.refs]at h0
  ·rfl
 have h6:=fun H' (h:H'.bl=H.bl)=>zC n b H' t o d (by rw[h];exact hb)
 simp only[Bf,ar,ao,ax,av,aj,ai,al,ah,aO,aF,aN,aG,aE,aD,au,aH,aq,aw,af,ay,a9,ba,C9,C8,Da,go_sem,simprocAttr,hb1,hb2,h6]
 have:=hk []
 rw[Er]at this
 exact this
def bs(q:Int→Bool):Nat→Int×Int
 |0=>(0,1099511627776)
 |i+1=>bif decide ((bs q i).1<(bs q i).2)then(bif q (((bs q i).1+(bs q i).2)/2)then((bs q i).1,((bs q i).1+(bs q i).2)/2)else(((bs q i).1+(bs q i).2)/2+1,(bs q i).2))else bs q i
theorem kB(q:Int→Bool):∀i,0≤(bs q i).1∧(bs q i).1≤(bs q i).2∧(bs q i).2≤1099511627776∧((bs q i).2-(bs q i).1)*2 ^ i≤1099511627776
 |0=>by simp[bs]
 |i+1=>by
  obtain⟨h1,h2,h3,h4⟩:=kB q i
  rw[bs]
  generalize hl:(bs q i).1=l at *
  generalize hh:(bs q i).2=h at *
  have hp:(0:Int)≤2 ^ i:=Int.pow_nonneg (by omega)
  have key:∀d:Int,2*d≤h-l→d*2 ^ (i+1)≤1099511627776:=fun d hd=>by
   rw[Int.pow_succ,Int.mul_comm (2 ^ i) 2,←Int.mul_assoc,Int.mul_comm d 2]
   exact Int.le_trans (Int.mul_le_mul_of_nonneg_right hd hp) h4
  cases hlt:decide (l<h)with
  |true=>
   simp only[Dc]at hlt
   cases q ((l+h)/2)with
   |true=>
    simp only[Du]
    exact⟨by omega,by omega,by omega,key _ (by omega)⟩
   |false=>
    simp only[Du,Dw]
    exact⟨by omega,by omega,by omega,key _ (by omega)⟩
  |false=>
   simp only[Di]at hlt
   simp only[Dw]
   rw[hl,hh]
   exact⟨h1,h2,h3,by rw[show h-l=0 by omega];omega⟩
theorem ry(q:Int→Bool):(bs q 41).1=(bs q 41).2:=by
 obtain⟨h1,h2,h3,h4⟩:=kB q 41
 have:((2:Int) ^ 41)=2199023255552:=by decide
 rw[this]at h4
 omega
theorem qU(q:Int→Bool)(i:Nat)(h:decide ((bs q i).1<(bs q i).2)=false):∀k,bs q (i+k)=bs q i
 |0=>rfl
 |k+1=>by
  have e:=qU q i h k
  rw[←Da,bs,e,h]
  rfl
def me(q:Int→Bool):Int:=(bs q 41).1
theorem sR(q:Int→Bool)(i:Nat)(hi:i≤41)(h:decide ((bs q i).1<(bs q i).2)=false):me q=(bs q i).1:=by
 have:=qU q i h (41-i)
 rw[me,show 41=i+(41-i) by omega,this]
theorem sZ{z:Int}(h0:0≤z)(h1:z≤2199023255552):cY ((IntKind.u64.wrap z).fdiv (2 ^ min 1 64))=z/2:=by
 have e:IntKind.u64.wrap z=z%18446744073709551616:=by simp[IntKind.wrap,IntKind.bits,IntKind.signed]
 have e2:(2:Int) ^ min 1 64=2:=by decide
 rw[e,e2,Int.fdiv_eq_ediv_of_nonneg _ (by omega),Int.emod_eq_of_lt h0 (by omega)]
 exact aX (by omega) (by omega)
theorem BH(n b b1 b2:Nat)(H:ab)(o d x:Int)(hb:H.bl[b]?=some (.box [FV o,FV d]))(hb1:H.bl[b1]?=some (.box [.fn 93 [.ptr b 0 0 0]]))(hb2:H.bl[b2]?=some (.box [FV x])) :
 aI T (n+4) (.fn 95) [FV 1099511627776,.fn 96 [.ptr b1 0 0 0,.ptr b2 0 0 0]] H=some (FV (me fun t=>decide (x≤gi o d t)),H):=by
 refine gf Ct rfl rfl (fun R k bl ro r hbl hk=>?_)
 obtain rfl:bl=H.bl:=by
  rcases hbl with⟨rfl,h0⟩|rfl
  ·simp[SV.refs.aK,SV.refs]at h0
  ·rfl
 have h6:=fun t H' (h:H'.bl=H.bl)=>BZ n b b1 b2 H' t o d x (by rw[h];exact hb) (by rw[h];exact hb1) (by rw[h];exact hb2)
 obtain⟨q,hq⟩:∃q:Int→Bool,q=fun t=>decide (x≤gi o d t):=⟨_,rfl⟩
 rw[←hq]at hk
 simp only[Bm,ar,ao,ax,av,aj,ai,al,ah,aO,aF,aN,aG,aE,aD,au,aH,aq,aw,af,ay,a9,ba,C9,C8,Da,go_sem,simprocAttr]
 refine dt (fun i=>([(1,.fn 96 [.ptr b1 0 0 0,.ptr b2 0 0 0]),(5,FV (bs q i).1),(6,FV (bs q i).2)],⟨H.bl,[],min ro H.bl.length⟩)) (fun _=>True) 41 ?_ trivial ?_
 ·have l1:decide (b1+1≤H.bl.length)=true:=Dj (C7.1 hb1).1
  have l2:decide (b2+1≤H.bl.length)=true:=Dj (C7.1 hb2).1
  simp only[ar,ao,ax,av,aj,ai,al,ah,aO,aF,aN,aG,aE,aD,au,aH,aq,aw,af,ay,a9,ba,C9,C8,Da,go_sem,simprocAttr,bs,l1,l2]
 ·intro i hi _
  have l1:decide (b1+1≤H.bl.length)=true:=Dj (C7.1 hb1).1
  have l2:decide (b2+1≤H.bl.length)=true:=Dj (C7.1 hb2).1
  obtain⟨g1,g2,g3,_⟩:=kB q i
  cases hlt:decide ((bs q i).1<(bs q i).2)with
  |false=>
   simp only[ar,ao,ax,av,aj,ai,al,ah,aO,aF,aN,aG,aE,aD,au,aH,aq,aw,af,ay,a9,ba,C9,C8,Da,go_sem,simprocAttr,hlt]
   have:=hk []
   rw[Er,sR q i hi hlt]at this
   exact this
  |true=>
   have hw:cY ((bs q i).1+(bs q i).2)=(bs q i).1+(bs q i).2:=aX (by omega) (by omega)
   have hm:=sZ (z:=(bs q i).1+(bs q i).2) (by omega) (by omega)
   have hw2:cY (((bs q i).1+(bs q i).2)/2+1)=((bs q i).1+(bs q i).2)/2+1:=aX (by omega) (by omega)
   have hi2:i<41:=by
    rcases DG i 41 with h|h
    ·exact h
    ·obtain rfl:i=41:=by omega
     rw[ry,Dc]at hlt
     omega
   have hb:bs q (i+1)=bif q (((bs q i).1+(bs q i).2)/2)then((bs q i).1,((bs q i).1+(bs q i).2)/2)else(((bs q i).1+(bs q i).2)/2+1,(bs q i).2):=by rw[bs,hlt];rfl
   have h6:=h6 (((bs q i).1+(bs q i).2)/2) ⟨H.bl,[],min ro H.bl.length⟩ rfl
   rw[show decide (x≤gi o d (((bs q i).1+(bs q i).2)/2))=q (((bs q i).1+(bs q i).2)/2) by rw[hq]]at h6
   cases hv:q (((bs q i).1+(bs q i).2)/2)with
   |false=>
    rw[hv]at h6 hb
    simp only[ar,ao,ax,av,aj,ai,al,ah,aO,aF,aN,aG,aE,aD,au,aH,aq,aw,af,ay,a9,ba,C9,C8,Da,go_sem,simprocAttr,hlt,hw,hm,h6,hw2,hb,l1,l2]
    exact⟨hi2,trivial,trivial⟩
   |true=>
    rw[hv]at h6 hb
    simp only[ar,ao,ax,av,aj,ai,al,ah,aO,aF,aN,aG,aE,aD,au,aH,aq,aw,af,ay,a9,ba,C9,C8,Da,go_sem,simprocAttr,hlt,hw,hm,h6,hb,l1,l2]
    exact⟨hi2,trivial,trivial⟩
theorem rJ{T:FuncId→Option bp}{f:FuncId}{F:bp}{xs:List SV}{n:Nat}{H:ab}{a c:Int}(hT:T f=some F)(hk:F.keep=false)
 (h:∀(R:Type) (k:SV→ab→Option R) (bl:List bb) (ro:Nat) (r:Option R),(bl=[]∧SV.refs.aK xs=0∨bl=H.bl)→(∀ext,k (.cG [FV a,FV c]) ⟨bl++ext,[],min ro bl.length⟩=r)→
  runK (aI T n) (kM F.res k) F.body [] (cQ xs) ⟨bl,[],min ro bl.length⟩ ()=r) :
 aI T (n+1) (.fn f) xs H=some (.cG [FV a,FV c],H):=by
 have hfz:∀N H',cR N H' bI (.cG [FV a,FV c])=some (.cG [FV a,FV c]):=fun N H'=>by simp[bI,cR,a7]
 cases hp:dW F xs with
 |true=>
  refine aJ hT hp ?_
  have hr:SV.refs.aK xs=0:=by
   unfold dW at hp
   simp only[Db,D0]at hp
   exact hp.1
  exact h SV (fun v H'=>cR 0 H' bI v) [] 0 _ (.inl ⟨rfl,hr⟩) (fun ext=>hfz _ _)
 |false=>
  refine lP hT hp ?_
  refine h _ (fun v H'=>cc F.keep H v H') H.bl H.ro _ (.inr rfl) (fun ext=>?_)
  rw[hk,jh,hfz]
  obtain⟨bl,es,ro⟩:=H
  simp[Sh.cu]
def rV(o d x:Int):Int:=bif decide (gi o d 1099511627776<x)then 0 else me fun t=>decide (x≤gi o d t)
def rE(o d x:Int):Int:=bif decide (gi o d 1099511627776<x)then 15 else 0
theorem y9(n b:Nat)(H:ab)(o d x:Int)(hb:H.bl[b]?=some (.box [FV o,FV d])) :
 aI T (n+5) (.fn 45) [.agg [.fn 93 [.ptr b 0 0 0]],FV x] H=some (.cG [FV (rV o d x),FV (rE o d x)],H):=by
 refine rJ B5 rfl (fun R k bl ro r hbl hk=>?_)
 obtain rfl:bl=H.bl:=by
  rcases hbl with⟨rfl,h0⟩|rfl
  ·simp[SV.refs.aK,SV.refs]at h0
  ·rfl
 have h6:=fun t H' (h:H'.bl[b]?=some (.box [FV o,FV d]))=>zC (n+2) b H' t o d h
 have h7:=fun H' hb hb1 hb2=>BH n b H.bl.length (H.bl.length+1) H' o d x hb hb1 hb2
 have hB:∀l:List bb,(H.bl++l)[b]?=some (.box [FV o,FV d]):=fun l=>rT hb
 unfold rV rE at hk
 cases hc:decide (gi o d 1099511627776<x)with
 |true=>
  rw[hc]at hk
  simp only[AY,ar,ao,ax,av,aj,ai,al,ah,aO,aF,aN,aG,aE,aD,au,aH,aq,aw,af,ay,a9,ba,C9,C8,Da,go_sem,simprocAttr,h6,hB,hc]
  exact hk _
 |false=>
  rw[hc]at hk
  simp only[AY,ar,ao,ax,av,aj,ai,al,ah,aO,aF,aN,aG,aE,aD,au,aH,aq,aw,af,ay,a9,ba,C9,C8,Da,go_sem,simprocAttr,h6,h7,hB,hc]
  exact hk _
theorem zS(n:Nat)(bl es ro)(o d:Int):aI T (n+1) (.qC 44) [.agg [FV o,FV d]] ⟨bl,es,ro⟩=
 some (.agg [.fn 93 [.ptr bl.length 0 0 0]],⟨bl++[.box [FV o,FV d],.box [.fn 93 [.ptr bl.length 0 0 0]]],es,ro⟩):=by
 refine kH BJ ?_
 simp only[Bo,ar,ao,ax,av,aj,ai,al,ah,aO,aF,aN,aG,aE,aD,au,aH,aq,aw,af,ay,a9,ba,C9,C8,Da,go_sem,simprocAttr]
def pK(o d s:Int):Bool:=gn o d&&(decide (0≤s)&&decide (s≤109951162))
def uy(o d s:Int):Int:=bif gn o d then(bif decide (0≤s)&&decide (s≤109951162)then 0 else 2)else 1
theorem Bu(n:Nat)(H:ab)(o d s:Int):aI T (n+2) (.fn 43) [.agg [FV o,FV d],FV s] H=some (FV (uy o d s),H):=by
 have h6:=fun H=>vC n H o d
 unfold uy
 unfold nA at h6
 cases hc:gn o d with
 |false=>
  rw[hc]at h6
  (refine aJ yQ (by rfl) ?_;simp only[wo,aB,go_sem,simprocAttr,h6])
 |true=>
  rw[hc]at h6
  by_cases h1:s<0
  ·have e1:decide (s<0)=true:=Dj h1
   have e2:decide (0≤s)=false:=DR (by omega)
   (refine aJ yQ (by rfl) ?_;simp only[wo,aB,go_sem,simprocAttr,h6,e1,e2])
  ·have e1:decide (s<0)=false:=DR h1
   have e2:decide (0≤s)=true:=Dj (by omega)
   by_cases h3:s≤109951162
   ·have e3:decide (s≤109951162)=true:=Dj h3
    have e4:decide (109951162<s)=false:=DR (by omega)
    (refine aJ yQ (by rfl) ?_;simp only[wo,aB,go_sem,simprocAttr,h6,e1,e2,e3,e4])
   ·have e3:decide (s≤109951162)=false:=DR h3
    have e4:decide (109951162<s)=true:=Dj (by omega)
    (refine aJ yQ (by rfl) ?_;simp only[wo,aB,go_sem,simprocAttr,h6,e1,e2,e3,e4])
def cL(o d s:Int):Int:=bif pK o d s then rV o d (s*10000+2120)else 0
def gO(o d s:Int):Int:=bif pK o d s then rE o d (s*10000+2120)else uy o d s
def vE(o d s:Int):Int:=bif pK o d s then rE o d (s*10000+3221)else uy o d s
def vO(o d s:Int):Int:=bif pK o d s&&decide (s*10000+3221≤gi o d 1099511627776)then rV o d (s*10000+1020)else 0
def xn(o d s:Int):Int:=bif pK o d s&&decide (s*10000+3221≤gi o d 1099511627776)then cY (rV o d (s*10000+3221)-1)else 0
theorem iO{o d s:Int}(h:pK o d s=true):gn o d=true∧0≤s∧s≤109951162∧uy o d s=0:=by
 unfold pK at h
 unfold uy
 cases h1:gn o d
 ·rw[h1,DH]at h;cases h
 ·rw[h1,Ed]at h
  rw[h]
  simp only[Db,Dc]at h
  exact⟨rfl,h.1,h.2,rfl⟩
theorem lK{o d s:Int}(h:pK o d s=false):decide (uy o d s=0)=false:=by
 unfold pK at h
 unfold uy
 cases h1:gn o d
 ·rfl
 ·rw[h1,Ed]at h
  rw[h]
  rfl
theorem xy(n:Nat)(H:ab)(o d s:Int):aI T (n+6) (.fn 12) [.agg [FV o,FV d],FV s] H=some (.cG [FV (cL o d s),FV (gO o d s)],H):=by
 have h122:=fun H=>Bu (n+3) H o d s
 have h123:=fun bl es ro=>zS (n+4) bl es ro o d
 unfold cL gO
 cases hb:pK o d s with
 |false=>
  have h0:=lK hb
  (refine aJ BC (by rfl) ?_;simp only[AL,aB,go_sem,simprocAttr,h122,h0])
 |true=>
  obtain⟨h1,h2,h3,h4⟩:=iO hb
  rw[h4]at h122
  have hw:cY (cY (s*10000)+2120)=s*10000+2120:=by rw[aX (n:=s*10000) (by omega) (by omega)];exact aX (by omega) (by omega)
  have h124:=fun H hb=>y9 n 1 H o d (s*10000+2120) hb
  (refine aJ BC (by rfl) ?_;simp only[AL,aB,go_sem,simprocAttr,h122,h123,h124,hw])
theorem B4(n:Nat)(H:ab)(o d s:Int):aI T (n+6) (.fn 39) [.agg [FV o,FV d],FV s] H=some (.cG [FV (vO o d s),FV (xn o d s),FV (vE o d s)],H):=by
 have h122:=fun H=>Bu (n+3) H o d s
 have h123:=fun bl es ro=>zS (n+4) bl es ro o d
 unfold vO xn vE
 cases hb:pK o d s with
 |false=>
  have h0:=lK hb
  (refine aJ yk (by rfl) ?_;simp only[xB,aB,go_sem,simprocAttr,h122,h0])
 |true=>
  obtain⟨h1,h2,h3,h4⟩:=iO hb
  rw[h4]at h122
  have hw0:cY (cY (s*10000)+2120)=s*10000+2120:=by rw[aX (n:=s*10000) (by omega) (by omega)];exact aX (by omega) (by omega)
  have hw1:cY (s*10000+2120-1100)=s*10000+1020:=by rw[aX (by omega) (by omega)];omega
  have hw2:cY (cY (s*10000+2120+1100)+1)=s*10000+3221:=by rw[aX (n:=s*10000+2120+1100) (by omega) (by omega),aX (by omega) (by omega)];omega
  have h124:=fun H hb=>y9 n 1 H o d (s*10000+1020) hb
  have h125:=fun H hb=>y9 n 3 H o d (s*10000+3221) hb
  cases hc:decide (s*10000+3221≤gi o d 1099511627776)with
  |true=>
   have hE1:rE o d (s*10000+1020)=0:=by unfold rE;rw[DR (by rw[Dc]at hc;omega)];rfl
   have hE2:rE o d (s*10000+3221)=0:=by unfold rE;rw[DR (by rw[Dc]at hc;omega)];rfl
   rw[hE1]at h124
   rw[hE2]at h125
   (refine aJ yk (by rfl) ?_;simp only[xB,aB,go_sem,simprocAttr,h122,h123,h124,h125,hw0,hw1,hw2,hE2])
  |false=>
   have hE2:rE o d (s*10000+3221)=15:=by unfold rE;rw[Dj (by rw[Di]at hc;omega)];rfl
   rw[hE2]at h125
   cases hd:decide (rE o d (s*10000+1020)=0)with
   |true=>
    (refine aJ yk (by rfl) ?_;simp only[xB,aB,go_sem,simprocAttr,h122,h123,h124,h125,hw0,hw1,hw2,hE2,hd])
   |false=>
    (refine aJ yk (by rfl) ?_;simp only[xB,aB,go_sem,simprocAttr,h122,h123,h124,h125,hw0,hw1,hw2,hE2,hd])
def xT(o d t:Int):Int:=bif gn o d then(bif decide (0≤t)&&decide (t≤1099511627776)then 0 else 2)else 1
def zU(o d t:Int):Int:=bif decide (xT o d t=0)then gi o d t else 0
theorem AI(n:Nat)(H:ab)(o d t:Int):aI T (n+3) (.fn 158) [.agg [FV o,FV d],FV t] H=some (.cG [FV (zU o d t),FV (xT o d t)],H):=by
 have h60:=fun H=>vC (n+1) H o d
 have h123:=fun bl es ro=>zS (n+1) bl es ro o d
 have h166:=fun b H hb=>zC n b H t o d hb
 unfold nA at h60
 unfold zU xT
 refine aJ zV (by rfl) ?_
 cases hc:gn o d with
 |false=>rw[hc]at h60;simp only[sH,aB,go_sem,simprocAttr,h60]
 |true=>
  rw[hc]at h60
  cases k1:decide (t<0)with
  |true=>
   have k2:decide (0≤t)=false:=by simp only[Dc,Di]at *;omega
   simp only[sH,aB,go_sem,simprocAttr,h60,k1,k2,DH]
  |false=>
   have k2:decide (0≤t)=true:=by simp only[Dc,Di]at *;omega
   cases k3:decide (1099511627776<t)with
   |true=>
    have k4:decide (t≤1099511627776)=false:=by simp only[Dc,Di]at *;omega
    simp only[sH,aB,go_sem,simprocAttr,h60,k1,k2,k3,k4,Eb]
   |false=>
    have k4:decide (t≤1099511627776)=true:=by simp only[Dc,Di]at *;omega
    simp only[sH,aB,go_sem,simprocAttr,h60,h123,h166,k1,k2,k3,k4,D6]
def eD(s:Int):Bool:=decide (0≤s)&&decide (s≤109951162)
theorem yZ(n:Nat)(H:ab)(s:Int):aI T (n+1) (.fn 98) [FV s] H=some (.bool (eD s),H):=by
 unfold eD
 refine aJ BE (by rfl) ?_
 cases h:decide (0≤s)<;>simp only[Bl,aB,go_sem,simprocAttr,h,Ed,DH]
def mS(o d s t:Int):Int:=bif gn o d then(bif eD s&&(decide (0≤t)&&decide (t≤1099511627776))then 0 else 2)else 1
def nT(o d s t:Int):Int:=bif decide (mS o d s t=0)then cY (gi o d t-(s*10000+2120))else 0
theorem wg(n:Nat)(H:ab)(o d s t:Int):aI T (n+4) (.fn 100) [.agg [FV o,FV d],FV s,FV t] H=some (.cG [FV (nT o d s t),FV (mS o d s t)],H):=by
 have h60:=fun H=>vC (n+2) H o d
 have h137:=fun H=>yZ (n+2) H s
 have h138:=fun H=>AI n H o d t
 unfold nA at h60
 unfold zU xT at h138
 unfold nT mS
 refine aJ zc (by rfl) ?_
 cases hc:gn o d with
 |false=>rw[hc]at h60;simp only[pI,aB,go_sem,simprocAttr,h60]
 |true=>
  rw[hc]at h60 h138
  cases hs:eD s with
  |false=>rw[hs]at h137;simp only[pI,aB,go_sem,simprocAttr,h60,h137,DH]
  |true=>
   rw[hs]at h137
   have hs2:0≤s∧s≤109951162:=by simpa[eD]using hs
   have hw:cY (cY (s*10000)+2120)=s*10000+2120:=by rw[aX (n:=s*10000) (by omega) (by omega)];exact aX (by omega) (by omega)
   cases k1:decide (t<0)with
   |true=>
    have k2:decide (0≤t)=false:=by simp only[Dc,Di]at *;omega
    simp only[pI,aB,go_sem,simprocAttr,h60,h137,k1,k2,DH,Eb]
   |false=>
    have k2:decide (0≤t)=true:=by simp only[Dc,Di]at *;omega
    cases k3:decide (1099511627776<t)with
    |true=>
     have k4:decide (t≤1099511627776)=false:=by simp only[Dc,Di]at *;omega
     simp only[pI,aB,go_sem,simprocAttr,h60,h137,k1,k2,k3,k4,Eb]
    |false=>
     have k4:decide (t≤1099511627776)=true:=by simp only[Dc,Di]at *;omega
     rw[k2,k4]at h138
     simp only[D6,Du,decide_true]at h138
     simp only[pI,aB,go_sem,simprocAttr,h60,h137,h138,k1,k2,k3,k4,D6,hw,decide_true]
theorem uQ{a:Int}(h1: -4611686018427387904≤a)(h2:a≤4611686018427387904):vI a=a/1000000000:=by
 unfold vI
 rcases Int.lt_or_le a 0 with h|h
 ·obtain⟨b,rfl⟩:∃b,a= -b:=⟨-a,by omega⟩
  rw[Int.neg_tdiv,Int.neg_tmod,EO (by omega),Int.tmod_eq_emod_of_nonneg (by omega)]
  cases hd:decide (-(b%1000000000)<0)with
  |true=>
   rw[Dc]at hd
   simp only[Du]
   rw[aX (n:= -(b/1000000000)) (by omega) (by omega),aX (by omega) (by omega)];omega
  |false=>
   rw[Di]at hd
   simp only[Dw]
   rw[aX (by omega) (by omega)];omega
 ·rw[EO h,Int.tmod_eq_emod_of_nonneg h,DR (show ¬a%1000000000<0 by omega)]
  simp only[Dw]
  exact aX (by omega) (by omega)
theorem m7{o d:Int}(h:gn o d=true): -1099511627776≤o∧o≤1099511627776∧ -100000≤d∧d≤100000:=by
 unfold gn at h
 simp only[Db,Dc]at h
 omega
theorem lS{t d:Int}(h0:0≤t)(h1: -100000≤d)(h2:d≤100000): -(t*100000)≤t*d∧t*d≤t*100000:=by
 have e1:=Et h1 h0
 have e2:=Et h2 h0
 rw[Int.mul_neg]at e1
 exact⟨e1,e2⟩
theorem l9{o d t:Int}(hk:gn o d=true)(h0:0≤t)(h1:t≤1099511627776):gi o d t=o+t+t*d/1000000000:=by
 obtain⟨k1,k2,k3,k4⟩:=m7 hk
 obtain⟨m1,m2⟩:=lS h0 k3 k4
 unfold gi
 rw[aX (n:=t*d) (by omega) (by omega),uQ (by omega) (by omega),aX (n:=o+t) (by omega) (by omega),aX (by omega) (by omega)]
theorem na{o d t t':Int}(hk:gn o d=true)(h0:0≤t)(h:t≤t')(h1:t'≤1099511627776):gi o d t≤gi o d t':=by
 rw[l9 hk h0 (by omega),l9 hk (by omega) h1]
 obtain⟨k1,k2,k3,k4⟩:=m7 hk
 obtain⟨m1,m2⟩:=lS (t:=t'-t) (by omega) k3 k4
 have:=Int.sub_mul t' t d
 omega
theorem o8{o d t:Int}(hk:gn o d=true)(h0:0≤t)(h1:t≤1099511627776): -4398046511104≤gi o d t∧gi o d t≤4398046511104:=by
 rw[l9 hk h0 h1]
 obtain⟨k1,k2,k3,k4⟩:=m7 hk
 obtain⟨m1,m2⟩:=lS h0 k3 k4
 omega
theorem oW{q:Int→Bool}(hm:∀t t',0≤t→t≤t'→t'≤1099511627776→q t=true→q t'=true)(h1:q 1099511627776=true):∀i,(∀t,0≤t→t<(bs q i).1→q t=false)∧q (bs q i).2=true
 |0=>⟨fun t h0 h=>absurd h (by simp only[bs];omega),h1⟩
 |i+1=>by
  obtain⟨g1,g2⟩:=oW hm h1 i
  obtain⟨b1,b2,b3,_⟩:=kB q i
  rw[bs]
  cases hlt:decide ((bs q i).1<(bs q i).2)with
  |false=>exact⟨g1,g2⟩
  |true=>
   rw[Dc]at hlt
   cases hq:q (((bs q i).1+(bs q i).2)/2)with
   |true=>exact⟨g1,hq⟩
   |false=>
    refine⟨fun t h0 h=>?_,g2⟩
    cases ht:q t with
    |false=>rfl
    |true=>
     have h:t<((bs q i).1+(bs q i).2)/2+1:=h
     have:=hm t (((bs q i).1+(bs q i).2)/2) h0 (by omega) (by omega) ht
     rw[hq]at this;cases this
theorem pT{q:Int→Bool}(hm:∀t t',0≤t→t≤t'→t'≤1099511627776→q t=true→q t'=true)(h1:q 1099511627776=true):(∀t,0≤t→t<me q→q t=false)∧q (me q)=true∧0≤me q∧me q≤1099511627776:=by
 obtain⟨g1,g2⟩:=oW hm h1 41
 obtain⟨b1,b2,b3,_⟩:=kB q 41
 have he:=ry q
 unfold me
 exact⟨g1,by rw[he];exact g2,b1,by omega⟩
theorem lW{o d x:Int}(hk:gn o d=true)(h:x≤gi o d 1099511627776):(∀t,0≤t→t<rV o d x→gi o d t<x)∧x≤gi o d (rV o d x)∧0≤rV o d x∧rV o d x≤1099511627776:=by
 obtain⟨g1,g2,g3,g4⟩:=pT (q:=fun t=>decide (x≤gi o d t)) (fun t t' h0 h1 h2 h3=>by
  have:=na hk h0 h1 h2
  simp only[Dc]at h3⊢
  omega) (Dj h)
 unfold rV
 rw[DR (by omega)]
 simp only[Dw]
 refine⟨fun t h0 ht=>?_,D4 g2,g3,g4⟩
 have:=Dv (g1 t h0 ht)
 omega
end K
namespace K
def nN(o d l c:Int):Bool:=gn o d&&(decide (l= -1)||eD l)&&decide (0≤c)&&decide (c≤4096)&&(decide (c=0)==decide (l= -1))
theorem zM(n:Nat)(H:ab)(o d l c:Int):aI T (n+2) (.fn 48) [.agg [FV o,FV d,FV l,FV c]] H=some (FV (bif nN o d l c then 0 else 1),H):=by
 have h92:=fun H=>vC n H o d
 have h98:=fun H=>yZ n H l
 unfold nA at h92
 unfold nN
 refine aJ B9 (by rfl) ?_
 cases a1:gn o d with
 |false=>rw[a1]at h92;simp only[A6,aB,go_sem,simprocAttr,h92,DH]
 |true=>
  rw[a1]at h92
  have e0:decide (c<0)=!decide (0≤c):=by cases h:decide (0≤c)<;>simp only[Dc,Di,Ec,EV]at * <;>omega
  have e1:decide (4096<c)=!decide (c≤4096):=by cases h:decide (c≤4096)<;>simp only[Dc,Di,Ec,EV]at * <;>omega
  cases a2:decide (l= -1)<;>cases a3:eD l<;>rw[a3]at h98<;>cases a4:decide (0≤c)<;>rw[a4]at e0<;>cases a5:decide (c≤4096)<;>rw[a5]at e1<;>cases a6:decide (c=0) <;>
   simp only[A6,aB,go_sem,simprocAttr,h92,h98,a2,a3,a4,a5,a6,e0,e1,Ed,Eo,DH,Eb,Bool.or_true,Bool.or_false,Bool.true_or,Ec,EV,Ep]<;>rfl
def tz(o d x:Int):Bool:=gn o d&&decide (-2199023255552≤x)&&decide (x≤2199023255552)&&gn (cY (o+x)) d
theorem zX(n:Nat)(H:ab)(o d x:Int):aI T (n+2) (.fn 187) [.agg [FV o,FV d],FV x] H=some (.cG [.agg [FV (bif tz o d x then cY (o+x)else 0),FV (bif tz o d x then d else 0)],FV (bif tz o d x then 0 else 1)],H):=by
 have h92:=fun H=>vC n H o d
 have h92':=fun H=>vC n H (cY (o+x)) d
 unfold nA at h92 h92'
 unfold tz
 refine aJ AK (by rfl) ?_
 cases a1:gn o d with
 |false=>rw[a1]at h92;simp only[vk,aB,go_sem,simprocAttr,h92,DH]
 |true=>
  rw[a1]at h92
  have e0:decide (x< -2199023255552)=!decide (-2199023255552≤x):=by cases h:decide (-2199023255552≤x)<;>simp only[Dc,Di,Ec,EV]at * <;>omega
  have e1:decide (2199023255552<x)=!decide (x≤2199023255552):=by cases h:decide (x≤2199023255552)<;>simp only[Dc,Di,Ec,EV]at * <;>omega
  cases a4:decide (-2199023255552≤x)<;>rw[a4]at e0<;>cases a5:decide (x≤2199023255552)<;>rw[a5]at e1<;>cases a6:gn (cY (o+x)) d<;>rw[a6]at h92' <;>
   simp only[vk,aB,go_sem,simprocAttr,h92,h92',a4,a5,e0,e1,Ed,Eo,DH,Eb,Ec,EV]
def tY(o d l c s x:Int):Int:=bif decide (s≤l)then 5 else bif decide (x< -4999)||decide (4999<x)then 15 else bif decide (c=4096)then 13 else bif tz o d x then 0 else 1
def uJ(o d l c s x:Int):List SV:=bif decide (tY o d l c s x=0)then[FV (cY (o+x)),FV d,FV s,FV (cY (c+1))]else[FW,FW,FW,FW]
theorem wZ(n:Nat)(H:ab)(o d l c s x:Int):aI T (n+3) (.fn 157) [.agg [FV o,FV d,FV l,FV c],FV s,FV x] H=some (.cG [.agg (uJ o d l c s x),FV (tY o d l c s x)],H):=by
 have h187:=fun H=>zX n H o d x
 unfold uJ tY
 refine aJ AD (by rfl) ?_
 cases a1:decide (s≤l)with
 |true=>simp only[pU,aB,go_sem,simprocAttr,a1]
 |false=>
  cases a2:decide (x< -4999)with
  |true=>simp only[pU,aB,go_sem,simprocAttr,a1,a2,Bool.true_or]
  |false=>
   cases a3:decide (4999<x)with
   |true=>simp only[pU,aB,go_sem,simprocAttr,a1,a2,a3,Bool.or_true]
   |false=>
    cases a4:decide (c=4096)with
    |true=>simp only[pU,aB,go_sem,simprocAttr,a1,a2,a3,a4,Bool.or_self]
    |false=>
     cases a5:tz o d x<;>rw[a5]at h187<;>simp only[pU,aB,go_sem,simprocAttr,a1,a2,a3,a4,h187,Bool.or_self]
def yP(o d l c s t:Int):Int:=bif nN o d l c then(bif decide (mS o d s t=0)then tY o d l c s (cY (0-nT o d s t))else mS o d s t)else 1
def z4:List SV:=[FW,FW,FW,FW]
def vM(o d l c s t:Int):List SV:=bif nN o d l c&&decide (mS o d s t=0)then uJ o d l c s (cY (0-nT o d s t))else[FW,FW,FW,FW]
theorem jO(o d l c s x:Int):∃a b p q,uJ o d l c s x=[FV a,FV b,FV p,FV q]:=by
 unfold uJ
 cases decide (tY o d l c s x=0)<;>exact⟨_,_,_,_,rfl⟩
theorem BQ(n:Nat)(H:ab)(o d l c s t:Int):aI T (n+5) (.fn 99) [.agg [FV o,FV d,FV l,FV c],FV s,FV t] H=some (.cG [.agg (vM o d l c s t),FV (yP o d l c s t)],H):=by
 have h48:=fun H=>zM (n+2) H o d l c
 have h100:=fun H=>wg n H o d s t
 have h157:=fun H=>wZ (n+1) H o d l c s (cY (0-nT o d s t))
 unfold vM yP
 obtain⟨p1,p2,p3,p4,hp⟩:=jO o d l c s (cY (0-nT o d s t))
 rw[hp]at h157⊢
 refine aJ B8 (by rfl) ?_
 cases a1:nN o d l c with
 |false=>rw[a1]at h48;simp only[xL,aB,go_sem,simprocAttr,h48,DH]
 |true=>
  rw[a1]at h48
  cases a2:decide (mS o d s t=0)with
  |false=>simp only[xL,aB,go_sem,simprocAttr,h48,h100,a2,Eb]
  |true=>simp only[xL,aB,go_sem,simprocAttr,h48,h100,h157,a2,Eo]
def tM(o d l c s x:Int):Int:=bif nN o d l c then(bif eD s then tY o d l c s x else 2)else 1
def qe(o d l c s x:Int):List SV:=bif nN o d l c&&eD s then uJ o d l c s x else[FW,FW,FW,FW]
theorem AQ(n:Nat)(H:ab)(o d l c s x:Int):aI T (n+4) (.fn 101) [.agg [FV o,FV d,FV l,FV c],FV s,FV x] H=some (.cG [.agg (qe o d l c s x),FV (tM o d l c s x)],H):=by
 have h48:=fun H=>zM (n+1) H o d l c
 have h98:=fun H=>yZ (n+2) H s
 have h157:=fun H=>wZ n H o d l c s x
 unfold qe tM
 obtain⟨p1,p2,p3,p4,hp⟩:=jO o d l c s x
 rw[hp]at h157⊢
 refine aJ A8 (by rfl) ?_
 cases a1:nN o d l c with
 |false=>rw[a1]at h48;simp only[sP,aB,go_sem,simprocAttr,h48,DH]
 |true=>
  rw[a1]at h48
  cases a2:eD s with
  |false=>rw[a2]at h98;simp only[sP,aB,go_sem,simprocAttr,h48,h98,Eb]
  |true=>rw[a2]at h98;simp only[sP,aB,go_sem,simprocAttr,h48,h98,h157,Eo]
end K
namespace K
def sh(c:Int×Int)(t:Int):Int:=c.1+t+t*c.2/1000000000
def Dr(c:Int×Int):Prop:= -100000≤c.2∧c.2≤100000
theorem prod{c:Int×Int}(h:Dr c){t t0:Int}(ht:t0≤t): -(100000*(t-t0))≤t*c.2-t0*c.2∧t*c.2-t0*c.2≤100000*(t-t0):=by
 have h0:0≤t-t0:=by omega
 have e1:=Et h.1 h0
 have e2:=Et h.2 h0
 have e3:=Int.sub_mul t t0 c.2
 omega
theorem wq{c:Int×Int}(h:Dr c){t t0:Int}(ht:t0≤t):t-t0-(t-t0)/10000-2≤sh c t-sh c t0∧sh c t-sh c t0≤t-t0+(t-t0)/10000+1:=by
 have:=prod h ht
 unfold sh
 omega
theorem th{c:Int×Int}(h:Dr c)(t:Int):sh c t≤sh c (t-1)+2:=by
 have:=prod h (show t-1≤t by omega)
 unfold sh
 omega
theorem uD{c r:Int×Int}(h:Dr c)(hr:Dr r){t t0:Int}(ht:t0≤t):(sh c t-sh r t)-(sh c t0-sh r t0)≤(t-t0)/5000+2∧ -((t-t0)/5000+2)≤(sh c t-sh r t)-(sh c t0-sh r t0):=by
 have h1:=prod h ht
 have h2:=prod hr ht
 unfold sh
 omega
def Lg(k:Int):Int:=((k*10000+1)*1000000000+999899999)/999900000
def St(k:Int):Int:=1+(Lg k/5000+2)
theorem xH{k:Int}:(k*10000+1)*1000000000≤999900000*Lg k:=by unfold Lg;omega
theorem qI{k:Int}(hk:0≤k):3≤St k:=by
 unfold St Lg
 omega
theorem wi{c:Int×Int}(h:Dr c){t t0 W:Int}(ht:t0≤t)(hW:sh c t-sh c t0≤W):9999*(t-t0)≤10000*(W+2):=by
 have:=wq h ht
 omega
theorem wb{k x:Int}(hk:0≤k)(h:9999*x≤10000*(k*10000+11200)):x/5000+2≤St k+2:=by
 have:=xH (k:=k)
 unfold St
 omega
theorem By{c r:Int×Int}(hc:Dr c)(hr:Dr r){u:Int×Int}(hu:Dr u){t T k e:Int}(hk:0≤k)(he: -e≤sh c T-sh r T∧sh c T-sh r T≤e)(h1:sh u t-sh u T≤k*10000+11000)(h2:sh u T-sh u t≤k*10000+11000) :
 -(e+St k+2)≤sh c t-sh r t∧sh c t-sh r t≤e+St k+2:=by
 rcases Int.le_total T t with h|h
 ·have a:=wi hu h h1
  have b:=wb (x:=t-T) hk (by omega)
  have g:=uD hc hr h
  omega
 ·have a:=wi hu h h2
  have b:=wb (x:=T-t) hk (by omega)
  have g:=uD hc hr h
  omega
def Fr(c r:Int×Int)(k:Int)(d l:Int):Prop:=∃T,-((d-1)*(St k+4)+1)≤sh c T-sh r T∧sh c T-sh r T≤(d-1)*(St k+4)+1∧ -5000≤sh c T-(l*10000+2120)∧sh c T-(l*10000+2120)≤5000
theorem AG(k d:Int):d*(St k+4)=(d-1)*(St k+4)+St k+4:=by
 rw[Int.sub_mul];omega
theorem Fr.own{c r:Int×Int}(hc:Dr c)(hr:Dr r){k d l s t:Int}(hk:0≤k)(h:Fr c r k d l)(h0:l≤s)(h1:s-l≤k)(g1: -5001≤sh c t-(s*10000+2120))(g2:sh c t-(s*10000+2120)≤5001) :
 -(d*(St k+4))≤sh c t-sh r t∧sh c t-sh r t≤d*(St k+4):=by
 obtain⟨T,e1,e2,e3,e4⟩:=h
 have:=By hc hr hc hk ⟨e1,e2⟩ (t:=t) (by omega) (by omega)
 rw[AG]
 omega
theorem Fr.root{c r:Int×Int}(hc:Dr c)(hr:Dr r){k d l s t V:Int}(hk:0≤k)(h:Fr c r k d l)(h0:l≤s)(h1:s-l≤k)(g1: -V≤sh r t-(s*10000+2120))(g2:sh r t-(s*10000+2120)≤V)(hV:V+(d-1)*(St k+4)+1≤6000) :
 -(d*(St k+4))≤sh c t-sh r t∧sh c t-sh r t≤d*(St k+4):=by
 obtain⟨T,e1,e2,e3,e4⟩:=h
 have:=By hc hr hr hk ⟨e1,e2⟩ (t:=t) (by omega) (by omega)
 rw[AG]
 omega
theorem Fr.AP{p r c':Int×Int}{k d s t:Int}(hp: -(d*(St k+4))≤sh p t-sh r t∧sh p t-sh r t≤d*(St k+4))(g1:s*10000+2120≤sh p t)(g2:sh p t≤s*10000+2121)(hc:sh c' t=s*10000+2120):Fr c' r k (d+1) s:=by
 refine⟨t,?_,?_,?_,?_⟩<;>(try rw[show d+1-1=d by omega])<;>omega
theorem Fr.Cz{p r c':Int×Int}{k d s t:Int}(hp: -(d*(St k+4))≤sh p t-sh r t∧sh p t-sh r t≤d*(St k+4))(g1: -4999≤sh p t-(s*10000+2120))(g2:sh p t-(s*10000+2120)≤4999)(h1:sh p t≤sh c' t)(h2:sh c' t≤sh p t+1):Fr c' r k (d+1) s:=by
 refine⟨t,?_,?_,?_,?_⟩<;>(try rw[show d+1-1=d by omega])<;>omega
theorem zi{a b r:Int×Int}{k da db X t:Int}(ha: -(da*(St k+4))≤sh a t-sh r t∧sh a t-sh r t≤da*(St k+4))(hb: -(db*(St k+4))≤sh b t-sh r t∧sh b t-sh r t≤db*(St k+4))
 (hs:(da+db)*St k≤1000) (hd:da+db≤10) (g1:X≤sh a t) (g2:sh a t≤X+1):X-1040≤sh b t∧sh b t≤X+1041:=by
 have e1:(da+db)*(St k+4)=(da+db)*St k+4*(da+db):=by rw[Int.mul_add];omega
 have e2:=Int.add_mul da db (St k+4)
 omega
end K
namespace K
def vJ(o d l c po pd s:Int):Int:=bif decide (gO po pd s=0)then yP o d l c s (cL po pd s)else gO po pd s
def sN(o d l c po pd s:Int):List SV:=bif decide (gO po pd s=0)then vM o d l c s (cL po pd s)else[FW,FW,FW,FW]
theorem oI(o d l c s x:Int):∃a b p q,vM o d l c s x=[FV a,FV b,FV p,FV q]:=by
 unfold vM
 cases nN o d l c&&decide (mS o d s x=0)with
 |false=>exact⟨_,_,_,_,rfl⟩
 |true=>exact jO _ _ _ _ _ _
theorem oP(o d l c s x:Int):∃a b p q,qe o d l c s x=[FV a,FV b,FV p,FV q]:=by
 unfold qe
 cases nN o d l c&&eD s with
 |false=>exact⟨_,_,_,_,rfl⟩
 |true=>exact jO _ _ _ _ _ _
theorem BK(n:Nat)(H:ab)(o d l c po pd s:Int):aI T (n+7) (.fn 49) [.agg [FV o,FV d,FV l,FV c,FV po,FV pd,FV s]] H=some (.cG [.agg (sN o d l c po pd s),FV (vJ o d l c po pd s)],H):=by
 have h12:=fun H=>xy n H po pd s
 have h99:=fun H=>BQ (n+1) H o d l c s (cL po pd s)
 unfold sN vJ
 obtain⟨p1,p2,p3,p4,hp⟩:=oI o d l c s (cL po pd s)
 rw[hp]at h99⊢
 refine aJ Cp (by rfl) ?_
 cases a1:decide (gO po pd s=0)with
 |false=>simp only[zy,aB,go_sem,Int.reduceToNat,Nat.reduceAdd,Nat.reduceBEq,Nat.reduceLeDiff,Nat.reduceLT,Nat.reduceMul,Nat.reduceSub,Int.reduceEq,Int.reduceLT,Int.reduceLE,Int.reduceNeg,h12,a1]
 |true=>simp only[zy,aB,go_sem,Int.reduceToNat,Nat.reduceAdd,Nat.reduceBEq,Nat.reduceLeDiff,Nat.reduceLT,Nat.reduceMul,Nat.reduceSub,Int.reduceEq,Int.reduceLT,Int.reduceLE,Int.reduceNeg,h12,h99,a1]
def vL(o d l c po pd s:Int):Int:=bif decide (gO o d s=0)then(bif decide (mS po pd s (cL o d s)=0)then tM o d l c s (nT po pd s (cL o d s))else mS po pd s (cL o d s))else gO o d s
def va(o d l c po pd s:Int):List SV:=bif decide (gO o d s=0)&&decide (mS po pd s (cL o d s)=0)then qe o d l c s (nT po pd s (cL o d s))else[FW,FW,FW,FW]
theorem BO(n:Nat)(H:ab)(o d l c po pd s:Int):aI T (n+7) (.fn 50) [.agg [FV o,FV d,FV l,FV c,FV po,FV pd,FV s]] H=some (.cG [.agg (va o d l c po pd s),FV (vL o d l c po pd s)],H):=by
 have h12:=fun H=>xy n H o d s
 have h100:=fun H=>wg (n+2) H po pd s (cL o d s)
 have h101:=fun H=>AQ (n+2) H o d l c s (nT po pd s (cL o d s))
 unfold va vL
 obtain⟨p1,p2,p3,p4,hp⟩:=oP o d l c s (nT po pd s (cL o d s))
 rw[hp]at h101⊢
 refine aJ Cu (by rfl) ?_
 cases a1:decide (gO o d s=0)with
 |false=>simp only[xO,aB,go_sem,Int.reduceToNat,Nat.reduceAdd,Nat.reduceBEq,Nat.reduceLeDiff,Nat.reduceLT,Nat.reduceMul,Nat.reduceSub,Int.reduceEq,Int.reduceLT,Int.reduceLE,Int.reduceNeg,h12,a1,DH]
 |true=>
  cases a2:decide (mS po pd s (cL o d s)=0)with
  |false=>simp only[xO,aB,go_sem,Int.reduceToNat,Nat.reduceAdd,Nat.reduceBEq,Nat.reduceLeDiff,Nat.reduceLT,Nat.reduceMul,Nat.reduceSub,Int.reduceEq,Int.reduceLT,Int.reduceLE,Int.reduceNeg,h12,h100,a1,a2,Eb]
  |true=>simp only[xO,aB,go_sem,Int.reduceToNat,Nat.reduceAdd,Nat.reduceBEq,Nat.reduceLeDiff,Nat.reduceLT,Nat.reduceMul,Nat.reduceSub,Int.reduceEq,Int.reduceLT,Int.reduceLE,Int.reduceNeg,h12,h100,h101,a1,a2,Eo]
theorem xg(n:Nat)(H:ab)(x y:Int):aI T (n+1) (.fn 160) [FV x,FV y] H=some (.bool (decide (0≤x)&&decide (x≤y)),H):=by
 refine aJ AO (by rfl) ?_
 cases h:decide (0≤x)<;>simp only[wm,aB,go_sem,Int.reduceToNat,Nat.reduceAdd,Nat.reduceBEq,Nat.reduceLeDiff,Nat.reduceLT,Nat.reduceMul,Nat.reduceSub,Int.reduceEq,Int.reduceLT,Int.reduceLE,Int.reduceNeg,h,Ed,DH]
theorem zq(n:Nat)(H:ab)(a b:Nat)(x:Int)(hx0:0≤x)(hx:x≤100000000):aI T (n+1) (.fn 188) [.agg [FV a,FV b,FV 100000],FV x] H=some (FV (x/5000+2),H):=by
 have w1:cY (2*x)=2*x:=aX (by omega) (by omega)
 have w2:cY (2*x*100000)=2*x*100000:=aX (by omega) (by omega)
 have w3:cY ((2*x*100000).tdiv 1000000000)=x/5000:=by rw[EO (by omega),aX (by omega) (by omega)];omega
 have w4:cY (x/5000+2)=x/5000+2:=aX (by omega) (by omega)
 refine aJ AZ (by rfl) ?_
 simp only[xa,aB,go_sem,Int.reduceToNat,Nat.reduceAdd,Nat.reduceBEq,Nat.reduceLeDiff,Nat.reduceLT,Nat.reduceMul,Nat.reduceSub,Int.reduceEq,Int.reduceLT,Int.reduceLE,Int.reduceNeg,w1,w2,w3,w4]
theorem z8(n:Nat)(H:ab)(a b:Nat)(k:Int)(hk0:0≤k)(hk:k≤1001):aI T (n+1) (.fn 189) [.agg [FV a,FV b,FV 100000],FV k] H=some (FV (Lg k),H):=by
 have w0:cY (1000000000-100000)=999900000:=aX (by omega) (by omega)
 have w1:cY (k*10000)=k*10000:=aX (by omega) (by omega)
 have w2:cY (k*10000+1)=k*10000+1:=aX (by omega) (by omega)
 have w3:cY ((k*10000+1)*1000000000)=(k*10000+1)*1000000000:=aX (by omega) (by omega)
 have w4:cY ((k*10000+1)*1000000000+999900000)=(k*10000+1)*1000000000+999900000:=aX (by omega) (by omega)
 have w5:cY ((k*10000+1)*1000000000+999900000-1)=(k*10000+1)*1000000000+999900000-1:=aX (by omega) (by omega)
 have w6:cY (((k*10000+1)*1000000000+999900000-1).tdiv 999900000)=Lg k:=by
  rw[EO (by omega)]
  unfold Lg
  rw[aX (by omega) (by omega)];omega
 refine aJ zn (by rfl) ?_
 simp only[xr,aB,go_sem,Int.reduceToNat,Nat.reduceAdd,Nat.reduceBEq,Nat.reduceLeDiff,Nat.reduceLT,Nat.reduceMul,Nat.reduceSub,Int.reduceEq,Int.reduceLT,Int.reduceLE,Int.reduceNeg,w0,w1,w2,w3,w4,w5,w6]
theorem u5{k:Int}(hk0:0≤k)(hk:k≤1001):0≤Lg k∧Lg k≤20000000:=by unfold Lg;omega
theorem rZ{k:Int}(hk0:0≤k)(hk:k≤1001):3≤St k∧St k≤5000:=by unfold St Lg;omega
theorem Ay(n:Nat)(H:ab)(a b:Nat)(k:Int)(hk0:0≤k)(hk:k≤1001):aI T (n+2) (.fn 161) [.agg [FV a,FV b,FV 100000],FV k] H=some (FV (St k),H):=by
 obtain⟨l0,l1⟩:=u5 hk0 hk
 obtain⟨t0,t1⟩:=rZ hk0 hk
 have h189:=fun H=>z8 n H a b k hk0 hk
 have h188:=fun H=>zq n H a b (Lg k) l0 (by omega)
 have w1:cY (1+(Lg k/5000+2))=St k:=by
  have:St k=1+(Lg k/5000+2):=rfl
  rw[←this];exact aX (by omega) (by omega)
 refine aJ AX (by rfl) ?_
 simp only[xC,aB,go_sem,Int.reduceToNat,Nat.reduceAdd,Nat.reduceBEq,Nat.reduceLeDiff,Nat.reduceLT,Nat.reduceMul,Nat.reduceSub,Int.reduceEq,Int.reduceLT,Int.reduceLE,Int.reduceNeg,h188,h189,w1]
theorem zL(n:Nat)(H:ab)(a b:Nat)(k:Int)(ha:a≤32)(hb:b≤32)(hk0:0≤k)(hk:k≤1001):aI T (n+3) (.fn 103) [.agg [FV a,FV b,FV 100000],FV k] H=some (FV (((a:Int)+b)*St k),H):=by
 obtain⟨t0,t1⟩:=rZ hk0 hk
 have h161:=fun H=>Ay n H a b k hk0 hk
 have w0:cY ((a:Int)+(b:Int))=(a:Int)+b:=aX (by omega) (by omega)
 have m1:0≤((a:Int)+b)*St k:=FU (by omega) (by omega)
 have m2:((a:Int)+b)*St k≤64*5000:=Int.mul_le_mul (by omega) t1 (by omega) (by omega)
 have w1:cY (((a:Int)+b)*St k)=((a:Int)+b)*St k:=aX (by omega) (by omega)
 refine aJ Ap (by rfl) ?_
 simp only[xd,aB,go_sem,Int.reduceToNat,Nat.reduceAdd,Nat.reduceBEq,Nat.reduceLeDiff,Nat.reduceLT,Nat.reduceMul,Nat.reduceSub,Int.reduceEq,Int.reduceLT,Int.reduceLE,Int.reduceNeg,h161,w0,w1]
end K
namespace K
theorem AN(n:Nat)(H:ab)(a b:Nat)(ha:a≤32)(hb:b≤32):aI T (n+2) (.fn 159) [.agg [FV a,FV b,FV 100000]] H=some (.bool true,H):=by
 have h160:=fun H (x y:Int)=>xg n H x y
 have d0:decide ((0:Int)≤(a:Int))=true:=Dj (by omega)
 have d1:decide ((a:Int)≤32)=true:=Dj (by omega)
 have d2:decide ((0:Int)≤(b:Int))=true:=Dj (by omega)
 have d3:decide ((b:Int)≤32)=true:=Dj (by omega)
 have d4:decide ((0:Int)≤100000)=true:=rfl
 have d5:decide ((100000:Int)≤100000)=true:=rfl
 refine aJ yX (by rfl) ?_
 simp only[xb,aB,go_sem,Int.reduceToNat,Nat.reduceAdd,Nat.reduceBEq,Nat.reduceLeDiff,Nat.reduceLT,Nat.reduceMul,Nat.reduceSub,Int.reduceEq,Int.reduceLT,Int.reduceLE,Int.reduceNeg,h160,d0,d1,d2,d3,d4,d5,D6]
theorem AW(n:Nat)(H:ab)(a b:Nat)(k:Int)(ha:a≤32)(hb:b≤32)(hk0:0≤k)(hk:k≤1001):aI T (n+4) (.fn 102) [.agg [FV a,FV b,FV 100000],.mf 103 [.agg [FV a,FV b,FV 100000]],FV k] H=some (.cG [FV (((a:Int)+b)*St k),FW],H):=by
 have h159:=fun H=>AN (n+1) H a b ha hb
 have h160:=fun H (x y:Int)=>xg (n+2) H x y
 have h103:=fun H=>zL n H a b k ha hb hk0 hk
 have d0:decide (0≤k)=true:=Dj hk0
 have d1:decide (k≤4096)=true:=Dj (by omega)
 refine aJ AB (by rfl) ?_
 simp only[xe,aB,go_sem,Int.reduceToNat,Nat.reduceAdd,Nat.reduceBEq,Nat.reduceLeDiff,Nat.reduceLT,Nat.reduceMul,Nat.reduceSub,Int.reduceEq,Int.reduceLT,Int.reduceLE,Int.reduceNeg,h159,h160,h103,d0,d1,D6]
theorem BI(n:Nat)(H:ab)(a b:Nat)(k:Int)(ha:a≤32)(hb:b≤32)(hk0:0≤k)(hk:k≤1001):aI T (n+5) (.fn 51) [FV a,FV b,FV k,FV 100000] H=some (.cG [FV (((a:Int)+b)*St k),FW],H):=by
 have h102:=fun H=>AW n H a b k ha hb hk0 hk
 refine aJ Cm (by rfl) ?_
 simp only[Bt,aB,go_sem,Int.reduceToNat,Nat.reduceAdd,Nat.reduceBEq,Nat.reduceLeDiff,Nat.reduceLT,Nat.reduceMul,Nat.reduceSub,Int.reduceEq,Int.reduceLT,Int.reduceLE,Int.reduceNeg,h102]
@[go_sem] theorem wX (e H r s t u):results1 e H [r,s,t,u]=(bU e H r).bind fun a=>(bU e H s).bind fun b=>(bU e H t).bind fun c=>(bU e H u).map fun d=>.cG [a,b,c,d]:=by
  unfold results1
  cases h:bU e H r<;>cases h':bU e H s<;>cases h'':bU e H t<;>cases h3:bU e H u<;>simp[a7,h,h',h'',h3]
def vB(so sd ro rd s:Int):Int:=bif decide (gO so sd s=0)then vE ro rd s else gO so sd s
theorem A2(n:Nat)(H:ab)(so sd ro rd s:Int):aI T (n+7) (.fn 104) [.agg [FV so,FV sd],.agg [FV ro,FV rd],FV s] H=
 some (bif decide (gO so sd s=0)then .cG [FV (cL so sd s),FV (vO ro rd s),FV (xn ro rd s),FV (vE ro rd s)]else .cG [FW,FW,FW,FV (gO so sd s)],H):=by
 have h12:=fun H=>xy n H so sd s
 have h39:=fun H=>B4 n H ro rd s
 refine aJ Ae (by rfl) ?_
 cases a1:decide (gO so sd s=0)<;>simp only[w9,aB,go_sem,Int.reduceToNat,Nat.reduceAdd,Nat.reduceBEq,Nat.reduceLeDiff,Nat.reduceLT,Nat.reduceMul,Nat.reduceSub,Int.reduceEq,Int.reduceLT,Int.reduceLE,Int.reduceNeg,h12,h39,a1]
def yu(so sd ro rd s:Int):Bool:=decide (vB so sd ro rd s=0)&&(decide (vO ro rd s≤cL so sd s)&&decide (cL so sd s≤xn ro rd s))
theorem B6(n:Nat)(H:ab)(so sd ro rd s:Int):aI T (n+8) (.fn 52) [.agg [FV so,FV sd],.agg [FV ro,FV rd],FV s] H=some (.cG [.bool (yu so sd ro rd s),FV (vB so sd ro rd s)],H):=by
 have h104:=fun H=>A2 n H so sd ro rd s
 unfold yu vB
 refine aJ BU (by rfl) ?_
 cases a1:decide (gO so sd s=0)with
 |false=>
  rw[a1]at h104
  simp only[Dw]at h104⊢
  simp only[ye,aB,go_sem,Int.reduceToNat,Nat.reduceAdd,Nat.reduceBEq,Nat.reduceLeDiff,Nat.reduceLT,Nat.reduceMul,Nat.reduceSub,Int.reduceEq,Int.reduceLT,Int.reduceLE,Int.reduceNeg,h104,a1,DH]
 |true=>
  rw[a1]at h104
  simp only[Du]at h104⊢
  cases a2:decide (vE ro rd s=0)with
  |false=>simp only[ye,aB,go_sem,Int.reduceToNat,Nat.reduceAdd,Nat.reduceBEq,Nat.reduceLeDiff,Nat.reduceLT,Nat.reduceMul,Nat.reduceSub,Int.reduceEq,Int.reduceLT,Int.reduceLE,Int.reduceNeg,h104,a2,DH]
  |true=>cases a3:decide (vO ro rd s≤cL so sd s)<;>simp only[ye,aB,go_sem,Int.reduceToNat,Nat.reduceAdd,Nat.reduceBEq,Nat.reduceLeDiff,Nat.reduceLT,Nat.reduceMul,Nat.reduceSub,Int.reduceEq,Int.reduceLT,Int.reduceLE,Int.reduceNeg,h104,a2,a3,Ed,DH]
def nM(M:List Int)(keep i s:Int):Bool:=decide (i=0)||(match M[i.toNat]? with|some l=>decide (0≤l)&&decide (cY (s-l)≤keep)|none=>false)
theorem Ba(n p q kp v:Nat)(H:ab)(M:List Int)(ex:Bool)(keep:Int)(i:Nat)(s:Int)(hp:H.bl[p]?=some (.box [.bt q v 0 M.length]))(hq:H.bl[q]?=some (.arr v 1 (iS M) ex))(hk:H.bl[kp]?=some (.box [FV keep]))(hi:i<M.length) :
 aI T (n+1) (.fn 11) [FV i,FV s,.ptr p 0 0 0,.ptr kp 0 0 0] H=some (.bool (nM M keep i s),H):=by
 obtain⟨l,hl⟩:=iy hi
 refine gf BT rfl rfl (fun R k bl ro r hbl hk'=>?_)
 obtain rfl:bl=H.bl:=by
  rcases hbl with⟨rfl,h0⟩|rfl
  ·simp[SV.refs.aK,SV.refs]at h0
  ·rfl
 have hB1:∀l:List bb,(H.bl++l)[p]?=some (.box [.bt q v 0 M.length]):=fun l=>rT hp
 have hB2:∀l:List bb,(H.bl++l)[q]?=some (.arr v 1 (iS M) ex):=fun l=>rT hq
 have hB3:∀l:List bb,(H.bl++l)[kp]?=some (.box [FV keep]):=fun l=>rT hk
 have hk2:=hk' []
 rw[Er]at hk2
 unfold nM at hk2
 simp only[EA,hl]at hk2
 cases a1:decide ((i:Int)=0)with
 |true=>
  rw[a1]at hk2
  simp only[yD,ar,ao,ax,av,aj,ai,al,ah,aO,aF,aN,aG,aE,aD,au,aH,aq,aw,af,ay,a9,ba,C9,C8,Da,go_sem,Int.reduceToNat,Nat.reduceAdd,Nat.reduceBEq,Nat.reduceLeDiff,Nat.reduceLT,Nat.reduceMul,Nat.reduceSub,Int.reduceEq,Int.reduceLT,Int.reduceLE,Int.reduceNeg,hp,hq,hk,a1]
  exact hk2
 |false=>
  rw[a1]at hk2
  cases a2:decide (0≤l)with
  |false=>
   rw[a2]at hk2
   simp only[yD,ar,ao,ax,av,aj,ai,al,ah,aO,aF,aN,aG,aE,aD,au,aH,aq,aw,af,ay,a9,ba,C9,C8,Da,go_sem,Int.reduceToNat,Nat.reduceAdd,Nat.reduceBEq,Nat.reduceLeDiff,Nat.reduceLT,Nat.reduceMul,Nat.reduceSub,Int.reduceEq,Int.reduceLT,Int.reduceLE,Int.reduceNeg,hp,hq,hk,hi,hl,a1,a2]
   exact hk2
  |true=>
   rw[a2]at hk2
   simp only[yD,ar,ao,ax,av,aj,ai,al,ah,aO,aF,aN,aG,aE,aD,au,aH,aq,aw,af,ay,a9,ba,C9,C8,Da,go_sem,Int.reduceToNat,Nat.reduceAdd,Nat.reduceBEq,Nat.reduceLeDiff,Nat.reduceLT,Nat.reduceMul,Nat.reduceSub,Int.reduceEq,Int.reduceLT,Int.reduceLE,Int.reduceNeg,hp,hq,hk,hi,hl,a1,a2]
   exact hk2
end K
end Go.Sh
