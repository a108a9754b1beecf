/- A part of the proof: texts K19xk, K19rr, K19xb, K19xm. -/
import Derived.Test.YtcfgikdpokjhpaaGreatB13
import Derived.Test.YtcfgikdpokjhpaaGreatB10
namespace Go.Sh
set_option linter.unusedSectionVars false
set_option linter.unnecessarySimpa false
set_option linter.unusedSimpArgs false
set_option linter.unusedVariables false
set_option maxRecDepth 100000
set_option maxHeartbeats 4000000
def oG(q:A.Em→Bool)(M:List A.Em):Nat→List A.Em
 |0=>M
 |k+1=>match M[k]? with
  |some y=>bif q y then(oG q M k).set ((M.take k).filter q).length y else oG q M k
  |none=>oG q M k
def pR(q:A.Em→Bool)(M:List A.Em)(k:Nat):Nat:=((M.take k).filter q).length
theorem yM(q:A.Em→Bool)(M:List A.Em)(k:Nat):pR q M k≤k:=by
 unfold pR
 exact ac7 (ae5 _ _) (by simp;omega)
theorem uo{q:A.Em→Bool}{M:List A.Em}{k:Nat}{y:A.Em}(h:M[k]?=some y)(hq:q y=true):pR q M (k+1)=pR q M k+1:=by
 simp[pR,mg h,acO,hq]
theorem xL{q:A.Em→Bool}{M:List A.Em}{k:Nat}{y:A.Em}(h:M[k]?=some y)(hq:q y=false):pR q M (k+1)=pR q M k:=by
 simp[pR,mg h,acO,hq]
theorem uJ{q:A.Em→Bool}{M:List A.Em}{k:Nat}{y:A.Em}(h:M[k]?=some y)(hq:q y=true):oG q M (k+1)=(oG q M k).set (pR q M k) y:=by
 simp[oG,h,hq,pR]
theorem xZ{q:A.Em→Bool}{M:List A.Em}{k:Nat}{y:A.Em}(h:M[k]?=some y)(hq:q y=false):oG q M (k+1)=oG q M k:=by
 simp[oG,h,hq]
theorem oa(q:A.Em→Bool)(M:List A.Em):∀k,(oG q M k).length=M.length
 |0=>rfl
 |k+1=>by
  have ih:=oa q M k
  unfold oG
  split
  ·rename_i y hy
   cases q y<;>simp[ih]
  ·exact ih
theorem xr(q:A.Em→Bool)(M:List A.Em):∀k i,k≤i→(oG q M k)[i]?=M[i]?
 |0,i,_=>rfl
 |k+1,i,h=>by
  have ih:=xr q M k i (by omega)
  unfold oG
  split
  ·rename_i y hy
   cases hq:q y
   ·exact ih
   ·have:=yM q M k
    simp only[acG]
    unfold pR at this
    rw[acv (by omega)]
    exact ih
  ·exact ih
theorem wo(q:A.Em→Bool)(M:List A.Em):∀k,(oG q M k).take (pR q M k)=(M.take k).filter q
 |0=>by simp[pR]
 |k+1=>by
  have ih:=wo q M k
  cases hy:M[k]? with
  |none=>
   have hk:=afb.1 hy
   have e:M.take (k+1)=M.take k:=by rw[ac1 hk,ac1 (by omega)]
   have e2:oG q M (k+1)=oG q M k:=by simp[oG,hy]
   have e3:pR q M (k+1)=pR q M k:=by simp[pR,e]
   rw[e2,e3,ih,e]
  |some y=>
   cases hq:q y with
   |false=>
    rw[xZ hy hq,xL hy hq,ih,mg hy]
    simp[acO,hq]
   |true=>
    have hlt:pR q M k<(oG q M k).length:=by
     have:=yM q M k
     have:=(acm.1 hy).1
     rw[oa];omega
    rw[uJ hy hq,uo hy hq,mg hy,adP]
    rw[acM hlt,List.take_set_of_le (acH _),ih]
    simp[acO,hq]
theorem zB{q:A.Em→Bool}{M:List A.Em}:∀{k:Nat},k≤M.length→(∀j y,j<k→M[j]?=some y→q y=true)→oG q M k=M∧pR q M k=k
 |0,_,_=>⟨rfl,by simp[pR]⟩
 |k+1,hk,h=>by
  obtain⟨y,hy⟩:=bO (l:=M) (i:=k) (by omega)
  obtain⟨h1,h2⟩:=zB (k:=k) (by omega) (fun j y hj hy=>h j y (by omega) hy)
  have hq:=h k y (by omega) hy
  refine⟨?_,by rw[uo hy hq,h2]⟩
  rw[uJ hy hq,h1,h2]
  have:=(acm.1 hy)
  obtain⟨h3,h4⟩:=this
  subst h4
  simp
theorem Za(n b:Nat)(H:ab)(y:A.Em)(t:Int)(hb:H.bl[b]?=some (.box [af5 t])):aa T (n+1) (.fn 32) [.agg (A.qK y),.ptr b 0 0 0] H=some (.bool (!decide (y.c=t)),H):=by
 refine de e32 rfl rfl (fun R k bl ro r hbl hk=>?_)
 obtain rfl:bl=H.bl:=by
  rcases hbl with⟨rfl,h0⟩|rfl
  ·simp[SV.refs.av,SV.refs]at h0
  ·rfl
 have hB:∀l:List aC,(H.bl++l)[b]?=some (.box [af5 t]):=fun l=>fm hb
 simp only[ZC,aF,aE,aH,aG,az,aw,ax,ay,bj,aP,bg,aQ,aS,aR,aI,aO,aJ,aK,aA,ai,bM,bN,aco,acn,acD,go_sem,simprocAttr,hb,hB]
 exact hk _
theorem Ci(L:List A.Em)(i:Nat)(y:A.Em):(A.br L).set i (A.qK y)=A.br (L.set i y):=by simp[A.br,afO]
def UE:A.Em:=⟨0,0,0,0⟩
theorem s30(n:Nat){M:List A.Em}{ch:Int}{bl:List aC}{ro b c:Nat}{ex:Bool}(hb:bl[b]?=some (.arr 0 4 (A.br M) ex))(hro:ro≤b)(hm:M.length≤maxLen)(hcb:bl[c]?=some (.box [af5 ch]))(hne:c≠b) :
 ∃W:List A.Em,W=M.filter (fun y=>decide (y.c=ch))∧aa T (n+3) (.fn 30) [.bn b 0 0 M.length,.fn 32 [.ptr c 0 0 0]] ⟨bl,[],ro⟩=some (.bn b 0 0 W.length,⟨bl.set b (.arr 0 4 (A.br (W++List.replicate (M.length-W.length) UE)) ex),[],ro⟩):=by
 refine⟨_,rfl,?_⟩
 have hlt:b<bl.length:=(acm.1 hb).1
 have hltc:c<bl.length:=(acm.1 hcb).1
 have hself:bl.set b (.arr 0 4 (A.br M) ex)=bl:=by
  obtain⟨h1,h2⟩:=acm.1 hb
  rw[←h2];simp
 have hmin:min ro bl.length=ro:=adM (by omega)
 have hcr:SV.refs.av [SV.ptr c 0 0 0]≤bl.length:=by simp[SV.refs.av,SV.refs];omega
 refine bm e30 (by simp[QD,eI,SV.refs,SV.refs.av]) ?_
 have hidx:∀ro,aa T (n+2) (.fn 25) [.bn b 0 0 M.length,.fn 32 [.ptr c 0 0 0]] ⟨bl,[],ro⟩=some (af5 (eD (fun y=>!decide (y.c=ch)) M),⟨bl,[],ro⟩):=fun ro=>by
  have:=ri (T:=T) (f:=25) (n:=n+1) (H:=⟨bl,[],ro⟩) (ag:=true) (z:=4) (id:=32) (caps:=[.ptr c 0 0 0]) (L:=A.br M) (v:=.bn b 0 0 (A.br M).length) (p:=fun r=>!decide ((match r with|[_,.int _ y,_,_]=>y|_=>0)=ch)) WQ
   (.bn b 0 0 (A.br M) ex hb (by simp) (by simp)) (xP M) (fun h=>by cases h) (by rw[A.cD];exact hm) (fun r hr bl2 ro2 h=>by
     simp only[A.br,adt]at hr
     obtain⟨y,hy,rfl⟩:=hr
     rcases h with⟨_,h,_⟩|h
     ·simp[SV.refs]at h
     ·rw[show bl2=bl from h]
      exact Za n c ⟨bl,[],ro2⟩ y ch hcb) hcr
  rw[show eD (fun r=>!decide ((match r with|[_,SV.int _ y,_,_]=>y|_=>0)=ch)) (A.br M)=eD (fun y=>!decide (y.c=ch)) M from vM A.qK _ M]at this
  rwa [A.cD]at this
 have hge:=zR (fun y=>!decide (y.c=ch)) M
 obtain⟨N,hN⟩:∃N,bl.length=N:=⟨_,rfl⟩
 have hlen:∀X,(bl.set b X).length=N:=fun X=>by simp[hN]
 rw[hN]at hmin hlt hltc hcr
 have htk:∀X,(bl.set b X).take N=bl.set b X:=fun X=>ac1 (by simp[hN])
 have htk0:bl.take N=bl:=ac1 (by omega)
 have hbN:decide (b<N)=true:=acp hlt
 have hroN:decide (ro≤b)=true:=acp hro
 have hroN2:decide (ro≤N)=true:=acp (by omega)
 have hg:∀X,(bl.set b X)[b]?=some X:=fun X=>acM (by omega)
 have hb1:decide (b+1≤N)=true:=acp hlt
 have hc1:decide (c+1≤N)=true:=acp hltc
 have hbN1:decide (b<N+1)=true:=acp (by omega)
 have hcd:decide (max (b+1) (c+1)≤N)=true:=acp (by omega)
 rcases Int.lt_or_le (eD (fun y=>!decide (y.c=ch)) M) 0 with hneg|hpos
 ·have hm1:eD (fun y=>!decide (y.c=ch)) M= -1:=by omega
  have hany:=D7 _ M hm1
  have hfil:M.filter (fun y=>decide (y.c=ch))=M:=by
   rw[List.filter_eq_self]
   intro y hy
   have:=List.any_eq_false.1 hany y hy
   simpa using this
  simp only[QD,go_sem,simprocAttr,hmin,hN,hidx,hm1,hfil,afe,aej,adn,hself,hbN,htk0]
 ·obtain⟨i0,hi0⟩:=aed hpos
  obtain⟨⟨y0,hy0,hp0⟩,hbef⟩:=tT _ M i0 hi0
  have hp0:decide (y0.c=ch)=false:=by simpa using hp0
  have hlt0:=(acm.1 hy0).1
  have hs0:=bE hlt0 hm
  obtain⟨d1,d2⟩:=zB (q:=fun y=>decide (y.c=ch)) (M:=M) (k:=i0) (by omega) (fun j y hj hy=>by simpa using hbef j y hj hy)
  have e1:oG (fun y=>decide (y.c=ch)) M (i0+1)=M:=by rw[xZ hy0 hp0,d1]
  have e2:pR (fun y=>decide (y.c=ch)) M (i0+1)=i0:=by rw[xL hy0 hp0,d2]
  have hne1:decide ((i0:Int)= -1)=false:=by rw[acx];omega
  simp only[QD,go_sem,simprocAttr,hmin,hN,hidx,hi0,hne1,hs0]
  refine ba (fun k=>([(0,.bn b 0 0 M.length),(1,.fn 32 [.ptr c 0 0 0]),(5,af5 (pR (fun y=>decide (y.c=ch)) M (i0+1+k))),(6,af5 ((i0+1+k:Nat):Int))],⟨bl.set b (.arr 0 4 (A.br (oG (fun y=>decide (y.c=ch)) M (i0+1+k))) ex),[],ro⟩)) (fun _=>True) (M.length-(i0+1)) ?_ trivial ?_
  ·simp only[go_sem,simprocAttr,e1,e2,hself,aez,hcd,hN,htk0]
  ·intro k hk _
   obtain⟨i,hi⟩:∃i,i0+1+k=i:=⟨_,rfl⟩
   have hi2:i0+1+(k+1)=i+1:=by omega
   have hi3:i0+(1+(k+1))=i+1:=by omega
   obtain⟨B,hB⟩:∃B,bl.set b (.arr 0 4 (A.br (oG (fun y=>decide (y.c=ch)) M i)) ex)=B:=⟨_,rfl⟩
   have hBN:B.length=N:=by rw[←hB];exact hlen _
   have hBb:B[b]?=some (.arr 0 4 (A.br (oG (fun y=>decide (y.c=ch)) M i)) ex):=by rw[←hB,acM (by omega)]
   have hBbl:∀l:List aC,(B++l)[b]?=some (.arr 0 4 (A.br (oG (fun y=>decide (y.c=ch)) M i)) ex):=fun l=>fm hBb
   have hBc:∀l:List aC,(B++l)[c]?=some (.box [af5 ch]):=fun l=>fm (by rw[←hB,acv (Ne.symm hne)];exact hcb)
   have hBs:∀X (l:List aC),(B++l).set b X=bl.set b X++l:=fun X l=>by rw[adZ _ _ (by omega),←hB,aeU]
   have hBs0:∀X,B.set b X=bl.set b X:=fun X=>by rw[←hB,aeU]
   have hBt:B.take N=B:=ac1 (by omega)
   have hBt1:∀l:List aC,(B++l).take N=B:=fun l=>by rw[aeC (by omega)];exact hBt
   have hXt1:∀X (l:List aC),(bl.set b X++l).take N=bl.set b X:=fun X l=>by rw[aeC (by rw[hlen];omega)];exact htk X
   rw[hi,hB]
   rcases acz i M.length with hltk|hgek
   ·obtain⟨y,hy⟩:=bO hltk
    have hw:=bE hltk hm
    have hrest:=xr (fun y=>decide (y.c=ch)) M i i (acH _)
    have h32:=fun X es ro=>Za (n+1) c ⟨B++[X],es,ro⟩ y ch (hBc _)
    have hkm:k<M.length-(i0+1):=by omega
    cases hp:decide (y.c=ch)with
    |false=>
     have f1:=xZ (q:=fun y=>decide (y.c=ch)) hy hp
     have f2:=xL (q:=fun y=>decide (y.c=ch)) hy hp
     simp only[go_sem,simprocAttr,aF,aE,aH,aG,az,aw,ax,ay,bj,aP,bg,aQ,aS,aR,aI,aO,aJ,aK,aA,ai,bM,bN,aco,acn,acD,hBN,hBb,hBbl,hltk,hrest,hy,hp,hw,n9 hBN,qj hBN,h32,hroN2,hBt,hBt1,hcd,hb1,hc1,hbN1,acW,hi2,hi3,f1,f2,hB]
     exact⟨hkm,by first|trivial|rfl,trivial⟩
    |true=>
     have f1:=uJ (q:=fun y=>decide (y.c=ch)) hy hp
     have f2:=uo (q:=fun y=>decide (y.c=ch)) hy hp
     have hle:=yM (fun y=>decide (y.c=ch)) M i
     have hltn:pR (fun y=>decide (y.c=ch)) M i<M.length:=by omega
     have hwn:=bE hltn hm
     obtain⟨z,hz⟩:=bO (l:=oG (fun y=>decide (y.c=ch)) M i) (i:=pR (fun y=>decide (y.c=ch)) M i) (by rw[oa];exact hltn)
     have ca:=Ci (oG (fun y=>decide (y.c=ch)) M i) (pR (fun y=>decide (y.c=ch)) M i) y
     simp only[go_sem,simprocAttr,aF,aE,aH,aG,az,aw,ax,ay,bj,aP,bg,aQ,aS,aR,aI,aO,aJ,aK,aA,ai,bM,bN,aco,acn,acD,hBN,hBb,hBbl,hltk,hrest,hy,hp,hw,hwn,hz,hltn,n9 hBN,qj hBN,h32,hroN2,hBt,hBt1,hXt1,hBs,hcd,hb1,hc1,hbN1,acW,hi2,hi3,f1,f2,ca,hroN,hbN,hlen]
     exact⟨hkm,by first|trivial|rfl,trivial⟩
   ·have hltk:¬i<M.length:=by omega
    have hkm:i=M.length:=by omega
    subst hkm
    have hj:pR (fun y=>decide (y.c=ch)) M M.length=(M.filter (fun y=>decide (y.c=ch))).length:=by simp[pR]
    have htw:=wo (fun y=>decide (y.c=ch)) M M.length
    rw[adF,hj]at htw
    have hjle:(M.filter (fun y=>decide (y.c=ch))).length≤M.length:=ae5 _ _
    have b1:decide (((M.filter (fun y=>decide (y.c=ch))).length:Int)≤(M.length:Int))=true:=acp (by omega)
    have b2:decide ((M.filter (fun y=>decide (y.c=ch))).length+(M.length-(M.filter (fun y=>decide (y.c=ch))).length)≤M.length)=true:=acp (by omega)
    have b3:(M.filter (fun y=>decide (y.c=ch))).length+(M.length-(M.filter (fun y=>decide (y.c=ch))).length)=M.length:=by omega
    have hcl:(A.br (oG (fun y=>decide (y.c=ch)) M M.length)).take (M.filter (fun y=>decide (y.c=ch))).length++List.replicate (M.length-(M.filter (fun y=>decide (y.c=ch))).length) [SV.int .i64 0,af6,af6,af6]++(A.br (oG (fun y=>decide (y.c=ch)) M M.length)).drop M.length=
     A.br (M.filter (fun y=>decide (y.c=ch))++List.replicate (M.length-(M.filter (fun y=>decide (y.c=ch))).length) UE):=by
     rw[A.oX,htw,aeb (by rw[A.cD,oa];exact acH _)]
     simp[A.br,UE]
    simp only[go_sem,simprocAttr,hBN,hBb,hltk,hj,aeL,b1,b2,b3,oa,hroN,hbN,hBs0,hcl,hlen,htk,hg,hN,ai]
theorem Um(n:Nat)(H:ab)(L:List A.Em)(f g:Bool)(hL:L.length≤maxLen):aa T (n+1) (.fn 19) [.ao 4 (A.br L) f,.ao 4 (A.br L) g] H=some (.bool true,H):=by
 refine ae YK (by rfl) ?_
 simp only[Zm,ah,go_sem,simprocAttr]
 refine ba (fun i=>([(0,.ao 4 (A.br L) f),(1,.ao 4 (A.br L) g),(12,af5 L.length),(13,af5 i)],⟨[],[],0⟩)) (fun _=>True) L.length ?_ trivial ?_
 ·simp only[go_sem,simprocAttr]<;>rfl
 ·intro i hi _
  rcases acz i L.length with hlt|hge
  ·obtain⟨r,hr⟩:=bO hlt
   have hw:=bE hlt hL
   simp only[go_sem,simprocAttr,hlt,hr,hw,decide_true,acW,adL]
   exact⟨by first|trivial|omega,by first|trivial|rfl,trivial⟩
  ·obtain rfl:i=L.length:=by omega
   have hd:decide (L.length<L.length)=false:=acs (by omega)
   simp only[go_sem,simprocAttr,hd]
def sg(K:List Int):List (SV×SV):=K.map fun k=>(af5 k,.bool true)
theorem Hy{k:Int}:∀{K:List Int} (i:Nat),k∈K→∃j,gT .i (af5 k) (sg K) i=some (some (j,.bool true))
 |[],_,h=>by cases h
 |q::K,i,h=>by
  simp only[sg,ada,qU,tI,adq]
  cases hd:decide (k=q)with
  |true=>exact⟨i,rfl⟩
  |false=>
   rcases adj.1 h with h1|h1
   ·exact absurd h1 (adi hd)
   ·exact Hy (K:=K) (i+1) h1
theorem yY{k:Int}:∀{K:List Int} (i:Nat),k∉K→gT .i (af5 k) (sg K) i=some none
 |[],_,_=>rfl
 |q::K,i,h=>by
  simp only[sg,ada,qU,tI,adq]
  rw[acs (fun e=>h (by rw[e];exact ac5))]
  exact yY (K:=K) (i+1) (fun h1=>h (ade _ h1))
theorem Bu{L:List A.Em}{q:Nat}{y:A.Em}(hy:L[q]?=some y):sg ((L.take q).map fun y=>y.n)++[(af5 y.n,.bool true)]=sg ((L.take (q+1)).map fun y=>y.n):=by
 rw[adP,hy]
 simp[sg]
def toE:List SV→A.Em
 |[.int _ a,.int _ b,.int _ c,.int _ d]=>⟨a,b,c,d⟩
 |_=>⟨0,0,0,0⟩
theorem X9(n id:Nat)(H:ab)(L:List A.Em)(f:Bool)(caps:List SV)(P:A.Em→Bool)(hL:L.length≤maxLen)(hr:SV.refs.av caps≤H.bl.length)(h0:SV.refs.av caps≠0)
 (hc:∀z ro,aa T n (.fn id) (.agg (A.qK z)::caps) ⟨H.bl,[],ro⟩=some (.bool (P z),⟨H.bl,[],ro⟩)) :
 aa T (n+2) (.fn 15) [.ao 4 (A.br L) f,.fn id caps] H=some (.bool (L.any P),H):=by
 have h:=iC (T:=T) (f:=15) (n:=n) (H:=H) (ag:=true) (z:=4) (id:=id) (caps:=caps) (v:=.ao 4 (A.br L) f) (L:=A.br L) (p:=fun r=>P (toE r)) Yz WQ (.ao 4 f (.inl rfl)) (xP L) (fun h=>by cases h) (by rw[A.cD];exact hL)
  (fun r hr bl ro hbl=>by
   simp only[A.br,adt]at hr
   obtain⟨y,_,rfl⟩:=hr
   rcases hbl with⟨_,_,h1⟩|rfl
   ·exact absurd h1 h0
   ·exact hc y ro) hr
 rw[h,A.br,af1]
 rfl
def Ct(r:Rs)(y z:A.Em):Bool:=decide (z.n=r.s)&&(decide (bb (z.y+1000)=y.x)&&decide (z.c=y.c))
theorem s16(n b1 b2:Nat)(H:ab)(r:Rs)(y z:A.Em)(h1:H.bl[b1]?=some (.box (CW r)))(h2:H.bl[b2]?=some (.box (A.qK y))) :
 aa T (n+1) (.fn 16) [.agg (A.qK z),.ptr b1 0 0 0,.ptr b2 0 0 0] H=some (.bool (Ct r y z),H):=by
 refine de e16 rfl rfl (fun R k bl ro r' hbl hk=>?_)
 obtain rfl:bl=H.bl:=by
  rcases hbl with⟨rfl,h0⟩|rfl
  ·simp[SV.refs.av,SV.refs]at h0
  ·rfl
 have hB1:∀l:List aC,(H.bl++l)[b1]?=some (.box (CW r)):=fun l=>fm h1
 have hB2:∀l:List aC,(H.bl++l)[b2]?=some (.box (A.qK y)):=fun l=>fm h2
 unfold Ct at hk
 cases d1:decide (z.n=r.s)with
 |false=>
  rw[d1]at hk
  simp only[QE,aF,aE,aH,aG,az,aw,ax,ay,bj,aP,bg,aQ,aS,aR,aI,aO,aJ,aK,aA,ai,bM,bN,aco,acn,acD,go_sem,simprocAttr,h1,h2,hB1,hB2,d1]
  exact hk _
 |true=>
  rw[d1]at hk
  cases d2:decide (bb (z.y+1000)=y.x)with
  |false=>
   rw[d2]at hk
   simp only[QE,aF,aE,aH,aG,az,aw,ax,ay,bj,aP,bg,aQ,aS,aR,aI,aO,aJ,aK,aA,ai,bM,bN,aco,acn,acD,go_sem,simprocAttr,h1,h2,hB1,hB2,d1,d2]
   exact hk _
  |true=>
   rw[d2]at hk
   simp only[QE,aF,aE,aH,aG,az,aw,ax,ay,bj,aP,bg,aQ,aS,aR,aI,aO,aJ,aK,aA,ai,bM,bN,aco,acn,acD,go_sem,simprocAttr,h1,h2,hB1,hB2,d1,d2]
   exact hk _
theorem D2(rec:Rec)(e:Env)(H:ab)(N o:Nat)(t:LK)(ok:Bool)(z:SV)(x k:bX):b9 rec N ⟨.j6,[],0,o⟩ e H (.kD t ok z x k)=au rec e H (.kD t ok z x k):=by
 show(jR t ok z ⟨H.bl,[],H.bl.length⟩ (ev e k) (ev e x)).bind _=jR t ok z H (ev e k) (ev e x)
 cases ev e x with
 |mp b=>
  simp only[jR]
  rw[show bk ⟨H.bl,[],H.bl.length⟩ b=bk H b from rfl]
  cases bk H b with
  |none=>rfl
  |some B=>
   cases B with
   |map es=>
    simp only
    cases isKey (ev e k)with
    |false=>rfl
    |true=>
     simp only[acG]
     cases gT t (ev e k) es 0 with
     |none=>rfl
     |some r=>simp
   |_=>rfl
 |_=>rfl
theorem u6{f:Fi}{hb:Bd f}{s:Int}{Z:List Ac}(h:(aW f s Z Z.length).isEmpty=true):(cS f hb s Z).L=[]:=by
 have hnil:=List.isEmpty_iff.1 h
 unfold cS;rw[hnil];rfl
theorem s3(f:Fi)(s:Int)(Z:List Ac)(fl:Bool)(hS:f.S.length≤maxLen)(hZ:Z.length≤maxLen)(hq:Bq f):aa T 61 (.fn 3) [.agg (By f s Z fl)] ah=some (.bool true,ah):=by
 have h10:=fun H=>Rb H
 have h12:=fun H=>RJ 56 H f s Z fl hS hZ
 refine ae e3 (by rfl) ?_
 rcases GP f hq s Z fl hZ with⟨e,he,h11⟩|⟨h0,hp,h32,hb,h11⟩
 ·have h11:=fun H=>h11 0 H
  simp only[adr]at h11
  cases hf:oT f&&lD Z<;>rw[hf]at h12<;>simp only[c3,ah,go_sem,simprocAttr,h10,h12,h11,he]
 ·have h11:=fun H=>h11 0 H
  simp only[adr]at h11
  have lR:=rj f hb s Z
  obtain⟨zz,ff,hlv,h4⟩:∃zz ff,(bif (aW f s Z Z.length).isEmpty then SV.ao 0 [] true else .ao 4 (A.br (cS f hb s Z).L) false)=.ao zz (A.br (cS f hb s Z).L) ff∧((cS f hb s Z).L.length≠0→zz=4∧ff=false):=by
   cases hn:(aW f s Z Z.length).isEmpty with
   |true=>rw[u6 hn];exact⟨0,true,rfl,fun h=>absurd rfl h⟩
   |false=>exact⟨4,false,rfl,fun _=>⟨rfl,rfl⟩⟩
  rw[hlv]at h11
  have hem:=fun q y (h:(cS f hb s Z).L[q]?=some y)=>Dw h0 hp h
  have hnd:=fun q y (h:(cS f hb s Z).L[q]?=some y)=>F7 h0 hp h
  have hwho:=fun i a r (h1:Z[i]?=some a) (h2:(fe f hb s Z)[i]?=some r)=>Ks h0 hp h1 h2
  have hinj:∀{q q':Nat} {y y':A.Em},(cS f hb s Z).L[q]?=some y→(cS f hb s Z).L[q']?=some y'→y.n=y'.n→q=q':=by
   obtain⟨D,Y,g⟩:=inv f hb s Z
   exact fun h1 h2 h3=>yD g h1 h2 h3
  have lL:=yA f hb s Z (by omega)
  obtain⟨R,hR⟩:∃R,fe f hb s Z=R:=⟨_,rfl⟩
  obtain⟨L,hL⟩:∃L,(cS f hb s Z).L=L:=⟨_,rfl⟩
  rw[hR]at h11 lR hem hwho
  rw[hL]at h11 h4 hem hnd hwho lL
  simp only[hL]at hinj
  cases hf:oT f&&lD Z with
  |false=>
   rw[hf]at h12
   cases z1:decide ((Z.length:Int)=0)<;>cases z2:decide ((L.length:Int)=0)<;>simp only[c3,ah,go_sem,simprocAttr,h10,h12,h11,j7,A.cD,lR,z1,z2]
  |true=>
   rw[hf]at h12
   have hkd:f.K.length=Z.length:=(cF h0).2.1.symm
   simp only[c3,ah,go_sem,simprocAttr,h10,h12,h11,j7,A.cD,lR,G.aM,hkd,decide_true]
   have hRi:∀{i:Nat} {r:Rs},R[i]?=some r→i<R.length:=fun h=>(acm.1 h).1
   refine ba (fun q=>([(1,.ptr 0 0 0 0),(3,.ao 15 (kC R) true),(4,.ao zz (A.br L) ff),(6,.mp 1),(70,.ao zz (A.br L) ff),(71,af5 L.length),(72,af5 q)],⟨[.box (By f s Z fl),.map (sg ((L.take q).map fun y=>y.n))],[],0⟩)) (fun _=>True) L.length ?_ trivial ?_
   ·simp only[go_sem,simprocAttr]<;>rfl
   ·intro q hi _
    rcases acz q L.length with hlt|hge
    ·obtain⟨rfl,rfl⟩:=h4 (by omega)
     obtain⟨y,hy⟩:=bO hlt
     have hw:=bE hlt (ac7 lL (by decide))
     obtain⟨n0,n1⟩:=hnd q y hy
     obtain⟨j,hj⟩:∃j:Nat,y.n=(j:Int):=⟨y.n.toNat,by omega⟩
     have hjl:j<Z.length:=by omega
     have hjR:j<R.length:=by omega
     have hjK:j<f.K.length:=by omega
     have d1:decide ((j:Int)<0)=false:=acs (by omega)
     have d2:decide ((Z.length:Int)≤(j:Int))=false:=acs (by omega)
     have hfr:(j:Int)∉(L.take q).map fun y=>y.n:=fun h=>by
      obtain⟨y',h1,h2⟩:=adt.1 h
      obtain⟨q',hq'⟩:=ac4 h1
      rw[acX]at hq'
      split at hq'
      ·have:=hinj hq' hy (by rw[hj];exact h2)
       omega
      ·cases hq'
     have hm:=yY 0 hfr
     have hsn:=Bu hy
     rw[hj]at hsn
     obtain⟨p,hpj⟩:=bO hjK
     have hck:=J8 hpj
     have h13:=fun H=>Z0 55 H p.1 p.2 s
     rcases hem q y hy with⟨j',a,e1,e2,e3,e4,e5⟩|⟨i,b,r,e1,e2,e3,e4,e5,e6,e7,z,e8,e9,BW,xG⟩
     ·have hjj:j'=j:=by
       have:y.n=(j':Int):=by rw[e3];rfl
       omega
      subst hjj
      rw[hck]at e4
      have ex:y.x=nn p.1 p.2 s:=by rw[e3,←hck];rfl
      have ey:y.y=bb (nn p.1 p.2 s+BU a):=by rw[e3,←hck];rfl
      have h14:=fun H=>s14 54 H a
      rw[e5]at h14
      rw[e4]at h13
      simp only[go_sem,simprocAttr,hlt,hjl,hjR,hjK,hy,hj,d1,d2,hm,yd,hsn,e1,e2,j7,A.cD,lR,G.aM,hkd,hpj,h13,h14,ex,ey,hw,decide_true]
      exact⟨by first|trivial|omega,by first|trivial|rfl,trivial⟩
     ·have hjj:i=j:=by omega
      subst hjj
      have hany:(L.any (Ct r y))=true:=adT.2 ⟨z,e8,by unfold Ct;rw[acp e9,acp BW,acp xG];rfl⟩
      have k2:=acQ e2
      have d3:decide (b.kd=1)=false:=acs (by omega)
      have h15:=fun X M B ro=>X9 58 16 ⟨[X,M,.box (A.qK y),B,.box (CW r)],[],ro⟩ L false [.ptr 4 0 0 0,.ptr 2 0 0 0] (Ct r y) (ac7 lL (by decide)) (by simp[SV.refs.av,SV.refs]) (by simp[SV.refs.av,SV.refs]) (fun z ro=>s16 57 4 2 _ r y z rfl rfl)
      rw[hany]at h15
      obtain⟨yn,yc,yx,yy⟩:=y
      obtain⟨ak,hd,rk,rs,rd,rq,ro,rc,rm,re,rt,ru,rv,rx,er⟩:=r
      simp only at e3 e5 e6 e7 hj
      subst e3 e5 e6
      simp only[go_sem,simprocAttr,hlt,hjl,hjR,hjK,hy,d1,d2,d3,hm,yd,hsn,e1,e2,e4,j7,A.cD,lR,h15,e7,hw,decide_true,adp]
      exact⟨by first|trivial|omega,by first|trivial|rfl,trivial⟩
    ·obtain rfl:q=L.length:=by omega
     have hlt:¬L.length<L.length:=by omega
     rw[adF]
     simp only[go_sem,simprocAttr,hlt]
     refine ba (fun i=>([(3,.ao 15 (kC R) true),(6,.mp 1),(180,.ao 14 (ic Z) fl),(181,af5 Z.length),(182,af5 i)],⟨[.box (By f s Z fl),.map (sg (L.map fun y=>y.n))],[],0⟩)) (fun _=>True) Z.length ?_ trivial ?_
     ·simp only[go_sem,simprocAttr]<;>rfl
     ·intro i hi _
      rcases acz i Z.length with hlt|hge
      ·obtain⟨a,ha⟩:=bO hlt
       obtain⟨r,hr⟩:=bO (l:=R) (i:=i) (by omega)
       have hiR:i<R.length:=by omega
       have hw:=bE hlt hZ
       have hwi:=hwho i a r ha hr
       obtain⟨B,hmf,hB⟩:∃B:Option (Nat×SV),gT .i (af5 (i:Int)) (sg (L.map fun y=>y.n)) 0=some B∧((∃j,B=some (j,.bool true))∧decide ((i:Int)∈L.map fun y=>y.n)=true∨B=none∧decide ((i:Int)∈L.map fun y=>y.n)=false):=by
        cases hm:decide ((i:Int)∈L.map fun y=>y.n)with
        |true=>obtain⟨j,hj⟩:=Hy 0 (acQ hm);exact⟨_,hj,.inl ⟨⟨j,rfl⟩,rfl⟩⟩
        |false=>exact⟨_,yY 0 (adi hm),.inr ⟨rfl,rfl⟩⟩
       rcases hB with⟨⟨jj,rfl⟩,hm⟩|⟨rfl,hm⟩<;>cases c1:decide (a.kd=1)<;>cases c2:r.hd<;>cases c3:decide (r.d=(i:Int))<;>rw[hm,c1,c2,c3]at hwi
       all_goals first
        |exact absurd hwi (by decide)
        |(simp only[go_sem,simprocAttr,hlt,hiR,ha,hr,hmf,hw,c1,c2,c3,D2,vY,xi]
          exact⟨by first|trivial|omega,by first|trivial|rfl,trivial⟩)
      ·obtain rfl:i=Z.length:=by omega
       have hlt:¬Z.length<Z.length:=by omega
       simp only[go_sem,simprocAttr,hlt]
theorem Ts(n:Nat)(Z:List Ac)(fl:Bool)(h0:0<Z.length)(h:Z.length≤1000)(bl:List aC)(es:List (Nat×Nat))(ro:Nat) :
 aa T (n+1) (.se 28) [.ao 14 (ic Z) fl] ⟨bl,es,ro⟩=some (.bn bl.length 0 0 Z.length,⟨bl++[.arr 0 14 (ic Z) false],es,ro⟩):=by
 refine eJ Z1 ?_
 cases Z with
 |nil=>simp at h0
 |cons a Z=>
  have hbb:decide ((Z.length+1)*120≤bV)=true:=acp (ac7 (show(Z.length+1)*120≤1000000 by simp at h;omega) (by decide))
  have hc:ic (a::Z)=zT a::ic Z:=rfl
  rw[hc]
  simp only[Yr,go_sem,simprocAttr,hbb,acR,nD]
def jx(o:Int)(Z:List Ac)(i:Nat):List Ac:=ec o (Z.take i)++Z.drop i
theorem nL(o:Int)(Z:List Ac)(i:Nat):(jx o Z i).length=Z.length:=by
 simp[jx,ec];omega
theorem wW{o:Int}{Z:List Ac}{i:Nat}(hi:i<Z.length):(jx o Z i)[i]?=Z[i]?:=by
 have hl:(ec o (Z.take i)).length=i:=by rw[df,adA];omega
 unfold jx
 rw[adf (by omega),hl,afe,ado,ad9]
theorem Bj(o:Int)(Z:List Ac):jx o Z 0=Z:=by simp[jx,ec]
theorem EA(o:Int)(Z:List Ac):jx o Z Z.length=ec o Z:=by simp[jx]
theorem tO{o:Int}{Z:List Ac}{i:Nat}{a:Ac}(ha:Z[i]?=some a):jx o Z (i+1)=(jx o Z i).set i (bif decide (a.of=o)then a else Dj):=by
 obtain⟨hi,h2⟩:=acm.1 ha
 have hl:(ec o (Z.take i)).length=i:=by rw[df,adA];omega
 unfold jx
 rw[afA _ _ (by omega),hl,afe,ad1 hi,h2,afL,adP,ha]
 simp[ec]
theorem Ev{o:Int}{Z:List Ac}{i:Nat}{a:Ac}(ha:Z[i]?=some a)(h:decide (a.of=o)=true):jx o Z (i+1)=jx o Z i:=by
 rw[tO ha,h]
 have hg:=wW (o:=o) (acm.1 ha).1
 rw[ha]at hg
 obtain⟨h1,h2⟩:=acm.1 hg
 show(jx o Z i).set i a=_
 rw[←h2];simp
theorem F9(L:List Ac)(i:Nat)(a:Ac):(ic L).set i (zT a)=ic (L.set i a):=by simp[ic,afO]
theorem BC(L:List A.Em):SV.refs.av (A.br L).flatten=0:=jw (fun cs hcs c hc=>by
 simp only[A.br,adt]at hcs
 obtain⟨a,_,rfl⟩:=hcs
 simp only[A.qK,adj,afY,or_false]at hc
 rcases hc with rfl|rfl|rfl|rfl<;>rfl)
theorem Ut(B1 B2 B3:aC)(W E:List A.Em)(ex:Bool)(es:List (Nat×Nat)):tZ ⟨[B1,B2,B3,.arr 0 4 (A.br (W++E)) ex],es,0⟩ (.bn 3 0 0 W.length)=some (.ao 4 (A.br W) false,⟨[B1,B2,B3,.dead],es,0⟩):=by
 have e1:((A.br (W++E)).drop 0).take W.length=A.br W:=by rw[aev,A.oX,afu]
 have e2:decide (0+W.length≤(A.br (W++E)).length)=true:=acp (by rw[A.cD];simp)
 have hg:bk ⟨[B1,B2,B3,.arr 0 4 (A.br (W++E)) ex],es,0⟩ 3=some (.arr 0 4 (A.br (W++E)) ex):=rfl
 simp only[tZ,hg,e1,e2,BC,adL,acW,acG]
 rfl
theorem TM(n:Nat)(H:ab):aa T (n+1) (.fn 19) [.ao 4 [] false,.ao 0 [] true] H=some (.bool true,H):=fG YK (by rfl) (im (T:=T) 100 (n+1) (.fn 19) [.ao 4 [] false,.ao 0 [] true] ah (.bool true,ah) (by kernel_rfl))
theorem s8(f:Fi)(s:Int)(Z:List Ac)(fl:Bool)(w:Nat)(hw:w<256)(hS:f.S.length≤maxLen)(hZ:Z.length≤maxLen)(hq:Bq f):aa T 61 (.fn 8) [.agg (By f s Z fl),.int .u8 w] ah=some (.bool true,ah):=by
 have h10:=fun H=>Rb H
 have h12:=fun H=>RJ 56 H f s Z fl hS hZ
 refine ae e8 (by rfl) ?_
 rcases GP f hq s Z fl hZ with⟨e,he,h11⟩|⟨h0,hp,h32,hb,h11⟩
 ·have h11:=fun H=>h11 0 H
  simp only[adr]at h11
  cases hf:oT f&&lD Z<;>rw[hf]at h12<;>simp only[c8,ah,go_sem,simprocAttr,h10,h12,h11,he]
 ·have h11:=fun H=>h11 0 H
  simp only[adr]at h11
  cases hf:oT f&&lD Z with
  |false=>rw[hf]at h12;simp only[c8,ah,go_sem,simprocAttr,h10,h12,h11]
  |true=>
   obtain⟨hC,hA4,hx⟩:=qw hf
   rw[hf]at h12
   have lR:=rj f hb s Z
   have lL:=yA f hb s Z (by omega)
   obtain⟨g1,g2,g3,g4⟩:=cF h0
   obtain⟨l1,l2,l3⟩:=iW g1
   have hCpos:0<f.C.length:=by
    unfold okF at g1
    simp only[acw]at g1
    exact fN.rI (fN.jJ g1.2).2.2.2.2
   have hc0:decide ((f.C.length:Int)=0)=false:=acs (by omega)
   have i3:IntKind.i64.wrap (w:Int)=(w:Int):=al (by omega) (by omega)
   obtain⟨o,ho⟩:∃o,w%f.C.length=o:=⟨_,rfl⟩
   have hol:o<f.C.length:=by rw[←ho];exact afo _ hCpos
   have m1:(w:Int).tmod (f.C.length:Int)=(o:Int):=by rw[adY (by omega),←ho];rfl
   have mo:bb (o:Int)=(o:Int):=al (by omega) (by omega)
   have hfin:=fun i a (h:Z[i]?=some a)=>EO (hb:=hb) h0 hp (o:=o) (by omega) (by omega) h
   have hgame:=tk (hb:=hb) h0 hp (o:=(o:Int)) (by omega) (by omega)
   have h11':=fun H=>Ma 0 H f hb s (ec o Z) false (by rw[df];omega)
   unfold Rr Cv at h11'
   rw[ua h0,u5 hp]at h11'
   simp only[decide_true,acG,acJ,adr]at h11'
   have lR':=rj f hb s (ec o Z)
   rw[df]at lR'
   obtain⟨zz,ff,hlv,h4⟩:∃zz ff,(bif (aW f s Z Z.length).isEmpty then SV.ao 0 [] true else .ao 4 (A.br (cS f hb s Z).L) false)=.ao zz (A.br (cS f hb s Z).L) ff∧(zz=4∨A.br (cS f hb s Z).L=[]):=by
    cases hn:(aW f s Z Z.length).isEmpty with
    |true=>rw[u6 hn];exact⟨0,true,rfl,.inr rfl⟩
    |false=>exact⟨4,false,rfl,.inl rfl⟩
   rw[hlv]at h11
   obtain⟨lw,hlw⟩:∃lw,(bif (aW f s (ec o Z) (ec o Z).length).isEmpty then SV.ao 0 [] true else .ao 4 (A.br (cS f hb s (ec o Z)).L) false)=lw:=⟨_,rfl⟩
   rw[hlw]at h11'
   have hlwr:lw.refs=0:=by rw[←hlw];cases(aW f s (ec o Z) (ec o Z).length).isEmpty<;>rfl
   have h19:∀H,aa T 60 (.fn 19) [.ao 4 (A.br ((cS f hb s Z).L.filter fun y=>decide (y.c=Bf f s o))) false,lw] H=some (.bool true,H):=fun H=>by
    rw[←hgame.L,←hlw]
    cases hn:(aW f s (ec o Z) (ec o Z).length).isEmpty with
    |true=>rw[u6 hn];exact TM 59 H
    |false=>
     refine Um 59 H _ false false ?_
     rw[hgame.L]
     exact ac7 (ae5 _ _) (ac7 lL (by decide))
   obtain⟨R,hR⟩:∃R,fe f hb s Z=R:=⟨_,rfl⟩
   obtain⟨R',hR'⟩:∃R',fe f hb s (ec o Z)=R':=⟨_,rfl⟩
   obtain⟨L,hL⟩:∃L,(cS f hb s Z).L=L:=⟨_,rfl⟩
   have hsl:=fun i b (h:Z[i]?=some b) hk=>Ec (hb:=hb) (s:=s) h hk
   rw[hR]at h11 lR hfin hsl
   rw[hR']at h11' lR' hfin
   rw[hL]at h11 h4 lL h19
   have h28:=fun bl es ro=>Ts 59 Z fl (by omega) (by omega) bl es ro
   simp only[c8,ah,go_sem,simprocAttr,h10,h12,h11,j7,lR,hc0,i3,m1,ho,mo,h28]
   have hst:∀i,List.length (ic (jx o Z i))=Z.length:=fun i=>by rw[nD,nL]
   refine ba (fun i=>([(2,.ptr 0 0 0 0),(5,.ao 15 (kC R) true),(6,.ao zz (A.br L) ff),(8,af5 o),(9,.bn 1 0 0 Z.length),(74,af5 Z.length),(75,af5 i)],⟨[.box (By f s Z fl),.arr 0 14 (ic (jx o Z i)) false],[],0⟩)) (fun _=>True) Z.length ?_ trivial ?_
   ·rw[Bj]
    simp only[go_sem,simprocAttr]<;>rfl
   ·intro i hi _
    rcases acz i Z.length with hlt|hge
    ·obtain⟨a,ha⟩:=bO hlt
     have hcg:(jx o Z i)[i]?=some a:=by rw[wW hlt,ha]
     have hw:=bE hlt hZ
     have hil:i<(jx o Z i).length:=by rw[nL];exact hlt
     cases hd:decide (a.of=(o:Int))with
     |true=>
      have hy:=Ev ha hd
      simp only[go_sem,simprocAttr,hlt,hil,nL,hcg,hd,hw,hy]
      exact⟨by first|trivial|omega,by first|trivial|rfl,trivial⟩
     |false=>
      have hy:=tO (o:=(o:Int)) ha
      rw[hd]at hy
      have ca:(ic (jx o Z i)).set i [af6,af6,af6,af6,af6,af6,af6,af6,af6,af6,af6,af6,af6,.str ⟨⟨[]⟩⟩]=ic (jx o Z (i+1)):=by
       rw[hy];exact F9 _ _ Dj
      simp only[go_sem,simprocAttr,hlt,hil,nL,hcg,hd,hw,ca]
      exact⟨by first|trivial|omega,by first|trivial|rfl,trivial⟩
    ·obtain rfl:i=Z.length:=by omega
     have hlt:¬Z.length<Z.length:=by omega
     have hfz:=fun B ex es=>HP B (ec o Z) ex Z.length (df _ _) es
     rw[EA]
     simp only[go_sem,simprocAttr,hlt,hfz,h11',j7,lR,lR',decide_true]
     refine ba (fun i=>([(2,.ptr 0 0 0 0),(5,.ao 15 (kC R) true),(6,.ao zz (A.br L) ff),(8,af5 o),(9,.ao 14 (ic (ec o Z)) false),(11,.ao 15 (kC R') true),(12,lw),(110,.ao 14 (ic Z) fl),(111,af5 Z.length),(112,af5 i)],⟨[.box (By f s Z fl),.dead],[],0⟩)) (fun _=>True) Z.length ?_ trivial ?_
     ·simp only[go_sem,simprocAttr,hlwr]<;>rfl
     ·intro i hi _
      rcases acz i Z.length with hlt|hge
      ·obtain⟨a,ha⟩:=bO hlt
       obtain⟨r,hr⟩:=bO (l:=R) (i:=i) (by omega)
       have hiR:i<R.length:=by omega
       have hiR':i<R'.length:=by omega
       have hiO:i<(ec (o:Int) Z).length:=by rw[df];exact hlt
       have hw:=bE hlt hZ
       have hf1:=hfin i a ha
       cases hd:decide (a.of=(o:Int))with
       |true=>
        have hd':=acQ hd
        rw[if_pos hd',hr]at hf1
        have hon:=nY (o:=(o:Int)) ha hd'
        cases hk:decide (a.kd=0)with
        |true=>
         have hz0:=hsl i a ha (acQ hk)
         rw[hr]at hz0
         cases hz0
         simp only[go_sem,simprocAttr,hlt,hiR,hiR',hiO,ha,hr,hf1,hon,hd,hk,hw,hlwr,df,mj,decide_true,acW,adp,adU]
         exact⟨by first|trivial|omega,by first|trivial|rfl,trivial⟩
        |false=>
         simp only[go_sem,simprocAttr,hlt,hiR,hiR',hiO,ha,hr,hf1,hon,hd,hk,hw,hlwr,df,decide_true,acW,adp,adU,adL]
         exact⟨by first|trivial|omega,by first|trivial|rfl,trivial⟩
       |false=>
        have hd':=adi hd
        rw[if_neg hd']at hf1
        have hon:=u0 (o:=(o:Int)) ha hd'
        cases hk:decide (a.kd=0)with
        |true=>
         simp only[go_sem,simprocAttr,hlt,hiR,hiR',hiO,ha,hr,hf1,hon,hd,hk,hw,hlwr,df,mj,Dj,decide_true,acW,adp,adU]
         exact⟨by first|trivial|omega,by first|trivial|rfl,trivial⟩
        |false=>
         simp only[go_sem,simprocAttr,hlt,hiR,hiR',hiO,ha,hr,hf1,hon,hd,hk,hw,hlwr,df,mj,Dj,decide_true,acW,adp,adU]
         exact⟨by first|trivial|omega,by first|trivial|rfl,trivial⟩
      ·obtain rfl:i=Z.length:=by omega
       have hlt:¬Z.length<Z.length:=by omega
       have h29:=fun H=>fN.s29 56 H f.v f.a f.b f.C f.h2 s o hb.C
       rw[(yB h0 (o:=(o:Int)) (by omega) (by omega)).1]at h29
       have h31:=fun bl es ro=>ub (T:=T) (f:=31) (n:=59) (z:=4) (z':=zz) (by_:=32) (L:=A.br L) (fl:=ff) A.Z2 h4 (by rw[A.cD];exact ac7 (show L.length*32≤100000 by omega) (by decide)) bl es ro
       obtain⟨W,hW,h30⟩:=s30 57 (M:=L) (ch:=Bf f s o) (bl:=[.box (By f s Z fl),.dead,.box [af5 (Bf f s o)],.arr 0 4 (A.br L) false]) (ro:=0) (b:=3) (c:=2) (ex:=false) rfl (by omega) (ac7 lL (by decide)) rfl (by omega)
       rw[←hW]at h19
       have hfz:=fun B1 B2 B3 E ex es=>Ut B1 B2 B3 W E ex es
       simp only[go_sem,simprocAttr,hlt,h29,h31,h30,hfz,h19,A.cD]
theorem Yc(xs:List SV)(h:iY [KE,(false,[.int .u8])] xs):∃m,aa T m (.fn 8) xs ah=some (.bool true,ah):=by
 obtain⟨x1,r1,rfl,h1,h⟩:=eS h
 obtain⟨x2,r2,rfl,h2,h⟩:=eS h
 cases px h
 obtain⟨f,s,A,fl,rfl,hS,hA,hb⟩:=DC h1
 obtain⟨x,rfl,hx⟩:=fits_int (mf h2)
 simp only[Lit.wf,acw,acr]at hx
 have q1:IntKind.u8.min=0:=rfl
 have q2:IntKind.u8.max=255:=rfl
 obtain⟨w,rfl⟩:∃w:Nat,x=(w:Int):=⟨x.toNat,by omega⟩
 exact⟨61,s8 f s A fl w (by omega) hS hA hb⟩
end Go.Sh
