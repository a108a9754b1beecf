/- A part of the proof: texts Ktgg, Ktgh, Ktgi, Ktgj, Ktgk, Ktgl. -/
import Derived.Test.YtlkjiffohmkidaaGreatB7
namespace Go.Sh
set_option linter.unusedSectionVars false
set_option linter.unnecessarySimpa false
set_option linter.unusedSimpArgs false
set_option linter.unusedVariables false
set_option maxRecDepth 100000
set_option maxHeartbeats 4000000
namespace K
def tA(P:List Int)(i:Nat):Nat→Int
 |0=>i
 |j+1=>P.getD (tA P i j).toNat 0
def bL(P:List Int):Nat→Int→Option Nat
 |0,_=>none
 |f+1,a=>bif decide (a=0)then some 0 else bif decide (P.getD a.toNat 0<0)||decide ((P.length:Int)≤P.getD a.toNat 0)then none else(bL P f (P.getD a.toNat 0)).map (· +1)
theorem eI(P:List Int)(f:Nat)(a:Int):bL P (f+1) a=bif decide (a=0)then some 0 else bif decide (P.getD a.toNat 0<0)||decide ((P.length:Int)≤P.getD a.toNat 0)then none else(bL P f (P.getD a.toNat 0)).map (· +1):=rfl
theorem lG{P:List Int}:∀{f:Nat} {a:Int} {d:Nat},bL P f a=some d→d<f
 |0,_,_,h=>by cases h
 |f+1,a,d,h=>by
  unfold bL at h
  cases h1:decide (a=0)with
  |true=>rw[h1]at h;cases h;omega
  |false=>
   rw[h1]at h
   simp only[Dw]at h
   cases h2:(decide (P.getD a.toNat 0<0)||decide ((P.length:Int)≤P.getD a.toNat 0))with
   |true=>rw[h2]at h;cases h
   |false=>
    rw[h2]at h
    simp only[Dw,C5]at h
    obtain⟨e,h3,rfl⟩:=h
    have:=lG h3
    omega
theorem js{P:List Int}:∀{f:Nat} {a:Int} {d:Nat},bL P f a=some d→bL P (f+1) a=some d
 |0,_,_,h=>by cases h
 |f+1,a,d,h=>by
  unfold bL at h⊢
  cases h1:decide (a=0)with
  |true=>rw[h1]at h;exact h
  |false=>
   rw[h1]at h
   simp only[Dw]at h⊢
   cases h2:(decide (P.getD a.toNat 0<0)||decide ((P.length:Int)≤P.getD a.toNat 0))with
   |true=>rw[h2]at h;cases h
   |false=>
    rw[h2]at h
    simp only[Dw,C5]at h⊢
    obtain⟨e,h3,rfl⟩:=h
    exact⟨e,js h3,rfl⟩
def tV(P:List Int)(k:Nat):Int:=(((bL P P.length (k:Nat)).getD 0:Nat):Int)
def ml(P:List Int)(i:Nat):List Int:=((List.range i).map (tV P))++List.replicate (P.length-i) 0
theorem tU{P:List Int}{i:Nat}(h:i≤P.length):(ml P i).length=P.length:=by simp[ml];omega
theorem u7{P:List Int}{i:Nat}(h:i<P.length):(ml P i)[i]?=some 0:=by
 unfold ml
 rw[Ek (by simp),FP,Fw,FI,EJ,if_pos (by omega)]
theorem qM{P:List Int}{i:Nat}(h:i<P.length):(ml P i).set i 0=ml P i:=by
 obtain⟨h1,h2⟩:=C7.1 (u7 h)
 have:=List.set_getElem_self h1
 rwa [h2]at this
theorem rX{P:List Int}{i:Nat}(h:i<P.length):(ml P i).set i (tV P i)=ml P (i+1):=by
 unfold ml
 rw[FB _ _ (by simp),FP,Fw,FI,show P.length-i=(P.length-(i+1))+1 by omega,E1,FH,List.range_succ,FR,C9]
 rfl
theorem tS(P:List Int):ml P P.length=(List.range P.length).map (tV P):=by simp[ml]
theorem qR(P:List Int):iS (ml P 0)=List.replicate P.length [FW]:=by simp[ml,iS]
theorem fA(L:List Int)(i:Nat)(x:Int):(iS L).set i [FV x]=iS (L.set i x):=by simp[iS,List.map_set]
theorem Bn(n:Nat)(hn:n≤1000)(H:ab):jY 1 [FW] 8 H (FV n) (FV n)=some (.bt H.bl.length 0 0 n,aZ H (.arr 0 1 (List.replicate n [FW]) true)):=by
 have h1:decide ((n:Int)*((8:Nat):Int)≤(bW:Int))=true:=Dj (by have:(bW:Int)=1099511627776:=rfl;omega)
 have h2:decide ((0:Int)≤(n:Int))=true:=Dj (by omega)
 have h3:decide ((n:Int)≤(n:Int))=true:=Dj (by omega)
 simp only[jY,h1,h2,h3,D6,Du,EA]
def gF(P:List Int):Bool:=decide (P.getD 0 0= -1)&&(List.range P.length).all fun k=>(bL P P.length (k:Nat)).isSome
def n8(P:List Int):SV:=bif gF P then .cG [.aP 1 (iS ((List.range P.length).map (tV P))) true,FW]else .cG [.aP 0 [] true,FV 1]
theorem uf{P:List Int}{i:Nat}(hi:i<P.length)(h:bL P P.length (i:Nat)=none):gF P=false:=by
 unfold gF
 have:((List.range P.length).all fun k=>(bL P P.length (k:Nat)).isSome)=false:=by
  rw[List.all_eq_false]
  exact⟨i,Dn.2 hi,by rw[h];simp⟩
 rw[this,Eb]
theorem s7(n:Nat)(H:ab)(P:List Int)(fl:Bool)(h1:1≤P.length)(h32:P.length≤32):aI T (n+1) (.fn 7) [.aP 1 (iS P) fl] H=some (n8 P,H):=by
 obtain⟨p0,hp0⟩:=iy (show 0<P.length by omega)
 have hg0:P.getD 0 0=p0:=by rw[DY,hp0];rfl
 have d1:decide ((P.length:Int)<1)=false:=DR (by omega)
 have d2:decide ((32:Int)<(P.length:Int))=false:=DR (by omega)
 have l0:decide ((0:Int)<(P.length:Int))=true:=Dj (by omega)
 refine aJ e7 (by rfl) ?_
 cases d3:decide (p0= -1)with
 |false=>
  have hx:gF P=false:=by unfold gF;rw[hg0,d3];rfl
  unfold n8
  rw[hx]
  simp only[c7,aB,go_sem,simprocAttr,d1,d2,l0,hp0,d3]
 |true=>
  obtain⟨X,hX⟩:∃X,n8 P=X:=⟨_,rfl⟩
  rw[hX]
  have hmk:=Bn P.length (by omega)
  have hno:∀i,i<P.length→bL P P.length (i:Nat)=none→X=.cG [.aP 0 [] true,FV 1]:=fun i hi hn=>by
   rw[←hX];unfold n8;rw[uf hi hn];rfl
  simp only[c7,aB,go_sem,simprocAttr,d1,d2,l0,hp0,d3,hmk]
  refine dt (fun i=>([(0,.aP 1 (iS P) fl),(4,.bt 0 0 0 P.length),(25,FV P.length),(26,FV i)],⟨[.arr 0 1 (iS (ml P i)) true],[],0⟩)) (fun i=>∀k,k<i→(bL P P.length (k:Nat)).isSome=true) P.length ?_ (fun k h=>by omega) ?_
  ·rw[qR]
   simp only[go_sem,simprocAttr]<;>rfl
  ·intro i hi hQ
   rcases DG i P.length with hlt|hge
   ·have hw:=gp hlt (D3 h32 (by decide))
    simp only[go_sem,simprocAttr,hlt]
    refine kR (fun j=>([(0,.aP 1 (iS P) fl),(4,.bt 0 0 0 P.length),(5,FV i),(6,FV (tA P i j)),(25,FV P.length),(26,FV i)],⟨[.arr 0 1 (iS ((ml P i).set i j)) true],[],0⟩)) (fun j=>(0≤tA P i j∧tA P i j<(P.length:Int))∧bL P P.length (i:Nat)=(bL P (P.length-j) (tA P i j)).map (· +j)) P.length ?_ ?_ ?_
    ·rw[show(((0:Nat):Int))=0 from rfl,qM hlt]
     simp only[go_sem,simprocAttr]<;>rfl
    ·refine⟨⟨by show(0:Int)≤(i:Int);omega,by show(i:Int)<_;omega⟩,?_⟩
     show bL P P.length (i:Nat)=(bL P (P.length-0) (i:Nat)).map (· +0)
     rw[Nat.sub_zero];cases bL P P.length (i:Nat)<;>rfl
    ·intro j hj hR
     obtain⟨⟨r1,r2⟩,r3⟩:=hR
     obtain⟨q,hq⟩:∃q:Nat,tA P i j=(q:Int):=⟨(tA P i j).toNat,by omega⟩
     have hql:q<P.length:=by omega
     obtain⟨r,hr⟩:=iy hql
     have hnx:tA P i (j+1)=r:=by
      show P.getD (tA P i j).toNat 0=r
      rw[hq,EA,DY,hr];rfl
     have hgr:P.getD (q:Int).toNat 0=r:=by rw[EA,DY,hr];rfl
     have hbl:=tU (P:=P) (i:=i) (by omega)
     have hse:((ml P i).set i (j:Int))[i]?=some (j:Int):=EN (by omega)
     have hsl:((ml P i).set i (j:Int)).length=P.length:=by rw[DZ];exact hbl
     have hss:(iS ((ml P i).set i (j:Int))).set i [FV ((j+1:Nat):Int)]=iS ((ml P i).set i ((j+1:Nat):Int)):=by rw[fA,E0]
     rw[hq]at r3⊢
     rcases DG j P.length with hj2|hj2
     ·have hwj:=gp hj2 (D3 h32 (by decide))
      have e1:decide ((j:Int)<(P.length:Int))=true:=Dj (by omega)
      rw[show P.length-j=(P.length-(j+1))+1 by omega]at r3
      rw[eI,hgr]at r3
      cases e2:decide ((q:Int)=0)with
      |true=>
       rw[e2]at r3
       have hd:bL P P.length (i:Nat)=some j:=by rw[r3];simp
       have hdo:tV P i=(j:Int):=by unfold tV;rw[hd];rfl
       have hbs:=rX (P:=P) (i:=i) hlt
       rw[hdo]at hbs
       simp only[go_sem,simprocAttr,hlt,hsl,hse,e1,e2,hw]
       refine⟨by first|trivial|omega,by rw[hbs];first|trivial|rfl,fun k hk=>?_⟩
       rcases DG k i with h|h
       ·exact hQ k h
       ·obtain rfl:k=i:=by omega
        rw[hd];rfl
      |false=>
       rw[e2]at r3
       simp only[Dw]at r3
       cases e3:decide (r<0)with
       |true=>
        rw[e3]at r3
        have hX:=hno i hlt (by rw[r3];rfl)
        simp only[go_sem,simprocAttr,hlt,hsl,hse,e1,e2,e3,hql,hr,hX]
       |false=>
        cases e4:decide ((P.length:Int)≤r)with
        |true=>
         rw[e3,e4]at r3
         have hX:=hno i hlt (by rw[r3];rfl)
         simp only[go_sem,simprocAttr,hlt,hsl,hse,e1,e2,e3,e4,hql,hr,hX]
        |false=>
         rw[e3,e4]at r3
         simp only[go_sem,simprocAttr,hlt,hsl,hse,e1,e2,e3,e4,hql,hr,hwj,hss,hnx]
         have e3:=Dv e3
         have e4:=Dv e4
         refine⟨hj2,by first|trivial|rfl,⟨by omega,by omega⟩,?_⟩
         rw[r3]
         cases bL P (P.length-(j+1)) r with
         |none=>rfl
         |some d=>simp only[Bool.or_self,Dw,D1];congr 1;omega
     ·have hjn:j=P.length:=by omega
      subst hjn
      have e1:decide ((P.length:Int)<(P.length:Int))=false:=DR (by omega)
      rw[FI]at r3
      have hX:=hno i hlt (by rw[r3];rfl)
      simp only[go_sem,simprocAttr,hlt,hsl,hse,e1,hX]
   ·have hlt':¬i<P.length:=by omega
    obtain rfl:i=P.length:=by omega
    have hX2:X=.cG [.aP 1 (iS ((List.range P.length).map (tV P))) true,FW]:=by
     rw[←hX]
     have:gF P=true:=by
      unfold gF
      rw[hg0,d3,Ed,Dg]
      exact fun k hk=>hQ k (Dn.1 hk)
     unfold n8
     rw[this];rfl
    have hfz:=fun H v=>(Still.ints ((List.range P.length).map (tV P))).fz 0 H 5 v P.length 1 true (by simp[iS])
    rw[tS]
    simp only[go_sem,simprocAttr,hlt',hfz,hX2]
end K
namespace K
theorem x8:T 8=some (j8 1 8 [FW]):=e8
theorem s8(n:Nat)(H:ab)(P:List Int)(f:Bool)(h:P.length≤1000):aI T (n+1) (.fn 8) [.aP 1 (iS P) f] H=some (.aP 1 (iS P) false,H):=
 nG x8 (.inl rfl) (Still.ints P) (by rw[rY];exact D3 (show P.length*8≤100000 by omega) (by decide))
structure Sy where
 o:Int
 d:Int
 l:Int
 c:Int
abbrev mu(a:Sy):List SV:=[FV a.o,FV a.d,FV a.l,FV a.c]
def eb(L:List Sy):List (List SV):=L.map mu
@[go_sem] theorem l6 {L:List Sy}:(eb L).length=L.length:=by simp[eb]
@[go_sem] theorem xS {L:List Sy}{i:Nat}:(eb L)[i]?=(L[i]?).map mu:=by simp[eb]
theorem sJ(L:List Sy):∀cs∈eb L,∀c∈cs,∃x,c=FV x:=fun cs hcs c hc=>by
 simp only[eb,EI]at hcs
 obtain⟨a,_,rfl⟩:=hcs
 simp only[mu,Ei,List.not_mem_nil,or_false]at hc
 rcases hc with rfl|rfl|rfl|rfl<;>exact⟨_,rfl⟩
theorem kX(L:List Sy):Still (eb L):=fun cs hcs c hc=>by
 obtain⟨x,rfl⟩:=sJ L cs hcs c hc
 exact⟨rfl,fun N H d=>rfl⟩
theorem Bq(n:Nat)(H:ab)(L:List Sy)(f:Bool)(h0:0<L.length)(h:L.length≤1000):aI T (n+1) (.fn 10) [.aP 4 (eb L) f] H=some (.aP 4 (eb L) false,H):=by
 refine aJ Bd (by rfl) ?_
 have hfz:=fun H=>(kX L).fz 0 H 6 0 L.length 4 false (by simp[eb])
 have hb:decide (L.length*32≤bW)=true:=Dj (D3 (show L.length*32≤100000 by omega) (by decide))
 cases L with
 |nil=>simp at h0
 |cons a L=>
  have hc:eb (a::L)=mu a::eb L:=rfl
  rw[hc]at hfz⊢
  simp only[DU]at hfz hb
  simp only[zr,aB,go_sem,Int.reduceToNat,Nat.reduceAdd,Nat.reduceBEq,Nat.reduceLeDiff,Nat.reduceLT,Nat.reduceMul,Nat.reduceSub,Int.reduceEq,Int.reduceLT,Int.reduceLE,Int.reduceNeg,hb,DU,l6,hfz]
theorem zQ(n:Nat)(L:List Sy)(f:Bool)(h0:0<L.length)(h:L.length≤1000)(bl:List bb)(es:List (Nat×Nat))(ro:Nat):aI T (n+1) (.qC 10) [.aP 4 (eb L) f] ⟨bl,es,ro⟩=some (.bt bl.length 0 0 L.length,⟨bl++[.arr 0 4 (eb L) false],es,ro⟩):=by
 refine kH Bd ?_
 have hb:decide (L.length*32≤bW)=true:=Dj (D3 (show L.length*32≤100000 by omega) (by decide))
 cases L with
 |nil=>simp at h0
 |cons a L=>
  have hc:eb (a::L)=mu a::eb L:=rfl
  rw[hc]
  simp only[DU]at hb
  simp only[zr,go_sem,Int.reduceToNat,Nat.reduceAdd,Nat.reduceBEq,Nat.reduceLeDiff,Nat.reduceLT,Nat.reduceMul,Nat.reduceSub,Int.reduceEq,Int.reduceLT,Int.reduceLE,Int.reduceNeg,hb,DU,l6]
theorem Cw(n:Nat)(H:ab)(k:Nat)(h1:1≤k)(h6:k≤6):aI T (n+2) (.fn 42) [.int .u64 1,.int .u64 k] H=some (.cG [.int .u64 0,.int .u64 k],H):=by
 have hk:k=1∨k=2∨k=3∨k=4∨k=5∨k=6:=by omega
 rcases hk with rfl|rfl|rfl|rfl|rfl|rfl
 ·exact ey v7 (by rfl) (eg (T:=T) 100 (n+2) (.fn 42) [.int .u64 1,.int .u64 1] aB (.cG [.int .u64 0,.int .u64 1],aB) (by kernel_rfl))
 ·exact ey v7 (by rfl) (eg (T:=T) 100 (n+2) (.fn 42) [.int .u64 1,.int .u64 2] aB (.cG [.int .u64 0,.int .u64 2],aB) (by kernel_rfl))
 ·exact ey v7 (by rfl) (eg (T:=T) 100 (n+2) (.fn 42) [.int .u64 1,.int .u64 3] aB (.cG [.int .u64 0,.int .u64 3],aB) (by kernel_rfl))
 ·exact ey v7 (by rfl) (eg (T:=T) 100 (n+2) (.fn 42) [.int .u64 1,.int .u64 4] aB (.cG [.int .u64 0,.int .u64 4],aB) (by kernel_rfl))
 ·exact ey v7 (by rfl) (eg (T:=T) 100 (n+2) (.fn 42) [.int .u64 1,.int .u64 5] aB (.cG [.int .u64 0,.int .u64 5],aB) (by kernel_rfl))
 ·exact ey v7 (by rfl) (eg (T:=T) 100 (n+2) (.fn 42) [.int .u64 1,.int .u64 6] aB (.cG [.int .u64 0,.int .u64 6],aB) (by kernel_rfl))
def rep(k m:Nat):List Int:=List.replicate m (-1)++List.replicate (k-m) 0
def cN(k:Nat):Nat→Nat
 |0=>1
 |j+1=>cN k j+min (cN k j) (k-cN k j)
theorem rM{k:Nat}(h:1≤k):∀{j:Nat},1≤cN k j∧cN k j≤k
 |0=>⟨De _,h⟩
 |j+1=>by
  have ih:=rM h (j:=j)
  unfold cN
  omega
theorem BM(n:Nat)(k:Nat)(f:Bool)(h1:1≤k)(h6:k≤6)(bl:List bb)(es:List (Nat×Nat))(ro:Nat):aI T (n+3) (.qC 9) [.aP 1 [[FV (-1)]] f,FV k] ⟨bl,es,ro⟩=some (.bt bl.length 0 0 k,⟨bl++[.arr 0 1 (iS (List.replicate k (-1))) true],es,ro⟩):=by
 have h42:=fun H=>Cw n H k h1 h6
 have i1:IntKind.u64.wrap (1:Int)=1:=rfl
 have i2:IntKind.u64.wrap (k:Int)=(k:Int):=by simp[IntKind.wrap,IntKind.bits,IntKind.signed];omega
 have i3:IntKind.i64.wrap (k:Int)=(k:Int):=aX (by omega) (by omega)
 have d0:decide ((k:Int)<0)=false:=DR (by omega)
 have d1:decide ((9223372036854775807:Int)<(k:Int))=false:=DR (by omega)
 have hmk:=Bn k (by omega)
 refine kH e9 ?_
 simp only[c9,ar,ao,ax,av,aj,ai,al,ah,aO,aF,aN,aG,aE,aD,au,aH,aq,aw,af,ay,a9,ba,C9,C8,Da,go_sem,Int.reduceToNat,Nat.reduceAdd,Nat.reduceBEq,Nat.reduceLeDiff,Nat.reduceLT,Nat.reduceMul,Nat.reduceSub,Int.reduceEq,Int.reduceLT,Int.reduceLE,Int.reduceNeg,h42,i1,i2,i3,d0,d1,hmk,DU,D8,Int.cast_ofNat_Int,Int.natCast_one]
 have e1:decide (k≤(List.replicate k [SV.int .i64 0]).length)=true:=Dj (by simp)
 have e2:min 1 k=1:=by omega
 have e3:(List.take k [[SV.int .i64 (-1)]]++List.drop 1 (List.replicate k [SV.int .i64 0]))=iS (rep k 1):=by
  rw[Eh (by simpa using h1)]
  simp[rep,iS]
 simp only[e1,e2,e3,ar,ao,ax,av,aj,ai,al,ah,aO,aF,aN,aG,aE,aD,au,aH,aq,aw,af,ay,a9,ba,C9,C8,Da,go_sem,Int.reduceToNat,Nat.reduceAdd,Nat.reduceBEq,Nat.reduceLeDiff,Nat.reduceLT,Nat.reduceMul,Nat.reduceSub,Int.reduceEq,Int.reduceLT,Int.reduceLE,Int.reduceNeg]
 refine dt (fun j=>([(7,.bt bl.length 0 0 k),(8,FV (cN k j))],⟨bl++[.arr 0 1 (iS (rep k (cN k j))) true],[],min ro bl.length⟩)) (fun _=>True) 3 ?_ trivial ?_
 ·simp only[ar,ao,ax,av,aj,ai,al,ah,aO,aF,aN,aG,aE,aD,au,aH,aq,aw,af,ay,a9,ba,C9,C8,Da,go_sem,Int.reduceToNat,Nat.reduceAdd,Nat.reduceBEq,Nat.reduceLeDiff,Nat.reduceLT,Nat.reduceMul,Nat.reduceSub,Int.reduceEq,Int.reduceLT,Int.reduceLE,Int.reduceNeg,cN]<;>rfl
 ·intro j hj _
  have hc:=rM (j:=j) h1
  have hrl:(rep k (cN k j)).length=k:=by simp[rep];omega
  rcases DG (cN k j) k with hlt|hge
  ·have b1:decide ((cN k j:Int)≤(k:Int))=true:=Dj (by omega)
   have b2:decide ((0:Int)≤(cN k j:Int))=true:=Dj (by omega)
   have b3:decide ((k:Int)≤(k:Int))=true:=Dj (by omega)
   have b4:decide ((0:Int)≤(k:Int))=true:=Dj (by omega)
   have b5:decide (cN k j≤k)=true:=Dj (by omega)
   have b6:decide (cN k j+(k-cN k j)≤k)=true:=Dj (by omega)
   have htk:List.take (cN k j) (iS (rep k (cN k j)))=iS (List.replicate (cN k j) (-1)):=by
    unfold rep iS
    rw[FR,List.take_append_of_le_length (by simp),Eh (by simp)]
   have hln:(iS (List.replicate (cN k j) (-1:Int))).length=cN k j:=by simp[iS]
   have hrf:SV.refs.aK (iS (List.replicate (cN k j) (-1:Int))).flatten=0:=(Still.ints _).zero
   have aZ:iS (List.replicate (cN k j) (-1))++(List.take (k-cN k j) (iS (List.replicate (cN k j) (-1)))++List.drop (cN k j+min (cN k j) (k-cN k j)) (iS (rep k (cN k j))))=iS (rep k (cN k (j+1))):=by
    have hd:List.drop (cN k j+min (cN k j) (k-cN k j)) (rep k (cN k j))=List.replicate (k-(cN k j+min (cN k j) (k-cN k j))) 0:=by
     unfold rep
     rw[List.drop_append,E3 (by simp),List.length_replicate,EY,List.drop_replicate]
     congr 1;omega
    have ht:List.take (k-cN k j) (List.replicate (cN k j) (-1:Int))=List.replicate (min (cN k j) (k-cN k j)) (-1):=by
     rw[List.take_replicate];congr 1;omega
    have e:cN k (j+1)=cN k j+min (cN k j) (k-cN k j):=rfl
    simp only[iS,←List.map_take,←List.map_drop,←FR,hd,ht]
    rw[e,rep,←C9,List.replicate_append_replicate]
   have hwc:cY ((cN k j:Int)+(min (cN k j) (k-cN k j):Nat))=((cN k (j+1):Nat):Int):=by
    have e:cN k (j+1)=cN k j+min (cN k j) (k-cN k j):=rfl
    rw[e,aX (by omega) (by omega)];omega
   have hj3:j<3:=by
    rcases DG j 3 with h|h
    ·exact h
    ·exfalso
     obtain rfl:j=3:=by omega
     simp only[cN]at hlt
     omega
   simp only[ar,ao,ax,av,aj,ai,al,ah,aO,aF,aN,aG,aE,aD,au,aH,aq,aw,af,ay,a9,ba,C9,C8,Da,go_sem,Int.reduceToNat,Nat.reduceAdd,Nat.reduceBEq,Nat.reduceLeDiff,Nat.reduceLT,Nat.reduceMul,Nat.reduceSub,Int.reduceEq,Int.reduceLT,Int.reduceLE,Int.reduceNeg,hlt,b1,b2,b3,b4,b5,b6,hrl,htk,hln,hrf,aZ,hwc,rY]
   exact⟨hj3,by first|trivial|rfl,trivial⟩
  ·have hck:cN k j=k:=by omega
   have hlt:¬k<k:=by omega
   have hrk:rep k k=List.replicate k (-1):=by simp[rep]
   rw[hck,hrk]
   simp only[ar,ao,ax,av,aj,ai,al,ah,aO,aF,aN,aG,aE,aD,au,aH,aq,aw,af,ay,a9,ba,C9,C8,Da,go_sem,Int.reduceToNat,Nat.reduceAdd,Nat.reduceBEq,Nat.reduceLeDiff,Nat.reduceLT,Nat.reduceMul,Nat.reduceSub,Int.reduceEq,Int.reduceLT,Int.reduceLE,Int.reduceNeg,hlt]
end K
namespace K
theorem B2:T 46=some (qJ 97):=BV
theorem Cy:T 97=some (jP true 4):=BD
abbrev rf(a:Sy):Bool:=nN a.o a.d a.l a.c
theorem Cg(n:Nat)(H:ab)(a:Sy):aI T (n+3) (.fn 47) [.agg (mu a)] H=some (.bool (!rf a),H):=by
 have h48:=fun H=>zM n H a.o a.d a.l a.c
 refine aJ BP (by rfl) ?_
 cases h:rf a<;>rw[show nN a.o a.d a.l a.c=rf a from rfl,h]at h48<;>simp only[Bw,aB,go_sem,Int.reduceToNat,Nat.reduceAdd,Nat.reduceBEq,Nat.reduceLeDiff,Nat.reduceLT,Nat.reduceMul,Nat.reduceSub,Int.reduceEq,Int.reduceLT,Int.reduceLE,Int.reduceNeg,h48]
def toY:List SV→Sy
 |[.int _ a,.int _ b,.int _ c,.int _ d]=>⟨a,b,c,d⟩
 |_=>⟨0,0,0,0⟩
theorem tZ(L:List Sy):∀r∈eb L,r.length=4:=fun r hr=>by
 simp only[eb,EI]at hr
 obtain⟨y,_,rfl⟩:=hr
 rfl
theorem Co(n:Nat)(H:ab)(L:List Sy)(f:Bool)(h:L.length≤1000):aI T (n+5) (.fn 46) [.aP 4 (eb L) f,.fn 47 []] H=some (.bool (L.any fun a=>!rf a),H):=by
 have h:=qL (T:=T) (f:=46) (n:=n+3) (H:=H) (ag:=true) (z:=4) (id:=47) (caps:=[]) (v:=.aP 4 (eb L) f) (L:=eb L) (p:=fun r=>!rf (toY r)) B2 Cy (.aP 4 f (.inl rfl)) (tZ L) (fun h=>by cases h) (by rw[l6];exact D3 h (by decide))
  (fun r hr bl ro _=>by
   simp only[eb,EI]at hr
   obtain⟨p,_,rfl⟩:=hr
   exact Cg n ⟨bl,[],ro⟩ p) (by simp[SV.refs.aK])
 rw[h,eb,List.any_map]
 rfl
def v5(ak:Bool)(a b:Sy)(s:Int):Int:=bif ak then vL a.o a.d a.l a.c b.o b.d s else vJ a.o a.d a.l a.c b.o b.d s
def mr(ak:Bool)(a b:Sy)(s:Int):List SV:=bif ak then va a.o a.d a.l a.c b.o b.d s else sN a.o a.d a.l a.c b.o b.d s
theorem ph(ak:Bool)(a b:Sy)(s:Int):∃y:Sy,mr ak a b s=mu y:=by
 unfold mr
 cases ak with
 |true=>
  simp only[Du]
  unfold va
  cases decide (gO a.o a.d s=0)&&decide (mS b.o b.d s (cL a.o a.d s)=0)with
  |false=>exact⟨⟨0,0,0,0⟩,rfl⟩
  |true=>obtain⟨p,q,r,t,h⟩:=oP a.o a.d a.l a.c s (nT b.o b.d s (cL a.o a.d s));exact⟨⟨p,q,r,t⟩,h⟩
 |false=>
  simp only[Dw]
  unfold sN
  cases decide (gO b.o b.d s=0)with
  |false=>exact⟨⟨0,0,0,0⟩,rfl⟩
  |true=>obtain⟨p,q,r,t,h⟩:=oI a.o a.d a.l a.c s (cL b.o b.d s);exact⟨⟨p,q,r,t⟩,h⟩
def vg(L:List Sy)(nd:Nat)(ak:Bool)(a b:Sy)(s:Int):SV:=bif L.any (fun a=>!rf a)then .cG [.aP 0 [] true,FV (-1),FV 1]else
 bif decide (v5 ak a b s=0)then .cG [.aP 4 ((eb L).set nd (mr ak a b s)) false,FV (-1),FW]else .cG [.aP 0 [] true,FW,FV (v5 ak a b s)]
theorem BY(n:Nat)(H:ab)(L:List Sy)(f:Bool)(P:List Int)(g h:Bool)(nd:Nat)(s:Int)(ak:Bool)(p:Nat)(a b:Sy)(hL:L.length=P.length)(h1:1≤P.length)(h6:P.length≤6)(hd:gF P=true)(hn1:1≤nd)(hnl:nd<P.length)
 (hp:P[nd]?=some (p:Int)) (hpl:p<P.length) (ha:L[nd]?=some a) (hb:L[p]?=some b) :
 aI T (n+9) (.fn 13) [.aP 4 (eb L) f,.aP 1 (iS P) g,.aP 3 [[FV nd,FV s,.bool ak]] h] H=some (vg L nd ak a b s,H):=by
 have h7:=fun H=>s7 (n+7) H P g h1 (by omega)
 unfold n8 at h7
 rw[hd]at h7
 have h46:=fun H=>Co (n+3) H L f (by omega)
 have h10:=fun bl es ro=>zQ (n+7) L f (by omega) (by omega) bl es ro
 have h49:=fun H=>BK (n+1) H a.o a.d a.l a.c b.o b.d s
 have h50:=fun H=>BO (n+1) H a.o a.d a.l a.c b.o b.d s
 have d1:decide ((nd:Int)<1)=false:=DR (by omega)
 have d2:decide ((P.length:Int)≤(nd:Int))=false:=DR (by omega)
 obtain⟨y,hy⟩:=ph ak a b s
 obtain⟨E,hE⟩:∃E,v5 ak a b s=E:=⟨_,rfl⟩
 unfold vg
 rw[hy,hE]
 refine aJ Cj (by rfl) ?_
 cases a1:L.any (fun a=>!rf a)with
 |true=>rw[a1]at h46;simp only[Az,aB,go_sem,Int.reduceToNat,Nat.reduceAdd,Nat.reduceBEq,Nat.reduceLeDiff,Nat.reduceLT,Nat.reduceMul,Nat.reduceSub,Int.reduceEq,Int.reduceLT,Int.reduceLE,Int.reduceNeg,h7,h46,hL,decide_true,DU,D8]
 |false=>
  rw[a1]at h46
  simp only[Az,aB,go_sem,Int.reduceToNat,Nat.reduceAdd,Nat.reduceBEq,Nat.reduceLeDiff,Nat.reduceLT,Nat.reduceMul,Nat.reduceSub,Int.reduceEq,Int.reduceLT,Int.reduceLE,Int.reduceNeg,h7,h46,h10,hL,decide_true,DU,D8]
  have bF:(eb L).set nd (mu y)=eb (L.set nd y):=by simp[eb,List.map_set]
  rw[bF]
  have hln:nd<L.length:=by omega
  have hlp:p<L.length:=by omega
  refine dt (fun i=>([(1,.aP 1 (iS P) g),(11,.bt 0 0 0 P.length),(42,.aP 3 [[FV nd,FV s,.bool ak]] h),(43,FV 1),(44,FV i)],⟨[.arr 0 4 (eb (if i=0 then L else L.set nd y)) false],[],0⟩)) (fun i=>i=0∨E=0) 1 ?_ (.inl rfl) ?_
  ·simp only[if_true]
   simp only[go_sem,Int.reduceToNat,Nat.reduceAdd,Nat.reduceBEq,Nat.reduceLeDiff,Nat.reduceLT,Nat.reduceMul,Nat.reduceSub,Int.reduceEq,Int.reduceLT,Int.reduceLE,Int.reduceNeg]<;>rfl
  ·intro i hi hQ
   have hi2:i=0∨i=1:=by omega
   rcases hi2 with rfl|rfl
   ·have w1:cY (((0:Nat):Int)+1)=((0+1:Nat):Int):=rfl
    simp only[if_true]
    cases ak with
    |true=>
     have hy':va a.o a.d a.l a.c b.o b.d s=mu y:=hy
     have hE':vL a.o a.d a.l a.c b.o b.d s=E:=hE
     rw[hy',hE']at h50
     cases e:decide (E=0)with
     |false=>simp only[go_sem,Int.reduceToNat,Nat.reduceAdd,Nat.reduceBEq,Nat.reduceLeDiff,Nat.reduceLT,Nat.reduceMul,Nat.reduceSub,Int.reduceEq,Int.reduceLT,Int.reduceLE,Int.reduceNeg,d1,d2,hL,hnl,hpl,hln,hlp,ha,hb,hp,h50,e,w1,FC,DU,D8,List.getElem?_cons_zero]
     |true=>
      simp only[go_sem,Int.reduceToNat,Nat.reduceAdd,Nat.reduceBEq,Nat.reduceLeDiff,Nat.reduceLT,Nat.reduceMul,Nat.reduceSub,Int.reduceEq,Int.reduceLT,Int.reduceLE,Int.reduceNeg,d1,d2,hL,hnl,hpl,hln,hlp,ha,hb,hp,h50,e,w1,bF,FC,DU,D8,List.getElem?_cons_zero]
      exact⟨by first|trivial|omega,by first|trivial|rfl,.inr (D4 e)⟩
    |false=>
     have hy':sN a.o a.d a.l a.c b.o b.d s=mu y:=hy
     have hE':vJ a.o a.d a.l a.c b.o b.d s=E:=hE
     rw[hy',hE']at h49
     cases e:decide (E=0)with
     |false=>simp only[go_sem,Int.reduceToNat,Nat.reduceAdd,Nat.reduceBEq,Nat.reduceLeDiff,Nat.reduceLT,Nat.reduceMul,Nat.reduceSub,Int.reduceEq,Int.reduceLT,Int.reduceLE,Int.reduceNeg,d1,d2,hL,hnl,hpl,hln,hlp,ha,hb,hp,h49,e,w1,FC,DU,D8,List.getElem?_cons_zero]
     |true=>
      simp only[go_sem,Int.reduceToNat,Nat.reduceAdd,Nat.reduceBEq,Nat.reduceLeDiff,Nat.reduceLT,Nat.reduceMul,Nat.reduceSub,Int.reduceEq,Int.reduceLT,Int.reduceLE,Int.reduceNeg,d1,d2,hL,hnl,hpl,hln,hlp,ha,hb,hp,h49,e,w1,bF,FC,DU,D8,List.getElem?_cons_zero]
      exact⟨by first|trivial|omega,by first|trivial|rfl,.inr (D4 e)⟩
   ·have hE0:E=0:=by rcases hQ with h|h;omega;exact h
    have hfz:=fun H v=>(kX (L.set nd y)).fz 0 H 5 v P.length 4 false (by simp[eb,hL])
    rw[hE0]
    simp only[go_sem,Int.reduceToNat,Nat.reduceAdd,Nat.reduceBEq,Nat.reduceLeDiff,Nat.reduceLT,Nat.reduceMul,Nat.reduceSub,Int.reduceEq,Int.reduceLT,Int.reduceLE,Int.reduceNeg,hfz,Int.natCast_one,if_neg (show ¬(1:Nat)=0 by omega),decide_true,Du]
end K
namespace K
def pass(L:List Sy)(D:List Nat)(M:List Int)(s keep:Int)(a b:Nat):Prop:=∀(A B:Sy) (da db:Nat),L[a]?=some A→L[b]?=some B→D[a]?=some da→D[b]?=some db→a≠b→((da:Int)+db)*St (keep+1)≤1000→nM M keep a s=true→nM M keep b s=true→
 vB A.o A.d B.o B.d s=0→gO A.o A.d s=0→0<cL A.o A.d s→yu A.o A.d B.o B.d s=true
def nS(D:List Nat):List Int:=D.map fun(d:Nat)=>(d:Int)
theorem gh{D:List Nat}{i:Nat}:(nS D)[i]?=(D[i]?).map fun(d:Nat)=>(d:Int):=by simp[nS]
theorem fK{D:List Nat}:(nS D).length=D.length:=by simp[nS]
theorem uq(n p q kp v:Nat)(H:ab)(L:List Sy)(f:Bool)(D:List Nat)(g:Bool)(M:List Int)(ex:Bool)(s keep:Int)(hp:H.bl[p]?=some (.box [.bt q v 0 M.length]))(hq:H.bl[q]?=some (.arr v 1 (iS M) ex))(hk:H.bl[kp]?=some (.box [FV keep]))
 (hM:M.length=L.length) (hD:D.length=L.length) (h6:L.length≤6) (hd:∀d∈D,d≤32) (hk0:0≤keep) (hk1:keep≤1000) (hall:∀a b,pass L D M s keep a b) :
 aI T (n+9) (.fn 14) [.aP 4 (eb L) f,.aP 1 (iS (nS D)) g,FV s,FV keep,.fn 11 [.ptr p 0 0 0,.ptr kp 0 0 0]] H=some (.bool true,H):=by
 refine gf Ce rfl rfl (fun R k bl ro r hbl hkk=>?_)
 obtain rfl:bl=H.bl:=by
  rcases hbl with⟨_,h0⟩|h
  ·simp[SV.refs.aK,SV.refs]at h0
  ·exact h
 have hp1:=(C7.1 hp).1
 have hk2:=(C7.1 hk).1
 have hk3:=hkk []
 rw[Er]at hk3
 have c1:decide (p+1≤H.bl.length)=true:=Dj hp1
 have c2:decide (kp+1≤H.bl.length)=true:=Dj hk2
 have wk:cY (keep+1)=keep+1:=aX (by omega) (by omega)
 simp only[Bv,ar,ao,ax,av,aj,ai,al,ah,aO,aF,aN,aG,aE,aD,au,aH,aq,aw,af,ay,a9,ba,C9,C8,Da,go_sem,Int.reduceToNat,Nat.reduceAdd,Nat.reduceBEq,Nat.reduceLeDiff,Nat.reduceLT,Nat.reduceMul,Nat.reduceSub,Int.reduceEq,Int.reduceLT,Int.reduceLE,Int.reduceNeg]
 refine dt (fun a=>([(0,.aP 4 (eb L) f),(1,.aP 1 (iS (nS D)) g),(2,FV s),(3,FV keep),(4,.fn 11 [.ptr p 0 0 0,.ptr kp 0 0 0]),(20,FV L.length),(21,FV a)],⟨H.bl,[],min ro H.bl.length⟩)) (fun _=>True) L.length ?_ trivial ?_
 ·simp only[ar,ao,ax,av,aj,ai,al,ah,aO,aF,aN,aG,aE,aD,au,aH,aq,aw,af,ay,a9,ba,C9,C8,Da,go_sem,Int.reduceToNat,Nat.reduceAdd,Nat.reduceBEq,Nat.reduceLeDiff,Nat.reduceLT,Nat.reduceMul,Nat.reduceSub,Int.reduceEq,Int.reduceLT,Int.reduceLE,Int.reduceNeg,c1,c2,D6]<;>rfl
 ·intro a hi _
  rcases DG a L.length with hla|hga
  ·have hwa:=gp hla (D3 h6 (by decide))
   obtain⟨A,hA⟩:=iy hla
   obtain⟨da,hda⟩:=iy (l:=D) (i:=a) (by omega)
   have hDa:a<D.length:=by omega
   simp only[ar,ao,ax,av,aj,ai,al,ah,aO,aF,aN,aG,aE,aD,au,aH,aq,aw,af,ay,a9,ba,C9,C8,Da,go_sem,Int.reduceToNat,Nat.reduceAdd,Nat.reduceBEq,Nat.reduceLeDiff,Nat.reduceLT,Nat.reduceMul,Nat.reduceSub,Int.reduceEq,Int.reduceLT,Int.reduceLE,Int.reduceNeg,hla]
   refine kR (fun b=>([(0,.aP 4 (eb L) f),(1,.aP 1 (iS (nS D)) g),(2,FV s),(3,FV keep),(4,.fn 11 [.ptr p 0 0 0,.ptr kp 0 0 0]),(11,FV a),(20,FV L.length),(21,FV a),(25,FV L.length),(26,FV b)],⟨H.bl,[],min ro H.bl.length⟩)) (fun _=>True) L.length ?_ trivial ?_
   ·simp only[ar,ao,ax,av,aj,ai,al,ah,aO,aF,aN,aG,aE,aD,au,aH,aq,aw,af,ay,a9,ba,C9,C8,Da,go_sem,Int.reduceToNat,Nat.reduceAdd,Nat.reduceBEq,Nat.reduceLeDiff,Nat.reduceLT,Nat.reduceMul,Nat.reduceSub,Int.reduceEq,Int.reduceLT,Int.reduceLE,Int.reduceNeg,c1,c2,D6]<;>rfl
   ·intro b hj _
    rcases DG b L.length with hlb|hgb
    ·have hwb:=gp hlb (D3 h6 (by decide))
     obtain⟨B,hB⟩:=iy hlb
     obtain⟨db,hdb⟩:=iy (l:=D) (i:=b) (by omega)
     have hDb:b<D.length:=by omega
     have h51:=fun H=>BI (n+3) H da db (keep+1) (hd da (Dm hda)) (hd db (Dm hdb)) (by omega) (by omega)
     have h11a:=fun es ro=>Ba (n+7) p q kp v ⟨H.bl,es,ro⟩ M ex keep a s hp hq hk (by omega)
     have h11b:=fun es ro=>Ba (n+7) p q kp v ⟨H.bl,es,ro⟩ M ex keep b s hp hq hk (by omega)
     have h52:=fun H=>B6 n H A.o A.d B.o B.d s
     have h12:=fun H=>xy (n+2) H A.o A.d s
     have hpass:=hall a b A B da db hA hB hda hdb
     cases eab:decide ((a:Int)=(b:Int))with
     |true=>
      simp only[ar,ao,ax,av,aj,ai,al,ah,aO,aF,aN,aG,aE,aD,au,aH,aq,aw,af,ay,a9,ba,C9,C8,Da,go_sem,Int.reduceToNat,Nat.reduceAdd,Nat.reduceBEq,Nat.reduceLeDiff,Nat.reduceLT,Nat.reduceMul,Nat.reduceSub,Int.reduceEq,Int.reduceLT,Int.reduceLE,Int.reduceNeg,hlb,hDa,hDb,hda,hdb,gh,fK,wk,h51,eab,hwb,c1,c2,D6]
      exact⟨by first|trivial|omega,by first|trivial|rfl,trivial⟩
     |false=>
      have hne:a≠b:=fun e=>by subst e;simp at eab
      cases esp:decide (1000<((da:Int)+db)*St (keep+1))with
      |true=>
       simp only[ar,ao,ax,av,aj,ai,al,ah,aO,aF,aN,aG,aE,aD,au,aH,aq,aw,af,ay,a9,ba,C9,C8,Da,go_sem,Int.reduceToNat,Nat.reduceAdd,Nat.reduceBEq,Nat.reduceLeDiff,Nat.reduceLT,Nat.reduceMul,Nat.reduceSub,Int.reduceEq,Int.reduceLT,Int.reduceLE,Int.reduceNeg,hlb,hDa,hDb,hda,hdb,gh,fK,wk,h51,eab,esp,hwb,c1,c2,D6]
       exact⟨by first|trivial|omega,by first|trivial|rfl,trivial⟩
      |false=>
       have hsp:=Dv esp
       cases efa:nM M keep a s with
       |false=>
        rw[efa]at h11a
        simp only[ar,ao,ax,av,aj,ai,al,ah,aO,aF,aN,aG,aE,aD,au,aH,aq,aw,af,ay,a9,ba,C9,C8,Da,go_sem,Int.reduceToNat,Nat.reduceAdd,Nat.reduceBEq,Nat.reduceLeDiff,Nat.reduceLT,Nat.reduceMul,Nat.reduceSub,Int.reduceEq,Int.reduceLT,Int.reduceLE,Int.reduceNeg,hlb,hDa,hDb,hda,hdb,gh,fK,wk,h51,eab,esp,h11a,hwb,c1,c2,D6]
        exact⟨by first|trivial|omega,by first|trivial|rfl,trivial⟩
       |true=>
        rw[efa]at h11a
        cases efb:nM M keep b s with
        |false=>
         rw[efb]at h11b
         simp only[ar,ao,ax,av,aj,ai,al,ah,aO,aF,aN,aG,aE,aD,au,aH,aq,aw,af,ay,a9,ba,C9,C8,Da,go_sem,Int.reduceToNat,Nat.reduceAdd,Nat.reduceBEq,Nat.reduceLeDiff,Nat.reduceLT,Nat.reduceMul,Nat.reduceSub,Int.reduceEq,Int.reduceLT,Int.reduceLE,Int.reduceNeg,hlb,hDa,hDb,hda,hdb,gh,fK,wk,h51,eab,esp,h11a,h11b,hwb,c1,c2,D6]
         exact⟨by first|trivial|omega,by first|trivial|rfl,trivial⟩
        |true=>
         rw[efb]at h11b
         have hpass:=hpass hne (by omega) efa efb
         cases g1:decide (vB A.o A.d B.o B.d s=0)with
         |false=>
          simp only[ar,ao,ax,av,aj,ai,al,ah,aO,aF,aN,aG,aE,aD,au,aH,aq,aw,af,ay,a9,ba,C9,C8,Da,go_sem,Int.reduceToNat,Nat.reduceAdd,Nat.reduceBEq,Nat.reduceLeDiff,Nat.reduceLT,Nat.reduceMul,Nat.reduceSub,Int.reduceEq,Int.reduceLT,Int.reduceLE,Int.reduceNeg,hla,hlb,hDa,hDb,hda,hdb,hA,hB,gh,fK,wk,h51,eab,esp,h11a,h11b,h52,h12,g1,hwb,c1,c2,D6]
          exact⟨by first|trivial|omega,by first|trivial|rfl,trivial⟩
         |true=>
          cases g2:decide (gO A.o A.d s=0)with
          |false=>
           simp only[ar,ao,ax,av,aj,ai,al,ah,aO,aF,aN,aG,aE,aD,au,aH,aq,aw,af,ay,a9,ba,C9,C8,Da,go_sem,Int.reduceToNat,Nat.reduceAdd,Nat.reduceBEq,Nat.reduceLeDiff,Nat.reduceLT,Nat.reduceMul,Nat.reduceSub,Int.reduceEq,Int.reduceLT,Int.reduceLE,Int.reduceNeg,hla,hlb,hDa,hDb,hda,hdb,hA,hB,gh,fK,wk,h51,eab,esp,h11a,h11b,h52,h12,g1,g2,hwb,c1,c2,D6]
           exact⟨by first|trivial|omega,by first|trivial|rfl,trivial⟩
          |true=>
           cases g3:decide (0<cL A.o A.d s)with
           |false=>
            simp only[ar,ao,ax,av,aj,ai,al,ah,aO,aF,aN,aG,aE,aD,au,aH,aq,aw,af,ay,a9,ba,C9,C8,Da,go_sem,Int.reduceToNat,Nat.reduceAdd,Nat.reduceBEq,Nat.reduceLeDiff,Nat.reduceLT,Nat.reduceMul,Nat.reduceSub,Int.reduceEq,Int.reduceLT,Int.reduceLE,Int.reduceNeg,hla,hlb,hDa,hDb,hda,hdb,hA,hB,gh,fK,wk,h51,eab,esp,h11a,h11b,h52,h12,g1,g2,g3,hwb,c1,c2,D6]
            exact⟨by first|trivial|omega,by first|trivial|rfl,trivial⟩
           |true=>
            have g4:=hpass (D4 g1) (D4 g2) (D4 g3)
            simp only[ar,ao,ax,av,aj,ai,al,ah,aO,aF,aN,aG,aE,aD,au,aH,aq,aw,af,ay,a9,ba,C9,C8,Da,go_sem,Int.reduceToNat,Nat.reduceAdd,Nat.reduceBEq,Nat.reduceLeDiff,Nat.reduceLT,Nat.reduceMul,Nat.reduceSub,Int.reduceEq,Int.reduceLT,Int.reduceLE,Int.reduceNeg,hla,hlb,hDa,hDb,hda,hdb,hA,hB,gh,fK,wk,h51,eab,esp,h11a,h11b,h52,h12,g1,g2,g3,g4,hwb,c1,c2,D6]
            exact⟨by first|trivial|omega,by first|trivial|rfl,trivial⟩
    ·obtain rfl:b=L.length:=by omega
     have hlb:¬L.length<L.length:=by omega
     simp only[ar,ao,ax,av,aj,ai,al,ah,aO,aF,aN,aG,aE,aD,au,aH,aq,aw,af,ay,a9,ba,C9,C8,Da,go_sem,Int.reduceToNat,Nat.reduceAdd,Nat.reduceBEq,Nat.reduceLeDiff,Nat.reduceLT,Nat.reduceMul,Nat.reduceSub,Int.reduceEq,Int.reduceLT,Int.reduceLE,Int.reduceNeg,hlb,hwa,c1,c2,D6]
     exact⟨by first|trivial|omega,by first|trivial|rfl,trivial⟩
  ·obtain rfl:a=L.length:=by omega
   have hla:¬L.length<L.length:=by omega
   simp only[ar,ao,ax,av,aj,ai,al,ah,aO,aF,aN,aG,aE,aD,au,aH,aq,aw,af,ay,a9,ba,C9,C8,Da,go_sem,Int.reduceToNat,Nat.reduceAdd,Nat.reduceBEq,Nat.reduceLeDiff,Nat.reduceLT,Nat.reduceMul,Nat.reduceSub,Int.reduceEq,Int.reduceLT,Int.reduceLE,Int.reduceNeg,hla,hk3]
end K
namespace K
abbrev cl(a:Sy):Int×Int:=(a.o,a.d)
theorem uY{a:Sy}(h:rf a=true):gn a.o a.d=true:=by
 have h:nN a.o a.d a.l a.c=true:=h
 unfold nN at h
 simp only[Db]at h
 exact h.1.1.1.1
theorem se{a:Sy}(h:gn a.o a.d=true):Dr (cl a):=by
 obtain⟨_,_,h3,h4⟩:=m7 h
 exact⟨h3,h4⟩
theorem kA{a:Sy}(h:gn a.o a.d=true){t:Int}(h0:0≤t)(h1:t≤1099511627776):gi a.o a.d t=sh (cl a) t:=l9 h h0 h1
theorem tK{o d s:Int}(h:gO o d s=0):gn o d=true∧0≤s∧s≤109951162∧(∀t,0≤t→t<cL o d s→gi o d t<s*10000+2120)∧s*10000+2120≤gi o d (cL o d s)∧0≤cL o d s∧cL o d s≤1099511627776:=by
 unfold gO at h
 unfold cL
 cases hs:pK o d s with
 |false=>
  rw[hs]at h
  exact absurd h (Dv (lK hs))
 |true=>
  rw[hs]at h
  obtain⟨k1,k2,k3,_⟩:=iO hs
  simp only[Du]at h⊢
  unfold rE at h
  cases hd:decide (gi o d 1099511627776<s*10000+2120)with
  |true=>rw[hd]at h;cases h
  |false=>
   have:=Dv hd
   obtain⟨g1,g2,g3,g4⟩:=lW (x:=s*10000+2120) k1 (by omega)
   exact⟨k1,k2,k3,g1,g2,g3,g4⟩
theorem rh{a:Sy}{s:Int}(h:gO a.o a.d s=0):gn a.o a.d=true∧0≤cL a.o a.d s∧cL a.o a.d s≤1099511627776∧s*10000+2120≤sh (cl a) (cL a.o a.d s)∧(0<cL a.o a.d s→sh (cl a) (cL a.o a.d s)≤s*10000+2121):=by
 obtain⟨k1,k2,k3,g1,g2,g3,g4⟩:=tK h
 refine⟨k1,g3,g4,by rw[←kA k1 g3 g4];exact g2,fun hp=>?_⟩
 have h1:=g1 (cL a.o a.d s-1) (by omega) (by omega)
 rw[kA k1 (by omega) (by omega)]at h1
 have h2:=th (se k1) (cL a.o a.d s)
 omega
theorem uI{o d s t:Int}(h:mS o d s t=0):gn o d=true∧0≤s∧s≤109951162∧0≤t∧t≤1099511627776∧nT o d s t=gi o d t-(s*10000+2120):=by
 have h0:=h
 unfold mS at h
 cases h1:gn o d with
 |false=>rw[h1]at h;cases h
 |true=>
  rw[h1]at h
  simp only[Du]at h
  cases h2:(eD s&&(decide (0≤t)&&decide (t≤1099511627776)))with
  |false=>rw[h2]at h;cases h
  |true=>
   unfold eD at h2
   simp only[Db,Dc]at h2
   obtain⟨⟨q1,q2⟩,q3,q4⟩:=h2
   have:=o8 h1 q3 q4
   refine⟨rfl,q1,q2,q3,q4,?_⟩
   unfold nT
   rw[h0]
   exact aX (by omega) (by omega)
theorem oZ{o d l c s x:Int}(h:tY o d l c s x=0):l<s∧ -4999≤x∧x≤4999∧tz o d x=true:=by
 unfold tY at h
 cases h1:decide (s≤l)with
 |true=>rw[h1]at h;cases h
 |false=>
  cases h2:(decide (x< -4999)||decide (4999<x))with
  |true=>rw[h1,h2]at h;cases h
  |false=>
   cases h3:decide (c=4096)with
   |true=>rw[h1,h2,h3]at h;cases h
   |false=>
    cases h4:tz o d x with
    |false=>rw[h1,h2,h3,h4]at h;cases h
    |true=>
     have h1:=Dv h1
     simp only[Bool.or_eq_false_iff,Di]at h2
     exact⟨by omega,by omega,by omega,rfl⟩
theorem qQ{o d l c s x:Int}(h:tY o d l c s x=0):uJ o d l c s x=[FV (o+x),FV d,FV s,FV (cY (c+1))]∧gn (o+x) d=true:=by
 obtain⟨_,h2,h3,h4⟩:=oZ h
 unfold tz at h4
 simp only[Db]at h4
 obtain⟨q1,q2,_,_⟩:=m7 h4.1.1.1
 have w:cY (o+x)=o+x:=aX (by omega) (by omega)
 unfold uJ
 rw[h,w]
 rw[w]at h4
 exact⟨rfl,h4.2⟩
theorem oY{y:Sy}{a b c d:Int}(h:[SV.int .i64 a,FV b,FV c,FV d]=mu y):y=⟨a,b,c,d⟩:=by
 cases y
 simp only[mu,Fs,SV.int.injEq,true_and,and_true]at h
 obtain⟨rfl,rfl,rfl,rfl⟩:=h
 rfl
theorem zP{ak:Bool}{a b y:Sy}{s:Int}(hE:v5 ak a b s=0)(hy:mr ak a b s=mu y):y.d=a.d∧gn y.o y.d=true∧
 (ak=false→gO b.o b.d s=0∧sh (cl y) (cL b.o b.d s)=s*10000+2120)∧
 (ak=true→gO a.o a.d s=0∧gn b.o b.d=true∧ -4999≤sh (cl b) (cL a.o a.d s)-(s*10000+2120)∧sh (cl b) (cL a.o a.d s)-(s*10000+2120)≤4999∧sh (cl y) (cL a.o a.d s)=sh (cl a) (cL a.o a.d s)+(sh (cl b) (cL a.o a.d s)-(s*10000+2120))):=by
 have shift:∀{o o' d t:Int},sh (o',d) t=sh (o,d) t+(o'-o):=fun{o o' d t}=>by simp only[sh];omega
 cases ak with
 |false=>
  have hE:vJ a.o a.d a.l a.c b.o b.d s=0:=hE
  have hy:sN a.o a.d a.l a.c b.o b.d s=mu y:=hy
  unfold vJ at hE
  unfold sN at hy
  cases h1:decide (gO b.o b.d s=0)with
  |false=>rw[h1]at hE;exact absurd hE (Dv h1)
  |true=>
   have h1':=D4 h1
   rw[h1]at hE hy
   simp only[Du]at hE hy
   unfold yP at hE
   unfold vM at hy
   cases h2:nN a.o a.d a.l a.c with
   |false=>rw[h2]at hE;cases hE
   |true=>
    cases h3:decide (mS a.o a.d s (cL b.o b.d s)=0)with
    |false=>rw[h2,h3]at hE;exact absurd hE (Dv h3)
    |true=>
     rw[h2,h3]at hE hy
     simp only[Du,D6]at hE hy
     obtain⟨k1,k2,k3,k4,k5,k6⟩:=uI (D4 h3)
     obtain⟨v1,v2⟩:=qQ hE
     rw[v1]at hy
     have hyy:=oY hy
     have hr:=o8 k1 k4 k5
     have hw:cY (0-nT a.o a.d s (cL b.o b.d s))=0-nT a.o a.d s (cL b.o b.d s):=aX (by omega) (by omega)
     rw[hw,k6]at hyy v2
     rw[hyy]
     refine⟨rfl,v2,fun _=>⟨h1',?_⟩,fun h=>by cases h⟩
     have e:=shift (o:=a.o) (o':=a.o+(0-(gi a.o a.d (cL b.o b.d s)-(s*10000+2120)))) (d:=a.d) (t:=cL b.o b.d s)
     have e2:=kA (a:=a) k1 k4 k5
     show sh (a.o+(0-(gi a.o a.d (cL b.o b.d s)-(s*10000+2120))),a.d) (cL b.o b.d s)=_
     rw[e]
     have e2:gi a.o a.d (cL b.o b.d s)=sh (a.o,a.d) (cL b.o b.d s):=e2
     omega
 |true=>
  have hE:vL a.o a.d a.l a.c b.o b.d s=0:=hE
  have hy:va a.o a.d a.l a.c b.o b.d s=mu y:=hy
  unfold vL at hE
  unfold va at hy
  cases h1:decide (gO a.o a.d s=0)with
  |false=>rw[h1]at hE;exact absurd hE (Dv h1)
  |true=>
   have h1':=D4 h1
   cases h3:decide (mS b.o b.d s (cL a.o a.d s)=0)with
   |false=>rw[h1,h3]at hE;exact absurd hE (Dv h3)
   |true=>
    rw[h1,h3]at hE hy
    simp only[Du,D6]at hE hy
    unfold tM at hE
    unfold qe at hy
    cases h2:nN a.o a.d a.l a.c with
    |false=>rw[h2]at hE;cases hE
    |true=>
     cases h4:eD s with
     |false=>rw[h2,h4]at hE;cases hE
     |true=>
      rw[h2,h4]at hE hy
      simp only[Du,D6]at hE hy
      obtain⟨k1,k2,k3,k4,k5,k6⟩:=uI (D4 h3)
      obtain⟨v1,v2⟩:=qQ hE
      obtain⟨_,x1,x2,_⟩:=oZ hE
      rw[v1]at hy
      have hyy:=oY hy
      have e2:gi b.o b.d (cL a.o a.d s)=sh (cl b) (cL a.o a.d s):=kA (a:=b) k1 k4 k5
      rw[k6,e2]at hyy v2 x1 x2
      rw[hyy]
      refine⟨rfl,v2,fun h=>(by cases h),fun _=>⟨h1',k1,by omega,by omega,?_⟩⟩
      have e:=shift (o:=a.o) (o':=a.o+(sh (cl b) (cL a.o a.d s)-(s*10000+2120))) (d:=a.d) (t:=cL a.o a.d s)
      show sh (a.o+(sh (cl b) (cL a.o a.d s)-(s*10000+2120)),a.d) (cL a.o a.d s)=sh (a.o,a.d) (cL a.o a.d s)+_
      rw[e];omega
end K
namespace K
def dN(P:List Int)(i:Nat):Nat:=(bL P P.length (i:Nat)).getD 0
def dL(P:List Int):List Nat:=(List.range P.length).map (dN P)
theorem fF(P:List Int):(dL P).length=P.length:=by simp[dL]
theorem qT{P:List Int}{i:Nat}(h:i<P.length):(dL P)[i]?=some (dN P i):=by simp[dL,h]
theorem w8(P:List Int):nS (dL P)=(List.range P.length).map (tV P):=by
 simp only[nS,dL,List.map_map]
 rfl
theorem kF{P:List Int}(h:gF P=true){i:Nat}(hi:i<P.length):bL P P.length (i:Nat)=some (dN P i):=by
 unfold gF at h
 simp only[Db,Dg,Dn]at h
 obtain⟨d,hd⟩:=Fm.1 (h.2 i hi)
 unfold dN
 rw[hd]
 rfl
theorem qE{P:List Int}(h:gF P=true){i:Nat}(hi:i<P.length):dN P i<P.length:=lG (kF h hi)
theorem o0{P:List Int}(h1:1≤P.length):dN P 0=0:=by
 unfold dN
 obtain⟨f,hf⟩:∃f,P.length=f+1:=⟨P.length-1,by omega⟩
 rw[hf,eI]
 rfl
theorem uP{P:List Int}(h:gF P=true){i p:Nat}(h0:1≤i)(hi:i<P.length)(hp:P[i]?=some (p:Int)):p<P.length∧dN P i=dN P p+1:=by
 have h1:=kF h hi
 obtain⟨f,hf⟩:∃f,P.length=f+1:=⟨P.length-1,by omega⟩
 have hg:P.getD ((i:Nat):Int).toNat 0=(p:Int):=by rw[EA,DY,hp];rfl
 rw[hf,eI,hg,DR (show ¬((i:Nat):Int)=0 by omega)]at h1
 simp only[Dw]at h1
 cases h2:(decide ((p:Int)<0)||decide ((P.length:Int)≤(p:Int)))with
 |true=>rw[h2]at h1;cases h1
 |false=>
  rw[h2]at h1
  simp only[Bool.or_eq_false_iff,Di]at h2
  simp only[Dw,C5]at h1
  obtain⟨d,hd,he⟩:=h1
  refine⟨by omega,?_⟩
  have h3:=js hd
  rw[←hf]at h3
  have:dN P p=d:=by unfold dN;rw[h3];rfl
  omega
structure Inv(P:List Int)(L:List Sy)(M:List Int)(keep s:Int):Prop where
 hL:L.length=P.length
 hM:M.length=P.length
 fr:∀i,1≤i→∀a r l,L[i]?=some a→L[0]?=some r→M[i]?=some l→0≤l→l≤s∧Fr (cl a) (cl r) (keep+1) (dN P i) l
theorem um{M:List Int}{keep s:Int}{i:Nat}(h:nM M keep i s=true)(hs:s≤20000)(h0:i≠0):∃l,M[i]?=some l∧0≤l∧cY (s-l)≤keep:=by
 unfold nM at h
 rw[DR (show ¬((i:Nat):Int)=0 by omega),EA,Ev]at h
 cases hm:M[i]? with
 |none=>rw[hm]at h;cases h
 |some l=>
  rw[hm]at h
  simp only[Db,Dc]at h
  exact⟨l,rfl,h.1,h.2⟩
theorem wu{k:Int}(hk:0≤k):0≤St k+4:=by have:=qI hk;omega
theorem Inv.own{P:List Int}{L:List Sy}{M:List Int}{keep s0 s t:Int}(I:Inv P L M keep s0)(h1:1≤P.length)(hk:0≤keep)(hs0:s0≤s)(hs:s≤s0+1∨True)(hs2:s≤20000){i:Nat}{a r:Sy}(ha:L[i]?=some a)(hr:L[0]?=some r)(ca:Dr (cl a))(cr:Dr (cl r))
 (hf:nM M keep i s=true) (g1: -5001≤sh (cl a) t-(s*10000+2120)) (g2:sh (cl a) t-(s*10000+2120)≤5001) :
 -((dN P i:Int)*(St (keep+1)+4))≤sh (cl a) t-sh (cl r) t∧sh (cl a) t-sh (cl r) t≤(dN P i:Int)*(St (keep+1)+4):=by
 rcases Fp i with rfl|hp
 ·rw[ha]at hr
  cases hr
  rw[o0 h1]
  simp
 ·obtain⟨l,hl,l0,l1⟩:=um hf hs2 (by omega)
  obtain⟨l2,hF⟩:=I.fr i hp a r l ha hr hl l0
  have hw:cY (s-l)=s-l:=aX (by omega) (by omega)
  exact Fr.own ca cr (by omega) hF (by omega) (by omega) g1 g2
theorem Inv.root{P:List Int}{L:List Sy}{M:List Int}{keep s0 s t V:Int}(I:Inv P L M keep s0)(h1:1≤P.length)(hk:0≤keep)(hs0:s0≤s)(hs2:s≤20000){i:Nat}{a r:Sy}(ha:L[i]?=some a)(hr:L[0]?=some r)(ca:Dr (cl a))(cr:Dr (cl r))
 (hf:nM M keep i s=true) (g1: -V≤sh (cl r) t-(s*10000+2120)) (g2:sh (cl r) t-(s*10000+2120)≤V) (hV:V+(dN P i:Int)*(St (keep+1)+4)≤6000) :
 -((dN P i:Int)*(St (keep+1)+4))≤sh (cl a) t-sh (cl r) t∧sh (cl a) t-sh (cl r) t≤(dN P i:Int)*(St (keep+1)+4):=by
 rcases Fp i with rfl|hp
 ·rw[ha]at hr
  cases hr
  rw[o0 h1]
  simp
 ·obtain⟨l,hl,l0,l1⟩:=um hf hs2 (by omega)
  obtain⟨l2,hF⟩:=I.fr i hp a r l ha hr hl l0
  have hw:cY (s-l)=s-l:=aX (by omega) (by omega)
  have e:=AG (keep+1) (dN P i)
  have:=qI (k:=keep+1) (by omega)
  exact Fr.root ca cr (by omega) hF (by omega) (by omega) g1 g2 (by omega)
def kO(M:List Int)(keep:Int)(p:Nat)(s:Int)(c:Sy):Bool:=nM M keep p s&&decide (gO c.o c.d s=0)&&decide (0<cL c.o c.d s)
theorem Inv.step{P:List Int}{L:List Sy}{M:List Int}{keep s0 s:Int}(I:Inv P L M keep s0)(hd:gF P=true)(h1:1≤P.length)(hk:0≤keep)(hs0:s0≤s)(hs2:s≤10000)(h0:0≤s0){nd p:Nat}(hn:1≤nd)(hnl:nd<P.length)(hp:P[nd]?=some (p:Int))
 {a b y:Sy} (ha:L[nd]?=some a) (hb:L[p]?=some b) {ak:Bool} (hE:v5 ak a b s=0) (hy:mr ak a b s=mu y) (hok:∀x∈L,rf x=true) :
 Inv P (L.set nd y) (M.set nd (if kO M keep p s (if ak then a else b)then s else -1)) keep s∧∀x∈L.set nd y,Dr (cl x):=by
 obtain⟨c1,c2,c3,c4⟩:=zP hE hy
 have hDr:∀x∈L,Dr (cl x):=fun x hx=>se (uY (hok x hx))
 refine⟨⟨by simp[I.hL],by simp[I.hM],fun i hi x r l hx hr hl l0=>?_⟩,fun x hx=>?_⟩
 ·have hr:L[0]?=some r:=by rw[Dt (by omega)]at hr;exact hr
  rcases Decidable.em (nd=i)with rfl|hne
  ·rw[EN (by rw[I.hL];exact hnl)]at hx
   rw[EN (by rw[I.hM];exact hnl)]at hl
   cases hx
   cases hg:kO M keep p s (if ak then a else b)with
   |false=>rw[hg]at hl;simp at hl;omega
   |true=>
    rw[hg]at hl
    simp only[if_true,Dd]at hl
    subst hl
    refine⟨Int.le_refl s,?_⟩
    obtain⟨hpl,hdp⟩:=uP hd hn hnl hp
    unfold kO at hg
    simp only[Db,Dc]at hg
    obtain⟨⟨hf,_⟩,ht⟩:=hg
    have cb:=hDr b (Dm hb)
    have cr:=hDr r (Dm hr)
    rw[hdp,show((dN P p+1:Nat):Int)=(dN P p:Int)+1 by omega]
    cases ak with
    |false=>
     simp only[Dp,if_false]at ht
     obtain⟨d1,d2⟩:=c3 rfl
     obtain⟨_,_,_,e1,e2⟩:=rh d1
     have e2:=e2 ht
     have:=I.own h1 hk hs0 (.inr trivial) (by omega) hb hr cb cr hf (t:=cL b.o b.d s) (by omega) (by omega)
     exact Fr.AP this e1 e2 d2
    |true=>
     simp only[if_true]at ht
     obtain⟨d1,_,d2,d3,d4⟩:=c4 rfl
     obtain⟨_,_,_,e1,e2⟩:=rh d1
     have e2:=e2 ht
     have:=I.own h1 hk hs0 (.inr trivial) (by omega) hb hr cb cr hf (t:=cL a.o a.d s) (by omega) (by omega)
     exact Fr.Cz this d2 d3 (by omega) (by omega)
  ·rw[Dt hne]at hx hl
   obtain⟨q1,q2⟩:=I.fr i hi x r l hx hr hl l0
   exact⟨by omega,q2⟩
 ·rcases List.mem_or_eq_of_mem_set hx with h|rfl
  ·exact hDr x h
  ·exact se c2
theorem Inv.pass{P:List Int}{L:List Sy}{M:List Int}{keep s:Int}(I:Inv P L M keep s)(hd:gF P=true)(h1:1≤P.length)(h6:P.length≤6)(hk:0≤keep)(h0:0≤s)(hs2:s≤10000)(hDr:∀x∈L,Dr (cl x))(a b:Nat):pass L (dL P) M (s+1) keep a b:=by
 intro A B da db hA hB hda hdb hne hsp hfa hfb hE hg ht
 obtain⟨r,hr⟩:=iy (l:=L) (i:=0) (by rw[I.hL];omega)
 have hal:a<P.length:=by rw[←I.hL];exact(C7.1 hA).1
 have hbl:b<P.length:=by rw[←I.hL];exact(C7.1 hB).1
 rw[qT hal]at hda
 rw[qT hbl]at hdb
 cases hda
 cases hdb
 have l1:=qE hd hal
 have l2:=qE hd hbl
 have cA:=hDr A (Dm hA)
 have cB:=hDr B (Dm hB)
 have cr:=hDr r (Dm hr)
 obtain⟨_,t0,t1,e1,e2⟩:=rh hg
 have e2:=e2 ht
 have hE0:=hE
 unfold vB at hE
 rw[Dj hg]at hE
 simp only[Du]at hE
 obtain⟨T,hT⟩:∃T,cL A.o A.d (s+1)=T:=⟨_,rfl⟩
 unfold yu
 rw[hE0]
 rw[hT]at t0 t1 e1 e2⊢
 have pa:=I.own h1 hk (show s≤s+1 by omega) (.inr trivial) (by omega) hA hr cA cr hfa (t:=T) (by omega) (by omega)
 have f1:=Int.add_mul (dN P a) (dN P b) (St (keep+1)+4)
 have f2:=Int.mul_add ((dN P a:Int)+(dN P b:Int)) (St (keep+1)) 4
 have nn:=wu (k:=keep+1) (by omega)
 have n1:=FU (show(0:Int)≤(dN P a:Int) by omega) nn
 have n2:=FU (show(0:Int)≤(dN P b:Int) by omega) nn
 have pb:=I.root h1 hk (show s≤s+1 by omega) (by omega) hB hr cB cr hfb (t:=T) (V:=(dN P a:Int)*(St (keep+1)+4)+1) (by omega) (by omega) (by omega)
 obtain⟨g1,g2⟩:=zi pa pb hsp (by omega) e1 (by omega)
 unfold vE at hE
 unfold vO xn
 cases hb:pK B.o B.d (s+1)with
 |false=>
  rw[hb]at hE
  exact absurd hE (Dv (lK hb))
 |true=>
  rw[hb]at hE
  obtain⟨k1,_,_,_⟩:=iO hb
  simp only[Du]at hE
  unfold rE at hE
  cases hq:decide (gi B.o B.d 1099511627776<(s+1)*10000+3221)with
  |true=>rw[hq]at hE;cases hE
  |false=>
   have hq:=Dv hq
   rw[Dj (show(s+1)*10000+3221≤gi B.o B.d 1099511627776 by omega)]
   have hx:=kA (a:=B) k1 t0 t1
   obtain⟨w1,w2,w3,w4⟩:=lW (x:=(s+1)*10000+1020) k1 (by omega)
   obtain⟨v1,v2,v3,v4⟩:=lW (x:=(s+1)*10000+3221) k1 (by omega)
   have wv:cY (rV B.o B.d ((s+1)*10000+3221)-1)=rV B.o B.d ((s+1)*10000+3221)-1:=aX (by omega) (by omega)
   simp only[D6,Du,wv]
   have i1:rV B.o B.d ((s+1)*10000+1020)≤T:=by
    rcases Int.lt_or_le T (rV B.o B.d ((s+1)*10000+1020))with h|h
    ·have:=w1 T t0 h;omega
    ·exact h
   have i2:T≤rV B.o B.d ((s+1)*10000+3221)-1:=by
    rcases Int.lt_or_le T (rV B.o B.d ((s+1)*10000+3221))with h|h
    ·omega
    ·have:=na k1 v3 h t1;omega
   rw[Dj i1,Dj i2]
   rfl
end K
end Go.Sh
