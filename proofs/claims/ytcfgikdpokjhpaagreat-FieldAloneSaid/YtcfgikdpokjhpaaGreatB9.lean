/- A part of the proof: texts K19sa, K19sb, ShLi, K19sc, K19sd, K19se, K19sf, K19sg, K19sh, K19si, K19sj. -/
import Derived.Test.YtcfgikdpokjhpaaGreatB8
import Derived.Test.YtcfgikdpokjhpaaGreatB3
import Derived.Test.YtcfgikdpokjhpaaGreatB6
import Derived.Test.YtcfgikdpokjhpaaGreatB7
namespace Go.Sh
set_option linter.unusedSectionVars false
set_option linter.unnecessarySimpa false
set_option linter.unusedSimpArgs false
set_option linter.unusedVariables false
set_option maxRecDepth 100000
set_option maxHeartbeats 4000000
namespace Q
def cU(key:Nat→Int):List Nat→List Nat→List Nat
 |[],Y=>Y
 |X,[]=>X
 |x::X,y::Y=>bif decide (key y<key x)then y::cU key (x::X) Y else x::cU key X (y::Y)
theorem cR(key:Nat→Int)(X:List Nat):cU key X []=X:=by cases X<;>simp[cU]
theorem cz(key:Nat→Int)(X:List Nat):cU key [] X=X:=by simp[cU]
theorem cV{key:Nat→Int}{x y:Nat}(h:key y<key x)(X Y:List Nat):cU key (x::X) (y::Y)=y::cU key (x::X) Y:=by
 rw[cU,acp h];rfl
theorem dp{key:Nat→Int}{x y:Nat}(h:¬key y<key x)(X Y:List Nat):cU key (x::X) (y::Y)=x::cU key X (y::Y):=by
 rw[cU,acs h];rfl
theorem oB(key:Nat→Int):∀X Y,(cU key X Y).length=X.length+Y.length
 |[],Y=>by simp[cU]
 |x::X,[]=>by simp[cU]
 |x::X,y::Y=>by
  by_cases h:key y<key x
  ·rw[cV h,acR,oB key (x::X) Y];simp;omega
  ·rw[dp h,acR,oB key X (y::Y)];simp;omega
theorem iR(key:Nat→Int):∀X Y z,z∈cU key X Y↔z∈X∨z∈Y
 |[],Y,z=>by simp[cU]
 |x::X,[],z=>by simp[cU]
 |x::X,y::Y,z=>by
  by_cases h:key y<key x
  ·rw[cV h,adj,iR key (x::X) Y z];simp only[adj];grind
  ·rw[dp h,adj,iR key X (y::Y) z];simp only[adj];grind
theorem jC(key:Nat→Int):∀X Y Z,cU key (cU key X Y) Z=cU key X (cU key Y Z)
 |[],Y,Z=>by simp[cz]
 |x::X,[],Z=>by simp[cz,cR]
 |x::X,y::Y,[]=>by simp[cR]
 |x::X,y::Y,z::Z=>by
  by_cases h:key y<key x
  ·by_cases h2:key z<key y
   ·have h3:key z<key x:=by omega
    have ih:=jC key (x::X) (y::Y) Z
    rw[cV h]at ih⊢
    rw[cV h2,cV h2,cV h3,ih]
   ·rw[cV h,dp h2,dp h2,cV h,jC key (x::X) Y (z::Z)]
  ·by_cases h2:key z<key x
   ·have h3:key z<key y:=by omega
    have ih:=jC key (x::X) (y::Y) Z
    rw[dp h]at ih⊢
    rw[cV h2,cV h3,cV h2,ih]
   ·have ih:=jC key X (y::Y) (z::Z)
    rw[dp h,dp h2,ih]
    by_cases h3:key z<key y
    ·rw[cV h3,dp h2]
    ·rw[dp h3,dp h]
termination_by X Y Z=>X.length+Y.length+Z.length
def pv(key:Nat→Int)(X:List Nat):Prop:=X.Pairwise fun x y=>key x≤key y
theorem ve(key:Nat→Int):∀X Y,pv key X→pv key Y→pv key (cU key X Y)
 |[],Y,_,hY=>by rw[cz];exact hY
 |x::X,[],hX,_=>by rw[cR];exact hX
 |x::X,y::Y,hX,hY=>by
  have hX':=adx.1 hX
  have hY':=adx.1 hY
  by_cases h:key y<key x
  ·rw[cV h]
   refine adx.2 ⟨fun z hz=>?_,ve key (x::X) Y hX hY'.2⟩
   rcases(iR key _ _ z).1 hz with h1|h1
   ·rcases adj.1 h1 with rfl|h1
    ·omega
    ·have:=hX'.1 z h1;omega
   ·exact hY'.1 z h1
  ·rw[dp h]
   refine adx.2 ⟨fun z hz=>?_,ve key X (y::Y) hX'.2 hY⟩
   rcases(iR key _ _ z).1 hz with h1|h1
   ·exact hX'.1 z h1
   ·rcases adj.1 h1 with rfl|h1
    ·omega
    ·have:=hY'.1 z h1;omega
theorem ga(key:Nat→Int):∀A1 B1 A2 B2:List Nat,(∀a∈A1,∀b∈B2,¬key b<key a)→(∀b∈B1,∀a∈A2,key b<key a)→cU key (A1++A2) (B1++B2)=cU key A1 B1++cU key A2 B2
 |[],[],A2,B2,_,_=>by simp[cz]
 |[],b::B1,[],B2,_,_=>by simp[cz]
 |[],b::B1,a::A2,B2,h1,h2=>by
  have hb:=h2 b (by simp) a (by simp)
  have ih:=ga key [] B1 (a::A2) B2 (by simp) (fun b' hb'=>h2 b' (by simp[hb']))
  simp only[adu,cz]at ih
  simp only[adu,cz,adE]
  rw[cV hb,ih]
 |a::A1,[],A2,[],_,_=>by simp[cR]
 |a::A1,[],A2,b::B2,h1,h2=>by
  have hb:=h1 a (by simp) b (by simp)
  have ih:=ga key A1 [] A2 (b::B2) (fun a' ha'=>h1 a' (by simp[ha'])) (by simp)
  simp only[adu,cR]at ih
  simp only[adu,cR,adE]
  rw[dp hb,ih]
 |a::A1,b::B1,A2,B2,h1,h2=>by
  simp only[adE]
  by_cases h:key b<key a
  ·rw[cV h,cV h]
   have ih:=ga key (a::A1) B1 A2 B2 h1 (fun b' hb'=>h2 b' (by simp[hb']))
   simp only[adE]at ih
   rw[ih,adE]
  ·rw[dp h,dp h]
   have ih:=ga key A1 (b::B1) A2 B2 (fun a' ha'=>h1 a' (by simp[ha'])) h2
   simp only[adE]at ih
   rw[ih,adE]
termination_by A1 B1=>A1.length+B1.length
def fw(key:Nat→Int)(X:List Nat):List Nat:=X.foldl (fun Z x=>cU key Z [x]) []
theorem sd(key:Nat→Int):∀(X Z:List Nat),X.foldl (fun Z x=>cU key Z [x]) Z=cU key Z (fw key X)
 |[],Z=>by simp[fw,cR]
 |x::X,Z=>by
  have e1:=sd key X (cU key Z [x])
  have e2:=sd key X (cU key [] [x])
  simp only[adB]
  rw[e1,jC]
  refine congrArg (cU key Z) ?_
  unfold fw
  rw[adB,e2,cz]
  rfl
theorem j0(key:Nat→Int)(X Y:List Nat):fw key (X++Y)=cU key (fw key X) (fw key Y):=by
 rw[fw,afT,sd];rfl
theorem ma(key:Nat→Int)(x:Nat):fw key [x]=[x]:=by simp[fw,cz]
theorem EB(key:Nat→Int)(X:List Nat)(x:Nat):fw key (X++[x])=cU key (fw key X) [x]:=by
 rw[j0,ma]
theorem lS(key:Nat→Int)(X:List Nat):(fw key X).length=X.length:=by
 induction X with
 |nil=>rfl
 |cons x X ih=>
  have:=j0 key [x] X
  rw[aey]at this
  rw[this,oB,ih,acR,ma]
  simp;omega
theorem jW(key:Nat→Int)(X:List Nat)(z:Nat):z∈fw key X↔z∈X:=by
 induction X with
 |nil=>exact Iff.rfl
 |cons x X ih=>
  have:=j0 key [x] X
  rw[aey]at this
  rw[this,iR,ih,adj]
  have:z∈fw key [x]↔z=x:=by simp[fw,cz]
  rw[this]
theorem lJ(key:Nat→Int)(X:List Nat):pv key (fw key X):=by
 induction X with
 |nil=>exact List.Pairwise.nil
 |cons x X ih=>
  have:=j0 key [x] X
  rw[aey]at this
  rw[this]
  exact ve key _ _ (by simp[fw,cz,pv]) ih
theorem uV(key:Nat→Int)(Z W:List Nat)(x:Nat)(h1:∀z∈Z,¬key x<key z)(h2:∀w∈W,key x<key w):cU key (Z++W) [x]=Z++x::W:=by
 have:=ga key Z [] W [x] (fun a ha b hb=>by simp only[adH]at hb;subst hb;exact h1 a ha) (by simp)
 simp only[adu,cR]at this
 rw[this]
 cases W with
 |nil=>simp[cz]
 |cons w W=>rw[cV (h2 w (by simp)),cR]
theorem GZ(key:Nat→Int)(Z W:List Nat)(x:Nat)(h1:∀z∈Z,key z<key x)(h2:∀w∈W,¬key w<key x):cU key [x] (Z++W)=Z++x::W:=by
 have:=ga key [] Z [x] W (by simp) (fun b hb a ha=>by simp only[adH]at ha;subst ha;exact h1 b hb)
 simp only[adu,cz]at this
 rw[this]
 cases W with
 |nil=>simp[cR]
 |cons w W=>rw[dp (h2 w (by simp)),cz]
end Q
namespace Q
def sw(M:List Nat)(i j:Nat):List Nat:=match M[i]?,M[j]? with
 |some x,some y=>(M.set i y).set j x
 |_,_=>M
theorem yq(M:List Nat)(i j:Nat):(sw M i j).length=M.length:=by
 unfold sw
 split<;>simp
theorem sU{M:List Nat}{i j:Nat}{x y:Nat}(hx:M[i]?=some x)(hy:M[j]?=some y):sw M i j=(M.set i y).set j x:=by unfold sw;rw[hx,hy]
theorem fi(P R:List Nat)(u:Nat):(P++u::R)[P.length]?=some u:=by simp
theorem qb(P R:List Nat)(u w:Nat):(P++u::R).set P.length w=P++w::R:=by simp
theorem Du(P Q R:List Nat)(u v i j:Nat)(hi:i=P.length)(hj:j=P.length+1+Q.length):sw (P++u::(Q++v::R)) i j=P++v::(Q++u::R):=by
 subst hi hj
 have e:∀u v:Nat,P++u::(Q++v::R)=(P++u::Q)++v::R:=fun u v=>by simp
 have l:P.length+1+Q.length=(P++u::Q).length:=by simp;omega
 have l2:P.length+1+Q.length=(P++v::Q).length:=by simp;omega
 have h1:=fi P (Q++v::R) u
 have h2:(P++u::(Q++v::R))[P.length+1+Q.length]?=some v:=by rw[e,l];exact fi _ _ _
 rw[sU h1 h2,qb,e,l2,qb,←e]
theorem pX(P Q R:List Nat)(u v i j:Nat)(hi:i=P.length)(hj:j=P.length+1+Q.length):sw (P++u::(Q++v::R)) j i=P++v::(Q++u::R):=by
 subst hi hj
 have e:∀u v:Nat,P++u::(Q++v::R)=(P++u::Q)++v::R:=fun u v=>by simp
 have l:P.length+1+Q.length=(P++u::Q).length:=by simp;omega
 have h1:=fi P (Q++v::R) u
 have h2:(P++u::(Q++v::R))[P.length+1+Q.length]?=some v:=by rw[e,l];exact fi _ _ _
 rw[sU h2 h1]
 have:(P++u::(Q++v::R)).set (P.length+1+Q.length) u=P++u::(Q++u::R):=by rw[e,l,qb,←e]
 rw[this,qb]
def yL(M:List Nat)(a b:Nat):Nat→List Nat
 |0=>M
 |i+1=>sw (yL M a b i) (a+i) (b+i)
theorem Ai(M:List Nat)(a b:Nat):∀i,(yL M a b i).length=M.length
 |0=>rfl
 |i+1=>(yq _ _ _).trans (Ai M a b i)
theorem zc{M:List Nat}{i j x:Nat}(h:x∈sw M i j):x∈M:=by
 unfold sw at h
 split at h
 ·rename_i u w hu hw
  rcases List.mem_or_eq_of_mem_set h with h|rfl
  ·rcases List.mem_or_eq_of_mem_set h with h|rfl
   ·exact h
   ·exact acy hw
  ·exact acy hu
 ·exact h
theorem qW{M:List Nat}{a b x:Nat}:∀{i},x∈yL M a b i→x∈M
 |0,h=>h
 |i+1,h=>qW (zc h)
theorem Ax(P U Q V R:List Nat)(h:U.length=V.length):∀i,i≤U.length→
 yL (P++(U++(Q++(V++R)))) P.length (P.length+U.length+Q.length) i=P++(V.take i++(U.drop i++(Q++(U.take i++(V.drop i++R)))))
 |0,_=>by simp[yL]
 |i+1,hi=>by
  rw[yL,Ax P U Q V R h i (by omega)]
  obtain⟨u,hu⟩:∃u,U[i]?=some u:=⟨U[i],acK (by omega)⟩
  obtain⟨v,hv⟩:∃v,V[i]?=some v:=⟨V[i],acK (by omega)⟩
  obtain⟨hu1,hu2⟩:=acm.1 hu
  obtain⟨hv1,hv2⟩:=acm.1 hv
  have du:U.drop i=u::U.drop (i+1):=by rw[ad1 hu1,hu2]
  have dv:V.drop i=v::V.drop (i+1):=by rw[ad1 hv1,hv2]
  have tu:U.take (i+1)=U.take i++[u]:=by rw[adP,hu];rfl
  have tv:V.take (i+1)=V.take i++[v]:=by rw[adP,hv];rfl
  have:=Du (P++V.take i) (U.drop (i+1)++(Q++U.take i)) (V.drop (i+1)++R) u v (P.length+i) (P.length+U.length+Q.length+i) (by simp;omega) (by simp;omega)
  rw[du,dv,tu,tv]
  simp only[aco,adE,adu]at this⊢
  exact this
theorem ux(P U Q V R:List Nat)(a b n:Nat)(h:U.length=n)(h':V.length=n)(ha:a=P.length)(hb:b=P.length+n+Q.length) :
 yL (P++(U++(Q++(V++R)))) a b n=P++(V++(Q++(U++R))):=by
 subst ha hb h
 have:=Ax P U Q V R h'.symm U.length (acH _)
 rw[this,ac1 (by omega),aeb (by omega),ac1 (l:=U) (by omega),aeb (l:=V) (by omega)]
 simp
def mJ(key:Nat→Int)(M:List Nat)(i j:Nat):Bool:=match M[i]?,M[j]? with
 |some x,some y=>decide (key x<key y)
 |_,_=>false
theorem oZ{key:Nat→Int}{M:List Nat}{i j:Nat}{x y:Nat}(hx:M[i]?=some x)(hy:M[j]?=some y):mJ key M i j=decide (key x<key y):=by unfold mJ;rw[hx,hy]
def kS(key:Nat→Int)(a:Nat):Nat→List Nat→List Nat
 |0,M=>M
 |j+1,M=>bif decide (a<j+1)&&mJ key M (j+1) j then kS key a j (sw M (j+1) j)else M
theorem wU(key:Nat→Int)(a:Nat):∀j M,(kS key a j M).length=M.length
 |0,M=>rfl
 |j+1,M=>by
  unfold kS
  cases decide (a<j+1)&&mJ key M (j+1) j
  ·rfl
  ·exact(wU key a j _).trans (yq _ _ _)
def uS(M:List Nat)(j:Nat):Nat→List Nat
 |0=>M
 |q+1=>sw (uS M j q) (j-q) (j-q-1)
theorem xa(M:List Nat)(j:Nat):∀q,(uS M j q).length=M.length
 |0=>rfl
 |q+1=>(yq _ _ _).trans (xa M j q)
def kr(key:Nat→Int)(M:List Nat)(a:Nat):Nat→List Nat
 |0=>M
 |i+1=>kS key a (a+1+i) (kr key M a i)
theorem xu(key:Nat→Int)(M:List Nat)(a:Nat):∀i,(kr key M a i).length=M.length
 |0=>rfl
 |i+1=>(wU _ _ _ _).trans (xu key M a i)
theorem lY{key:Nat→Int}{Z W:List Nat}(h:pv key (Z++W)):pv key Z∧pv key W∧∀z∈Z,∀w∈W,key z≤key w:=by
 have:=ad6.1 h
 exact⟨this.1,this.2.1,this.2.2⟩
theorem Hn(key:Nat→Int)(P:List Nat)(x:Nat)(R:List Nat):∀(Z W:List Nat) (j:Nat),pv key (Z++W)→(∀w∈W,key x<key w)→j=P.length+Z.length→
 kS key P.length j (P++(Z++(x::(W++R))))=P++(cU key (Z++W) [x]++R):=by
 intro Z
 obtain⟨n,hn⟩:∃n,Z.length=n:=⟨_,rfl⟩
 induction n generalizing Z with
 |zero=>
  intro W j hs hW hj
  cases adR hn
  simp only[acV,ad9]at hj
  subst hj
  rw[uV key [] W x (by simp) hW]
  cases hP:P.length with
  |zero=>simp[kS]
  |succ p=>
   unfold kS
   rw[acs (show ¬p+1<p+1 by omega)]
   simp
 |succ n ih0=>
  intro W j hs hW hj
  obtain⟨Z,z,rfl⟩:∃Z' z,Z=Z'++[z]:=by
   rcases afz Z with rfl|⟨Z',z,h⟩
   ·cases hn
   ·exact⟨Z',z,by simpa using h⟩
  have ih:=ih0 Z (by simpa using hn)
  simp only[acn,acR,acV]at hj
  obtain⟨j,rfl⟩:∃j',j=j'+1:=⟨P.length+Z.length,by omega⟩
  have hz:(P++(Z++[z]++(x::(W++R))))[j]?=some z:=by
   have:=fi (P++Z) (x::(W++R)) z
   rw[show(P++Z).length=j by simp;omega]at this
   simpa using this
  have hx:(P++(Z++[z]++(x::(W++R))))[j+1]?=some x:=by
   have:=fi (P++Z++[z]) (W++R) x
   rw[show(P++Z++[z]).length=j+1 by simp;omega]at this
   simpa using this
  unfold kS
  rw[acp (show P.length<j+1 by omega),oZ hx hz,ac9]
  by_cases hlt:key x<key z
  ·rw[acp hlt,acG]
   have hsw:=pX (P++Z) [] (W++R) z x j (j+1) (by simp;omega) (by simp;omega)
   simp only[adu,aco,adE]at hsw
   simp only[aco,adE,adu]
   rw[hsw]
   have:=ih (z::W) j (by simpa using hs) (fun w hw=>by
    rcases adj.1 hw with rfl|hw
    ·exact hlt
    ·exact hW w hw) (by omega)
   simp only[adE]at this
   rw[this]
  ·rw[acs hlt,acJ]
   have h3:=(lY hs).1
   have hall:∀y∈Z++[z],¬key x<key y:=fun y hy=>by
    rcases ady.1 hy with hy|hy
    ·have:=(lY h3).2.2 y hy z (by simp);omega
    ·simp only[adH]at hy;subst hy;exact hlt
   rw[uV key (Z++[z]) W x hall hW]
   simp
theorem Af(key:Nat→Int)(P X R:List Nat):∀i,i+1≤X.length→kr key (P++(X++R)) P.length i=P++(fw key (X.take (i+1))++(X.drop (i+1)++R))
 |0,hi=>by
  cases X with
  |nil=>simp at hi
  |cons x X=>simp[kr,ma]
 |i+1,hi=>by
  rw[kr,Af key P X R i (by omega)]
  obtain⟨u,hu⟩:∃u,X[i+1]?=some u:=⟨X[i+1],acK (by omega)⟩
  obtain⟨hu1,hu2⟩:=acm.1 hu
  have du:X.drop (i+1)=u::X.drop (i+1+1):=by rw[ad1 hu1,hu2]
  have tu:X.take (i+1+1)=X.take (i+1)++[u]:=by rw[adP,hu];rfl
  rw[du,tu,EB]
  have hl:(fw key (X.take (i+1))).length=i+1:=by rw[lS,adA];omega
  have:=Hn key P u (X.drop (i+1+1)++R) (fw key (X.take (i+1))) [] (P.length+1+i) (by simpa using lJ key _) (by simp) (by rw[hl];omega)
  simp only[adu,adn]at this
  exact this
theorem wY(key:Nat→Int)(P X R:List Nat)(a b:Nat)(ha:a=P.length)(hb:b=P.length+X.length):kr key (P++(X++R)) a (b-(a+1))=P++(fw key X++R):=by
 subst ha hb
 cases X with
 |nil=>simp[kr,fw]
 |cons x X=>
  have:=Af key P (x::X) R X.length (by simp)
  rw[show P.length+(x::X).length-(P.length+1)=X.length by simp;omega,this,ac1 (by simp),aeb (by simp)]
  simp
end Q
def mD(p:cu)(N:Nat)(H0:ab)(s':Env×ab)(I:Env×ab→Prop):Prop:=∃s,eu p N H0 s'=some s∧I s
def uC{R:Type}(p:cu)(N:Nat)(H0:ab)(I:Nat→Env×ab→Prop)(m i:Nat)(k:Out→Option R)(Q:R→Prop)(o:Out):Prop:=match o with
 |(.normal,s')=>i<m∧mD p N H0 s' (I (i+1))
 |o=>post (k o) Q
@[go_sem] theorem Qq {R:Type}(p N H0 I m i)(k:Out→Option R)(Q s):uC p N H0 I m i k Q (.normal,s)=(i<m∧mD p N H0 s (I (i+1))):=Eq.trans rfl rfl
@[go_sem] theorem MP {R:Type}(p N H0 I m i)(k:Out→Option R)(Q j s):uC p N H0 I m i k Q (.exit j,s)=post (k (.exit j,s)) Q:=Eq.trans rfl rfl
@[go_sem] theorem P0 {R:Type}(p N H0 I m i)(k:Out→Option R)(Q s):uC p N H0 I m i k Q (.ret,s)=post (k (.ret,s)) Q:=Eq.trans rfl rfl
theorem cw{R:Type}{p:cu}{N:Nat}{H0:ab}{rec:Rec}{a:ct}{s0:Env×ab}{k:Out→Option R}{Q:R→Prop}
 (I:Nat→Env×ab→Prop) (m:Nat) (h0:mD p N H0 s0 (I 0))
 (h:∀i s,i≤m→I i s→post (runK rec (fun x e H=>some (x,e,H)) a [] s.1 s.2 ()) (uC p N H0 I m i k Q)) :
 post (aN (kR (fo p N H0 rec a) s0) k ()) Q:=by
 have key:∀(j i:Nat) (s0 s:Env×ab),i+j=m→I i s→eu p N H0 s0=some s→∃n o,cP (fo p N H0 rec a) n s0=some o∧post (k o) Q:=by
  intro j
  induction j with
  |zero=>
   intro i s0 s hi hPi hs
   obtain⟨o,h1,h2⟩:=h i s (by omega) hPi
   have hf:fo p N H0 rec a s0=some o:=by rw[hU,hs];exact h1
   obtain⟨x,s'⟩:=o
   cases x with
   |normal=>exact absurd h2.1 (by omega)
   |exit id=>exact⟨1,_,by simp only[cP,hf],h2⟩
   |ret=>exact⟨1,_,by simp only[cP,hf],h2⟩
  |succ j ih=>
   intro i s0 s hi hPi hs
   obtain⟨o,h1,h2⟩:=h i s (by omega) hPi
   have hf:fo p N H0 rec a s0=some o:=by rw[hU,hs];exact h1
   obtain⟨x,s'⟩:=o
   cases x with
   |normal=>
    obtain⟨_,s2,h5,h6⟩:=h2
    obtain⟨n,o,h3,h4⟩:=ih (i+1) s' s2 (by omega) h6 h5
    exact⟨n+1,o,by simp only[cP,hf];exact h3,h4⟩
   |exit id=>exact⟨1,_,by simp only[cP,hf],h2⟩
   |ret=>exact⟨1,_,by simp only[cP,hf],h2⟩
 obtain⟨s,h1,h2⟩:=h0
 obtain⟨n,o,h3,h4⟩:=key m 0 s0 s (by omega) h2 h1
 rw[oC h3]
 exact h4
def c0(N:Nat)(es:List (Nat×Nat)):Prop:=∀p∈es,p.2≤N
theorem aV(N:Nat):c0 N []:=fun p h=>by cases h
theorem E4{N a b:Nat}{es:List (Nat×Nat)}(h:c0 N es)(hb:b≤N):c0 N ((a,b)::es):=fun p hp=>by
 rcases adj.1 hp with rfl|hp
 ·exact hb
 ·exact h p hp
theorem gu{N a b:Nat}{c:Bool}{es:List (Nat×Nat)}(h:c0 N es)(hb:b≤N):c0 N (bif c then es else(a,b)::es):=by
 cases c
 ·exact E4 h hb
 ·exact h
theorem cj{N:Nat}{es es':List (Nat×Nat)}(h:c0 N es)(h':c0 N es'):c0 N (es++es'):=fun p hp=>by
 rcases ady.1 hp with hp|hp
 ·exact h p hp
 ·exact h' p hp
theorem cd{N:Nat}{es:List (Nat×Nat)}(f:Nat×Nat→Bool)(h:c0 N es):c0 N (es.filter f):=fun p hp=>h p (adO.1 hp).1
theorem cO{N:Nat}{es:List (Nat×Nat)}(h:c0 N es):es.all (fun p=>!(decide (p.1<N)&&decide (N<p.2)))=true:=by
 rw[acZ]
 intro p hp
 have:=h p hp
 have h2:decide (N<p.2)=false:=acs (by omega)
 rw[h2,adk]
 rfl
theorem lG{N M:Nat}{es:List (Nat×Nat)}(h:c0 N es)(hm:N≤M):c0 M es:=fun p hp=>ac7 (h p hp) hm
theorem xN{N:Nat}{H0:ab}{bl:List aC}{es:List (Nat×Nat)}{ro:Nat}(hN:bl.length=N)(he:c0 N es):di N H0 ⟨bl,es,ro⟩=some ⟨bl,H0.bT++es.filter (fun p=>decide (p.1<N)),H0.ro⟩:=by
 subst hN
 rw[v3,cO he]
 simp
theorem vK{N:Nat}{H0:ab}{bl l:List aC}{es:List (Nat×Nat)}{ro:Nat}(hN:bl.length=N)(he:c0 N es):di N H0 ⟨bl++l,es,ro⟩=some ⟨bl,H0.bT++es.filter (fun p=>decide (p.1<N)),H0.ro⟩:=by
 subst hN
 rw[v3]
 show(bif _&&es.all _ then _ else _)=_
 rw[cO he]
 simp
theorem dN{T:FuncId→Option aB}{f:FuncId}{F:aB}{xs:List SV}{n:Nat}{H:ab}{Q:SV×ab→Prop}(hT:T f=some F)(hp:eI F xs=false)
 (h:post (runK (aa T n) (pZ F.res (fun v H'=>da F.keep H v H')) F.body [] (eo xs) ⟨H.bl,[],min H.ro H.bl.length⟩ ()) Q):∃r,aa T (n+1) (.fn f) xs H=some r∧Q r:=by
 obtain⟨r,h1,h2⟩:=h
 exact⟨r,bm hT hp h1,h2⟩
theorem sT{p:cu}{N:Nat}{H0:ab}{e:Env}{bl:List aC}{es:List (Nat×Nat)}{ro:Nat}(hv:p.bC=[])(hk:ko p.live=false)(hr:SV.refs.av ((dM p.live e).map (·.2))≤N)(hN:bl.length=N)(he:c0 N es) :
 eu p N H0 (e,⟨bl,es,ro⟩)=some (dM p.live e,⟨bl,H0.bT++es.filter (fun p=>decide (p.1<N)),H0.ro⟩):=by
 rw[qG,hv]
 simp only[mP,aN,rJ,hk,acJ,acp hr,acG,xN hN he,adm]
theorem rO{p:cu}{N:Nat}{H0:ab}{e:Env}{bl l:List aC}{es:List (Nat×Nat)}{ro:Nat}(hv:p.bC=[])(hk:ko p.live=false)(hr:SV.refs.av ((dM p.live e).map (·.2))≤N)(hN:bl.length=N)(he:c0 N es) :
 eu p N H0 (e,⟨bl++l,es,ro⟩)=some (dM p.live e,⟨bl,H0.bT++es.filter (fun p=>decide (p.1<N)),H0.ro⟩):=by
 rw[qG,hv]
 simp only[mP,aN,rJ,hk,acJ,acp hr,acG,vK hN he,adm]
theorem AL{p:cu}{N:Nat}{H0:ab}{e:Env}{H:ab}(hv:p.bC=[])(hk:ko p.live=true) :
 eu p N H0 (e,H)=some (dM p.live.tail e,H):=by
 rw[qG,hv]
 simp only[mP,aN,rJ,hk,acG]
theorem bD{p:cu}{N:Nat}{H0:ab}{e env:Env}{bl:List aC}{es:List (Nat×Nat)}{ro:Nat}(hv:p.bC=[])(hk:ko p.live=false)(henv:dM p.live e=env)(hr:SV.refs.av (env.map (·.2))≤N)(hN:bl.length=N)(he:c0 N es)(h0:c0 N H0.bT) :
 mD p N H0 (e,⟨bl,es,ro⟩) (fun s=>∃es',c0 N es'∧s=(env,⟨bl,es',H0.ro⟩)):=by
 subst henv
 exact⟨_,sT hv hk hr hN he,_,cj h0 (cd _ he),rfl⟩
theorem D5{p:cu}{N:Nat}{H0:ab}{e env:Env}{bl l:List aC}{es:List (Nat×Nat)}{ro:Nat}(hv:p.bC=[])(hk:ko p.live=false)(henv:dM p.live e=env)(hr:SV.refs.av (env.map (·.2))≤N)(hN:bl.length=N)(he:c0 N es)(h0:c0 N H0.bT) :
 mD p N H0 (e,⟨bl++l,es,ro⟩) (fun s=>∃es',c0 N es'∧s=(env,⟨bl,es',H0.ro⟩)):=by
 subst henv
 exact⟨_,rO hv hk hr hN he,_,cj h0 (cd _ he),rfl⟩
theorem aX{p:cu}{N:Nat}{H0:ab}{s':Env×ab}{I J:Env×ab→Prop}(h:mD p N H0 s' I)(hij:∀s,I s→J s):mD p N H0 s' J:=by
 obtain⟨s,h1,h2⟩:=h
 exact⟨s,h1,hij s h2⟩
theorem mx:1000≤maxLen:=by decide
def pS(M:List Nat):List (List SV):=M.map fun b=>[.ptr b 0 0 0]
@[go_sem] theorem yS {M:List Nat}:(pS M).length=M.length:=by simp[pS]
@[go_sem] theorem W8 (M:List Nat)(i:Nat):(pS M)[i]?=(M[i]?).map fun b=>[.ptr b 0 0 0]:=by simp[pS]
theorem uH(M:List Nat)(i b:Nat):(pS M).set i [.ptr b 0 0 0]=pS (M.set i b):=by simp[pS,afO]
theorem o6(a b:Int):decide (G.p8 a b<0)=decide (a<b):=by
 unfold G.p8
 split
 ·simp[*]
 ·split<;>simp[*]
theorem s43(n x y:Nat)(H:ab)(cx cy:List SV)(kx ky:Int)(hx:H.bl[x]?=some (.box cx))(hy:H.bl[y]?=some (.box cy))(gx:cx[4]?=some (af5 kx))(gy:cy[4]?=some (af5 ky)) :
 aa T (n+3) (.fn 43) [.ptr x 0 0 0,.ptr y 0 0 0] H=some (af5 (G.p8 kx ky),H):=by
 refine de e43 rfl rfl (fun R k bl ro r hbl hk=>?_)
 obtain rfl:bl=H.bl:=by
  rcases hbl with⟨rfl,h0⟩|rfl
  ·simp[SV.refs.av,SV.refs]at h0
  ·rfl
 have h44:=fun H=>G.Zy n H kx ky
 simp only[ZO,aF,aE,aH,aG,az,aw,ax,ay,bj,aP,bg,aQ,aS,aR,aI,aO,aJ,aK,aA,ai,bM,bN,aco,acn,acD,go_sem,simprocAttr,hx,hy,gx,gy,h44]
 have:=hk []
 rw[adn]at this
 exact this
abbrev pH(bl:List aC)(fb v:Nat)(M:List Nat)(es:List (Nat×Nat)):ab:=⟨bl.set fb (.arr v 1 (pS M) false),es,0⟩
theorem I9(bl:List aC)(fb v:Nat)(hfb:fb<bl.length)(k:Nat)(M:List Nat)(es0:List (Nat×Nat))(a b n:Nat)(ha:a+n≤M.length)(hb:b+n≤M.length)(hM:M.length≤1000)(hm:∀x∈M,x<bl.length)(he0:c0 bl.length es0) :
 ∃es',c0 bl.length es'∧aa T (k+1) (.fn 204) [.bn fb v 0 M.length,af5 a,af5 b,af5 n,.fn 43 []] (pH bl fb v M es0)=some (.bc [],pH bl fb v (Q.yL M a b n) es'):=by
 suffices h:∃r,aa T (k+1) (.fn 204) [.bn fb v 0 M.length,af5 a,af5 b,af5 n,.fn 43 []] (pH bl fb v M es0)=some r∧∃es',c0 bl.length es'∧r=(.bc [],pH bl fb v (Q.yL M a b n) es') by
  obtain⟨r,h1,es',h2,rfl⟩:=h
  exact⟨es',h2,h1⟩
 refine dN Sy (by rfl) ?_
 have hl:∀X,(bl.set fb X).length=bl.length:=fun X=>acU
 have hg:∀X,(bl.set fb X)[fb]?=some X:=fun X=>acM hfb
 have hs:∀X Y,(bl.set fb X).set fb Y=bl.set fb Y:=fun X Y=>aeU ..
 have ht:∀X,(bl.set fb X).take bl.length=bl.set fb X:=fun X=>by rw[←hl X,adF]
 simp only[PM,go_sem,simprocAttr,hl]
 refine cw (fun i s=>∃es',c0 bl.length es'∧s=([(0,.bn fb v 0 M.length),(1,af5 a),(2,af5 b),(3,af5 n),(10,af5 i)],pH bl fb v (Q.yL M a b i) es')) n ?_ ?_
 ·exact bD rfl rfl (by simp only[go_sem,simprocAttr]<;>rfl) (by simp[SV.refs,SV.refs.av];omega) (hl _) (aV _) (aV _)
 ·rintro i s hi ⟨es,he,rfl⟩
  rcases acz i n with hlt|hge
  ·have hsu:=bE hlt (ac7 (show n≤1000 by omega) mx)
   have a1:bb ((a:Int)+(i:Nat))=((a+i:Nat):Int):=by rw[al (by omega) (by omega)];omega
   have a2:bb ((b:Int)+(i:Nat))=((b+i:Nat):Int):=by rw[al (by omega) (by omega)];omega
   have hln:=Q.Ai M a b i
   obtain⟨x,hx⟩:=bO (show a+i<(Q.yL M a b i).length by omega)
   obtain⟨y,hy⟩:=bO (show b+i<(Q.yL M a b i).length by omega)
   have l1:a+i<M.length:=by omega
   have l2:b+i<M.length:=by omega
   have hsw:Q.yL M a b (i+1)=((Q.yL M a b i).set (a+i) y).set (b+i) x:=Q.sU hx hy
   have hg2:((Q.yL M a b i).set (a+i) y)[b+i]?=some y:=by
    by_cases e:a+i=b+i
    ·rw[e,acM (by omega)]
    ·rw[acv e,hy]
   have hxb:=hm x (Q.qW (acy hx))
   have hyb:=hm y (Q.qW (acy hy))
   simp only[go_sem,simprocAttr,hlt,a1,a2,l1,l2,hln,hl,hg,hs,hx,hy,hsu,hfb,ai,uH,acU,hg2,←hsw]
   exact⟨trivial,bD rfl rfl (by simp only[go_sem,simprocAttr]<;>rfl) (by simp[SV.refs,SV.refs.av];omega) (hl _) (gu (gu he (by omega)) (by omega)) (aV _)⟩
  ·obtain rfl:i=n:=by omega
   have hd:decide (i<i)=false:=acs (by omega)
   simp only[go_sem,simprocAttr,hd,hl,ht,ai,cO he]
   exact⟨_,cj he0 (cd _ he),rfl⟩
theorem NC(bl:List aC)(fb v:Nat)(hfb:fb<bl.length)(k:Nat)(P A B S:List Nat)(es0:List (Nat×Nat))(n a m b:Nat)(hA:1≤A.length)(hB:1≤B.length)(hn:n=(P++(A++(B++S))).length)(ha:a=P.length)(hmm:m=a+A.length)(hb:b=m+B.length)
 (hM:n≤1000) (hm:∀x∈P++(A++(B++S)),x<bl.length) (he0:c0 bl.length es0) :
 ∃es',c0 bl.length es'∧aa T (k+2) (.fn 179) [.bn fb v 0 n,af5 a,af5 m,af5 b,.fn 43 []] (pH bl fb v (P++(A++(B++S))) es0)=some (.bc [],pH bl fb v (P++(B++(A++S))) es'):=by
 suffices h:∃r,aa T (k+2) (.fn 179) [.bn fb v 0 n,af5 a,af5 m,af5 b,.fn 43 []] (pH bl fb v (P++(A++(B++S))) es0)=some r∧∃es',c0 bl.length es'∧r=(.bc [],pH bl fb v (P++(B++(A++S))) es') by
  obtain⟨r,h1,es',h2,rfl⟩:=h
  exact⟨es',h2,h1⟩
 have hn':n=P.length+(A.length+(B.length+S.length)):=by rw[hn];simp
 obtain⟨G,hG⟩:∃G,P++(B++(A++S))=G:=⟨_,rfl⟩
 obtain⟨M,hMd⟩:∃M,P++(A++(B++S))=M:=⟨_,rfl⟩
 rw[hG]
 rw[hMd]at hm hn⊢
 refine dN Ud (by rfl) ?_
 have hl:∀X,(bl.set fb X).length=bl.length:=fun X=>acU
 have ht:∀X,(bl.set fb X).take bl.length=bl.set fb X:=fun X=>by rw[←hl X,adF]
 have a0:bb ((m:Int)-a)=(A.length:Int):=by rw[al (by omega) (by omega)];omega
 have a1:bb ((b:Int)-m)=(B.length:Int):=by rw[al (by omega) (by omega)];omega
 simp only[NS,go_sem,simprocAttr,hl,a0,a1]
 refine cw (fun q s=>∃es',c0 bl.length es'∧∃pre A' B' post,s=([(0,.bn fb v 0 n),(2,af5 m),(4,.fn 43 []),(10,af5 A'.length),(11,af5 B'.length)],pH bl fb v (pre++(A'++(B'++post))) es')∧
  pre.length+A'.length=m∧1≤A'.length∧1≤B'.length∧A'.length+B'.length+q≤A.length+B.length∧pre++(B'++(A'++post))=G∧(pre++(A'++(B'++post))).length=n∧∀x∈pre++(A'++(B'++post)),x<bl.length) (A.length+B.length) ?_ ?_
 ·refine aX (bD rfl rfl (by simp only[go_sem,simprocAttr]<;>rfl) (by simp[SV.refs,SV.refs.av];omega) (hl _) (aV _) (aV _)) ?_
  rintro s ⟨es',h,rfl⟩
  exact⟨es',h,P,A,B,S,by rw[hMd],by omega,hA,hB,by omega,hG,by rw[hMd,hn],by rw[hMd];exact hm⟩
 ·rintro q s hq ⟨es,he,pre,A',B',post',rfl,g1,g2,g3,g4,g5,g6,g7⟩
  have g6':pre.length+(A'.length+(B'.length+post'.length))=n:=by rw[←g6];simp
  have b1:bb ((m:Int)-A'.length)=(pre.length:Int):=by rw[al (by omega) (by omega)];omega
  cases hij:decide (A'.length=B'.length)with
  |true=>
   simp only[acr]at hij
   have hsw:=Q.ux pre A' [] B' post' pre.length m A'.length rfl hij.symm rfl (by simp;omega)
   simp only[adu]at hsw
   obtain⟨es2,he2,h204⟩:=I9 bl fb v hfb k (pre++(A'++(B'++post'))) es pre.length m A'.length (by omega) (by omega) (by omega) g7 he
   rw[g6,hsw,g5]at h204
   have hd:decide ((A'.length:Int)=(B'.length:Int))=true:=acp (by omega)
   simp only[go_sem,simprocAttr,hd,b1,h204,hl,ht,ai,cO he2]
   exact⟨_,cj he0 (cd _ he2),rfl⟩
  |false=>
   have hne:A'.length≠B'.length:=by simpa using hij
   have hd:decide ((A'.length:Int)=(B'.length:Int))=false:=acs (by omega)
   cases hgt:decide (B'.length<A'.length)with
   |true=>
    simp only[acr]at hgt
    have hgt2:decide (B'.length<A'.length)=true:=acp hgt
    obtain⟨A1,A2,rfl,hA1⟩:∃A1 A2,A'=A1++A2∧A1.length=B'.length:=⟨A'.take B'.length,A'.drop B'.length,(adC _ _).symm,by rw[adA];omega⟩
    have hA2:(A1++A2).length=B'.length+A2.length:=by rw[acn,hA1]
    have b2:bb (((A1++A2).length:Int)-B'.length)=(A2.length:Int):=by rw[al (by omega) (by omega)];omega
    have hsw:=Q.ux pre A1 A2 B' post' pre.length m B'.length hA1 rfl rfl (by omega)
    obtain⟨es2,he2,h204⟩:=I9 bl fb v hfb k (pre++(A1++A2++(B'++post'))) es pre.length m B'.length (by omega) (by omega) (by omega) g7 he
    rw[g6,aco,hsw]at h204
    simp only[aco]at g6 g7 g5
    rw[aco]
    simp only[go_sem,simprocAttr,hd,b1,hgt2,h204,b2]
    refine⟨by omega,aX (bD rfl rfl (by simp only[go_sem,simprocAttr]<;>rfl) (by simp[SV.refs,SV.refs.av];omega) (hl _) he2 (aV _)) ?_⟩
    rintro s ⟨es',h,rfl⟩
    refine⟨es',h,pre++B',A2,A1,post',by rw[hA1];simp only[aco],by rw[acn];omega,by omega,by omega,by omega,?_,?_,?_⟩
    ·rw[←g5];simp
    ·rw[←g6'];simp;omega
    ·intro x hx;exact g7 x (by simp only[ady]at hx ⊢;grind)
   |false=>
    have hlt:A'.length<B'.length:=by simp only[acx]at hgt;omega
    obtain⟨B1,B2,rfl,hB2⟩:∃B1 B2,B'=B1++B2∧B2.length=A'.length:=⟨B'.take (B'.length-A'.length),B'.drop (B'.length-A'.length),(adC _ _).symm,by rw[afC];omega⟩
    have hB1:(B1++B2).length=B1.length+A'.length:=by rw[acn,hB2]
    have b2:bb (((B1++B2).length:Int)-A'.length)=(B1.length:Int):=by rw[al (by omega) (by omega)];omega
    have b3:bb ((m:Int)+(B1++B2).length)=((m+(B1++B2).length:Nat):Int):=by rw[al (by omega) (by omega)];omega
    have b4:bb (((m+(B1++B2).length:Nat):Int)-A'.length)=((m+B1.length:Nat):Int):=by rw[al (by omega) (by omega)];omega
    have hsw:=Q.ux pre A' B1 B2 post' pre.length (m+B1.length) A'.length rfl hB2 rfl (by omega)
    obtain⟨es2,he2,h204⟩:=I9 bl fb v hfb k (pre++(A'++(B1++B2++post'))) es pre.length (m+B1.length) A'.length (by omega) (by omega) (by omega) g7 he
    rw[g6,aco,hsw]at h204
    simp only[aco]at g6 g7 g5
    rw[aco]
    simp only[go_sem,simprocAttr,hd,b1,hgt,h204,b2,b3,b4]
    refine⟨by omega,aX (bD rfl rfl (by simp only[go_sem,simprocAttr]<;>rfl) (by simp[SV.refs,SV.refs.av];omega) (hl _) he2 (aV _)) ?_⟩
    rintro s ⟨es',h,rfl⟩
    refine⟨es',h,pre,B2,B1,A'++post',by rw[hB2],by omega,by omega,by omega,by omega,?_,?_,?_⟩
    ·rw[←g5]
    ·rw[←g6'];simp;omega
    ·intro x hx;exact g7 x (by simp only[ady]at hx ⊢;grind)
theorem Q.tE{M:List Nat}{j x:Nat}:∀{q},x∈Q.uS M j q→x∈M
 |0,h=>h
 |q+1,h=>Q.tE (Q.zc h)
theorem Q.tH{key:Nat→Int}{a x:Nat}:∀{j M},x∈Q.kS key a j M→x∈M
 |0,M,h=>h
 |j+1,M,h=>by
  unfold Q.kS at h
  cases hc:decide (a<j+1)&&Q.mJ key M (j+1) j with
  |false=>rw[hc]at h;exact h
  |true=>rw[hc]at h;exact Q.zc (Q.tH h)
theorem Q.ti{key:Nat→Int}{M:List Nat}{a x:Nat}:∀{i},x∈Q.kr key M a i→x∈M
 |0,h=>h
 |i+1,h=>Q.ti (Q.tH h)
def fV(bl:List aC)(fb:Nat)(key:Nat→Int)(x:Nat):Prop:=x≠fb∧∃cs,bl[x]?=some (.box cs)∧cs[4]?=some (af5 (key x))
theorem fV.lt{bl:List aC}{fb:Nat}{key:Nat→Int}{x:Nat}(h:fV bl fb key x):x<bl.length:=by
 obtain⟨_,cs,h,_⟩:=h
 exact(acm.1 h).1
theorem C8{bl:List aC}{fb:Nat}{key:Nat→Int}{x y:Nat}(hx:fV bl fb key x)(hy:fV bl fb key y)(n v:Nat)(M:List Nat)(es:List (Nat×Nat))(ro:Nat) :
 aa T (n+3) (.fn 43) [.ptr x 0 0 0,.ptr y 0 0 0] ⟨bl.set fb (.arr v 1 (pS M) false),es,ro⟩=some (af5 (G.p8 (key x) (key y)),⟨bl.set fb (.arr v 1 (pS M) false),es,ro⟩):=by
 obtain⟨nx,cx,bx,gx⟩:=hx
 obtain⟨ny,cy,by',gy⟩:=hy
 refine s43 n x y _ cx cy _ _ ?_ ?_ gx gy
 ·show(bl.set fb _)[x]?=_
  rw[acv (fun h=>nx h.symm),bx]
 ·show(bl.set fb _)[y]?=_
  rw[acv (fun h=>ny h.symm),by']
theorem Mi(bl:List aC)(fb v:Nat)(hfb:fb<bl.length)(key:Nat→Int)(k:Nat)(M:List Nat)(es0:List (Nat×Nat))(a b:Nat)(hab:a≤b)(hb:b≤M.length)
 (hM:M.length≤1000) (hm:∀x∈M,fV bl fb key x) (he0:c0 bl.length es0) :
 ∃es',c0 bl.length es'∧aa T (k+4) (.fn 134) [.bn fb v 0 M.length,af5 a,af5 b,.fn 43 []] (pH bl fb v M es0)=some (.bc [],pH bl fb v (Q.kr key M a (b-(a+1))) es'):=by
 suffices h:∃r,aa T (k+4) (.fn 134) [.bn fb v 0 M.length,af5 a,af5 b,.fn 43 []] (pH bl fb v M es0)=some r∧∃es',c0 bl.length es'∧r=(.bc [],pH bl fb v (Q.kr key M a (b-(a+1))) es') by
  obtain⟨r,h1,es',h2,rfl⟩:=h
  exact⟨es',h2,h1⟩
 refine dN Yf (by rfl) ?_
 have hl:∀X,(bl.set fb X).length=bl.length:=fun X=>acU
 have hg:∀X,(bl.set fb X)[fb]?=some X:=fun X=>acM hfb
 have hs:∀X Y,(bl.set fb X).set fb Y=bl.set fb Y:=fun X Y=>aeU ..
 have ht:∀X,(bl.set fb X).take bl.length=bl.set fb X:=fun X=>by rw[←hl X,adF]
 have a0:bb ((a:Int)+1)=((a+1+0:Nat):Int):=by rw[al (by omega) (by omega)];omega
 simp only[Mk,go_sem,simprocAttr,hl,a0]
 refine cw (fun i s=>∃es',c0 bl.length es'∧s=([(0,.bn fb v 0 M.length),(1,af5 a),(2,af5 b),(3,.fn 43 []),(8,af5 (a+1+i:Nat))],pH bl fb v (Q.kr key M a i) es')) (b-(a+1)) ?_ ?_
 ·exact bD rfl rfl (by simp only[go_sem,simprocAttr]<;>rfl) (by simp[SV.refs,SV.refs.av];omega) (hl _) (aV _) (aV _)
 ·rintro i s hi ⟨es,he,rfl⟩
  rcases acz i (b-(a+1))with hlt|hge
  ·have hlen:=Q.xu key M a i
   have hj:a+1+i<b:=by omega
   have w1:bb (((a+1+i:Nat):Int)+1)=((a+1+(i+1):Nat):Int):=by rw[al (by omega) (by omega)];omega
   have hmR:∀x∈Q.kr key M a i,fV bl fb key x:=fun x hx=>hm x (Q.ti hx)
   simp only[go_sem,simprocAttr,hj,hl]
   have hSi:Q.kr key M a (i+1)=Q.kS key a (a+1+i) (Q.kr key M a i):=rfl
   generalize hR:Q.kr key M a i=R at *
   generalize hJ:a+1+i=J at *
   refine cw (fun q s=>(∃es',c0 bl.length es'∧s=([(0,.bn fb v 0 M.length),(1,af5 a),(2,af5 b),(3,.fn 43 []),(8,af5 J),(9,af5 ((J-q:Nat):Int))],pH bl fb v (Q.uS R J q) es'))∧Q.kS key a (J-q) (Q.uS R J q)=Q.kS key a J R) J ?_ ?_
   ·refine aX (bD rfl rfl (by simp only[go_sem,simprocAttr]<;>rfl) (by simp[SV.refs,SV.refs.av];omega) (hl _) (aV _) (aV _)) ?_
    rintro s ⟨es',h,rfl⟩
    exact⟨⟨es',h,rfl⟩,rfl⟩
   ·rintro q s hq ⟨⟨es2,he2,rfl⟩,hP⟩
    have hXl:=(Q.xa R J q).trans hlen
    have hmX:∀x∈Q.uS R J q,fV bl fb key x:=fun x hx=>hmR x (Q.tE hx)
    have hQs:Q.uS R J (q+1)=Q.sw (Q.uS R J q) (J-q) (J-q-1):=rfl
    generalize hX:Q.uS R J q=X at *
    generalize hj':J-q=j at *
    have exit1:(bif decide (a<j)&&Q.mJ key X j (j-1)then true else false)=false→Q.kr key M a (i+1)=X:=by
     intro h
     rw[hSi,←hP]
     cases j with
     |zero=>rfl
     |succ j=>
      unfold Q.kS
      simp only[afi]at h
      cases hc:(decide (a<j+1)&&Q.mJ key X (j+1) j)with
      |false=>rfl
      |true=>rw[hc]at h;cases h
    cases h1:decide (a<j)with
    |false=>
     have hf:=exit1 (by rw[h1];rfl)
     simp only[go_sem,simprocAttr,hX,hj',h1,w1]
     exact⟨hlt,by rw[hf];exact bD rfl rfl (by simp only[go_sem,simprocAttr]<;>rfl) (by simp[SV.refs,SV.refs.av];omega) (hl _) (cj he he2) (aV _)⟩
    |true=>
     simp only[acr]at h1
     obtain⟨j',rfl⟩:∃j',j=j'+1:=⟨j-1,by omega⟩
     have hw:bb (((j'+1:Nat):Int)-1)=(j':Nat):=by rw[al (by omega) (by omega)];omega
     have l1:j'+1<M.length:=by omega
     have l2:j'<M.length:=by omega
     obtain⟨x,hx⟩:=bO (show j'+1<X.length by omega)
     obtain⟨y,hy⟩:=bO (show j'<X.length by omega)
     have hd1:decide (a<j'+1)=true:=acp h1
     have kx:=hmX x (acy hx)
     have ky:=hmX y (acy hy)
     have h43:=fun n es ro=>C8 kx ky n v X es ro
     cases h2:decide (key x<key y)with
     |false=>
      have hf:=exit1 (by rw[afi,Q.oZ hx hy,h2,hd1];rfl)
      simp only[go_sem,simprocAttr,hX,hj',hd1,hw,l1,l2,hXl,hl,hg,hx,hy,h43,o6,h2,w1]
      exact⟨hlt,by rw[hf];exact bD rfl rfl (by simp only[go_sem,simprocAttr]<;>rfl) (by simp[SV.refs,SV.refs.av];omega) (hl _) (cj he he2) (aV _)⟩
     |true=>
      have hsw:Q.sw X (j'+1) j'=(X.set (j'+1) y).set j' x:=Q.sU hx hy
      have hg2:(X.set (j'+1) y)[j']?=some y:=by rw[acv (by omega),hy]
      have e1:J-(q+1)=j':=by omega
      have e3:Q.kS key a j' (Q.sw X (j'+1) j')=Q.kS key a J R:=by
       rw[←hP]
       conv=>rhs;unfold Q.kS
       rw[Q.oZ hx hy,h2,hd1]
       rfl
      rw[afi]at hQs
      have lx:=kx.lt
      have ly:=ky.lt
      simp only[go_sem,simprocAttr,hX,hj',hd1,hw,l1,l2,hXl,hl,hg,hs,hx,hy,h43,o6,h2,hfb,ai,uH,acU,hg2,←hsw,e1]
      refine⟨by omega,aX (bD rfl rfl (by simp only[go_sem,simprocAttr]<;>rfl) (by simp[SV.refs,SV.refs.av];omega) (hl _) (gu (gu he2 (by omega)) (by omega)) (aV _)) ?_⟩
      rintro s ⟨es',h,rfl⟩
      rw[hQs]
      exact⟨⟨es',h,rfl⟩,e3⟩
  ·obtain rfl:i=b-(a+1):=by omega
   have hd:decide (a+1+(b-(a+1))<b)=false:=acs (by omega)
   simp only[go_sem,simprocAttr,hd,hl,ht,ai,cO he]
   exact⟨_,cj he0 (cd _ he),rfl⟩
namespace Q
theorem eB{key:Nat→Int}:∀{X:List Nat},pv key X→∀{i j x y:Nat},X[i]?=some x→X[j]?=some y→i≤j→key x≤key y
 |[],_,i,j,x,y,hx,_,_=>by simp at hx
 |z::X,h,0,0,x,y,hx,hy,_=>by simp at hx hy;subst hx hy;exact aeH _
 |z::X,h,0,j+1,x,y,hx,hy,_=>by
  simp at hx hy
  subst hx
  exact(adx.1 h).1 y (acy hy)
 |z::X,h,i+1,0,x,y,hx,hy,hij=>by omega
 |z::X,h,i+1,j+1,x,y,hx,hy,hij=>eB (adx.1 h).2 (by simpa using hx) (by simpa using hy) (by omega)
theorem oF{X:List Nat}{n x:Nat}(h:x∈X.take n):∃i,i<n∧X[i]?=some x:=by
 obtain⟨i,hi⟩:=ac4 h
 rw[acX]at hi
 split at hi
 ·exact⟨i,by assumption,hi⟩
 ·cases hi
theorem ob{X:List Nat}{n x:Nat}(h:x∈X.drop n):∃i,n≤i∧X[i]?=some x:=by
 obtain⟨i,hi⟩:=ac4 h
 rw[ado]at hi
 exact⟨n+i,by omega,hi⟩
theorem vF{key:Nat→Int}{A B:List Nat}(hA:pv key A)(hB:pv key B){i d:Nat}
 (h1:i=0∨B.length≤d∨∃x y,A[i-1]?=some x∧B[d]?=some y∧¬key y<key x) (h2:d=0∨A.length≤i∨∃x y,A[i]?=some x∧B[d-1]?=some y∧key y<key x) :
 cU key A B=cU key (A.take i) (B.take d)++cU key (A.drop i) (B.drop d):=by
 have:=ga key (A.take i) (B.take d) (A.drop i) (B.drop d) ?_ ?_
 ·rw[adC,adC]at this;exact this
 ·intro x hx y hy
  obtain⟨g,hg,gx⟩:=oF hx
  obtain⟨q,hq,gy⟩:=ob hy
  rcases h1 with h|h|⟨x',y',hx',hy',h⟩
  ·omega
  ·have:=(acm.1 gy).1;omega
  ·have e1:=eB hA gx hx' (by omega)
   have e2:=eB hB hy' gy (by omega)
   omega
 ·intro y hy x hx
  obtain⟨g,hg,gx⟩:=ob hx
  obtain⟨q,hq,gy⟩:=oF hy
  rcases h2 with h|h|⟨x',y',hx',hy',h⟩
  ·omega
  ·have:=(acm.1 gx).1;omega
  ·have e1:=eB hA hx' gx (by omega)
   have e2:=eB hB gy hy' (by omega)
   omega
theorem get_at(P A R:List Nat)(i:Nat){x:Nat}(h:A[i]?=some x):(P++(A++R))[P.length+i]?=some x:=by
 rw[adf (by omega),afk,acF (acm.1 h).1,h]
end Q
theorem oY{x:Nat}(h:x≤4000):bb ((IntKind.wrap .u64 (x:Int)).fdiv (2 ^ (min 1 64)))=((x/2:Nat):Int):=by
 have h1:IntKind.wrap .u64 (x:Int)=x:=by
  show((x:Int)%18446744073709551616)=x
  omega
 have h2:(min 1 64)=1:=rfl
 have h3:(2:Int) ^ 1=2:=by decide
 rw[h1,h2,h3,aeI _ (by omega),al (by omega) (by omega)]
 omega
theorem On(bl:List aC)(fb v:Nat)(hfb:fb<bl.length)(key:Nat→Int)(k:Nat)(P B S:List Nat)(x:Nat)(es0:List (Nat×Nat))(n a b:Nat)(hB:1≤B.length)(hsB:Q.pv key B)(hn:n=(P++(x::(B++S))).length)(ha:a=P.length)(hb:b=a+1+B.length)
 (hM:n≤1000) (hm:∀z∈P++(x::(B++S)),fV bl fb key z) (he0:c0 bl.length es0) :
 ∃es',c0 bl.length es'∧aa T (k+4) (.fn 135) [.bn fb v 0 n,af5 a,af5 (a+1:Nat),af5 b,.fn 43 []] (pH bl fb v (P++(x::(B++S))) es0)=some (.bc [],pH bl fb v (P++(Q.cU key [x] B++S)) es'):=by
 suffices h:∃r,aa T (k+4) (.fn 135) [.bn fb v 0 n,af5 a,af5 (a+1:Nat),af5 b,.fn 43 []] (pH bl fb v (P++(x::(B++S))) es0)=some r∧∃es',c0 bl.length es'∧r=(.bc [],pH bl fb v (P++(Q.cU key [x] B++S)) es') by
  obtain⟨r,h1,es',h2,rfl⟩:=h
  exact⟨es',h2,h1⟩
 have hn':n=P.length+(B.length+S.length+1):=by rw[hn];simp
 refine dN FD (by rfl) ?_
 have hl:∀X,(bl.set fb X).length=bl.length:=fun X=>acU
 have hg:∀X,(bl.set fb X)[fb]?=some X:=fun X=>acM hfb
 have hs:∀X Y,(bl.set fb X).set fb Y=bl.set fb Y:=fun X Y=>aeU ..
 have ht:∀X,(bl.set fb X).take bl.length=bl.set fb X:=fun X=>by rw[←hl X,adF]
 have a0:bb (((a+1:Nat):Int)-a)=1:=by rw[al (by omega) (by omega)];omega
 have hax:(P++(x::(B++S)))[a]?=some x:=by rw[ha];exact Q.fi _ _ _
 have kx:=hm x (acy hax)
 have la:a<n:=by omega
 simp only[Ef,go_sem,simprocAttr,hl,a0]
 refine cw (fun q s=>∃es',c0 bl.length es'∧∃i j:Nat,s=([(0,.bn fb v 0 n),(1,af5 a),(4,.fn 43 []),(10,af5 (a+1+i:Nat)),(11,af5 (a+1+j:Nat))],pH bl fb v (P++(x::(B++S))) es')∧
  i≤j∧j≤B.length∧j-i+q≤B.length∧(∀h z,h<i→B[h]?=some z→key z<key x)∧∀h z,j≤h→B[h]?=some z→¬key z<key x) B.length ?_ ?_
 ·refine aX (bD rfl rfl (by simp only[go_sem,simprocAttr]<;>rfl) (by simp[SV.refs,SV.refs.av];omega) (hl _) (aV _) (aV _)) ?_
  rintro s ⟨es',h,rfl⟩
  exact⟨es',h,0,B.length,by rw[hb],by omega,by omega,by omega,fun h z hh=>by omega,fun h z hh hz=>by have:=(acm.1 hz).1;omega⟩
 ·rintro q s hq ⟨es,he,i,j,rfl,p1,p2,p3,p4,p5⟩
  cases hij:decide (a+1+i<a+1+j)with
  |true=>
   simp only[acr]at hij
   have hh:bb (((a+1+i:Nat):Int)+((a+1+j:Nat):Int))=(((a+1+i)+(a+1+j):Nat):Int):=by rw[al (by omega) (by omega)];omega
   have hw:=oY (show(a+1+i)+(a+1+j)≤4000 by omega)
   rw[show((a+1+i)+(a+1+j))/2=a+1+(i+j)/2 by omega]at hw
   obtain⟨z,hz⟩:=bO (show(i+j)/2<B.length by omega)
   have hzM:(P++(x::(B++S)))[a+1+(i+j)/2]?=some z:=by
    have:=Q.get_at (P++[x]) B S ((i+j)/2) hz
    rw[show(P++[x]).length=a+1 by simp;omega]at this
    simpa using this
   have kz:=hm z (acy hzM)
   have h43:=fun n es ro=>C8 kz kx n v (P++(x::(B++S))) es ro
   have l1:a+1+(i+j)/2<n:=by omega
   have w1:bb (((a+1+(i+j)/2:Nat):Int)+1)=((a+1+((i+j)/2+1):Nat):Int):=by rw[al (by omega) (by omega)];omega
   generalize hMd:P++(x::(B++S))=M at *
   simp only[go_sem,simprocAttr,hij,hh,hw,l1,la,hl,hg,←hn,hzM,hax,h43,o6]
   cases hc:decide (key z<key x)with
   |true=>
    have hc':=acQ hc
    simp only[go_sem,simprocAttr,w1]
    refine⟨by omega,aX (bD rfl rfl (by simp only[go_sem,simprocAttr]<;>rfl) (by simp[SV.refs,SV.refs.av];omega) (hl _) he (aV _)) ?_⟩
    rintro s ⟨es',h,rfl⟩
    exact⟨es',h,(i+j)/2+1,j,rfl,by omega,p2,by omega,fun h y hh hy=>by have:=Q.eB hsB hy hz (by omega);omega,p5⟩
   |false=>
    have hc':=adi hc
    simp only[go_sem,simprocAttr]
    refine⟨by omega,aX (bD rfl rfl (by simp only[go_sem,simprocAttr]<;>rfl) (by simp[SV.refs,SV.refs.av];omega) (hl _) he (aV _)) ?_⟩
    rintro s ⟨es',h,rfl⟩
    exact⟨es',h,i,(i+j)/2,rfl,by omega,by omega,by omega,p4,fun h y hh hy=>by have:=Q.eB hsB hz hy (by omega);omega⟩
  |false=>
   simp only[acx]at hij
   obtain rfl:j=i:=by omega
   have hd:decide (a+1+j<a+1+j)=false:=acs (by omega)
   have w1:bb (((a+1+j:Nat):Int)-1)=((a+j:Nat):Int):=by rw[al (by omega) (by omega)];omega
   have hfin:P++(Q.cU key [x] B++S)=P++(B.take j++(x::(B.drop j++S))):=by
    have:=Q.GZ key (B.take j) (B.drop j) x (fun z hz=>by obtain⟨h,h1,h2⟩:=Q.oF hz;exact p4 h z h1 h2) (fun z hz=>by obtain⟨h,h1,h2⟩:=Q.ob hz;exact p5 h z h1 h2)
    rw[adC]at this
    rw[this]
    simp
   rw[hfin]
   simp only[go_sem,simprocAttr,hd,hl]
   refine cw (fun q s=>∃es',c0 bl.length es'∧s=([(0,.bn fb v 0 n),(10,af5 (a+1+j:Nat)),(13,af5 (a+q:Nat))],pH bl fb v (P++(B.take q++(x::(B.drop q++S)))) es')) j ?_ ?_
   ·refine aX (bD rfl rfl (by simp only[go_sem,simprocAttr]<;>rfl) (by simp[SV.refs,SV.refs.av];omega) (hl _) (aV _) (aV _)) ?_
    rintro s ⟨es',h,rfl⟩
    exact⟨es',h,by simp⟩
   ·rintro q s hq ⟨es2,he2,rfl⟩
    rcases acz q j with hlt|hge
    ·have hc:decide (((a+q:Nat):Int)<((a+j:Nat):Int))=true:=acp (by omega)
     have w2:bb (((a+q:Nat):Int)+1)=((a+q+1:Nat):Int):=by rw[al (by omega) (by omega)];omega
     obtain⟨y,hy⟩:=bO (show q<B.length by omega)
     obtain⟨hy1,hy2⟩:=acm.1 hy
     have dB:B.drop q=y::B.drop (q+1):=by rw[ad1 hy1,hy2]
     have tB:B.take (q+1)=B.take q++[y]:=by rw[adP,hy];rfl
     have hsw:=Q.Du (P++B.take q) [] (B.drop (q+1)++S) x y (a+q) (a+q+1) (by simp;omega) (by simp;omega)
     have e0:(P++B.take q)++x::([]++y::(B.drop (q+1)++S))=P++(B.take q++(x::(B.drop q++S))):=by rw[dB];simp
     have e1:(P++B.take q)++y::([]++x::(B.drop (q+1)++S))=P++(B.take (q+1)++(x::(B.drop (q+1)++S))):=by rw[tB];simp
     rw[e0,e1]at hsw
     have hX:(P++(B.take q++(x::(B.drop q++S)))).length=n:=by rw[hn'];simp;omega
     have hx1:(P++(B.take q++(x::(B.drop q++S))))[a+q]?=some x:=by
      have:=Q.fi (P++B.take q) (B.drop q++S) x
      rw[show(P++B.take q).length=a+q by simp;omega]at this
      simpa using this
     have hy3:(P++(B.take q++(x::(B.drop q++S))))[a+q+1]?=some y:=by
      rw[dB]
      have:=Q.fi (P++B.take q++[x]) (B.drop (q+1)++S) y
      rw[show(P++B.take q++[x]).length=a+q+1 by simp;omega]at this
      simpa using this
     have hyM:y∈P++(x::(B++S)):=by simp[acy hy]
     have ky:=(hm y hyM).lt
     have lx:=kx.lt
     generalize hXd:P++(B.take q++(x::(B.drop q++S)))=X at *
     have hsw2:Q.sw X (a+q) (a+q+1)=(X.set (a+q) y).set (a+q+1) x:=Q.sU hx1 hy3
     rw[hsw]at hsw2
     have hg2:(X.set (a+q) y)[a+q+1]?=some y:=by rw[acv (by omega),hy3]
     have l1:a+q<n:=by omega
     have l2:a+q+1<n:=by omega
     simp only[go_sem,simprocAttr,w1,hc,w2,l1,l2,hX,hl,hg,hs,hx1,hy3,hfb,ai,uH,acU,hg2,←hsw2]
     exact⟨hlt,bD rfl rfl (by simp only[go_sem,simprocAttr]<;>rfl) (by simp[SV.refs,SV.refs.av];omega) (hl _) (gu (gu he2 (by omega)) (by omega)) (aV _)⟩
    ·obtain rfl:q=j:=by omega
     have hc:decide (((a+q:Nat):Int)<((a+q:Nat):Int))=false:=acs (by omega)
     simp only[go_sem,simprocAttr,w1,hc,hl,ht,ai,cO (cj he he2)]
     exact⟨_,cj he0 (cd _ (cj he he2)),rfl⟩
theorem Qx(bl:List aC)(fb v:Nat)(hfb:fb<bl.length)(key:Nat→Int)(k:Nat)(P A S:List Nat)(y:Nat)(es0:List (Nat×Nat))(n a m:Nat)(hA:2≤A.length)(hsA:Q.pv key A)(hn:n=(P++(A++(y::S))).length)(ha:a=P.length)(hmm:m=a+A.length)
 (hM:n≤1000) (hm:∀z∈P++(A++(y::S)),fV bl fb key z) (he0:c0 bl.length es0) :
 ∃es',c0 bl.length es'∧aa T (k+4) (.fn 135) [.bn fb v 0 n,af5 a,af5 m,af5 (m+1:Nat),.fn 43 []] (pH bl fb v (P++(A++(y::S))) es0)=some (.bc [],pH bl fb v (P++(Q.cU key A [y]++S)) es'):=by
 suffices h:∃r,aa T (k+4) (.fn 135) [.bn fb v 0 n,af5 a,af5 m,af5 (m+1:Nat),.fn 43 []] (pH bl fb v (P++(A++(y::S))) es0)=some r∧∃es',c0 bl.length es'∧r=(.bc [],pH bl fb v (P++(Q.cU key A [y]++S)) es') by
  obtain⟨r,h1,es',h2,rfl⟩:=h
  exact⟨es',h2,h1⟩
 have hn':n=P.length+(A.length+(S.length+1)):=by rw[hn];simp
 refine dN FD (by rfl) ?_
 have hl:∀X,(bl.set fb X).length=bl.length:=fun X=>acU
 have hg:∀X,(bl.set fb X)[fb]?=some X:=fun X=>acM hfb
 have hs:∀X Y,(bl.set fb X).set fb Y=bl.set fb Y:=fun X Y=>aeU ..
 have ht:∀X,(bl.set fb X).take bl.length=bl.set fb X:=fun X=>by rw[←hl X,adF]
 have a0:bb ((m:Int)-a)=((m-a:Nat):Int):=by rw[al (by omega) (by omega)];omega
 have a1:bb (((m+1:Nat):Int)-m)=1:=by rw[al (by omega) (by omega)];omega
 have a2:decide (((m-a:Nat):Int)=1)=false:=acs (by omega)
 have hmy:(P++(A++(y::S)))[m]?=some y:=by
  have:=Q.fi (P++A) S y
  rw[show(P++A).length=m by simp;omega]at this
  simpa using this
 have ky:=hm y (acy hmy)
 have lm:m<n:=by omega
 simp only[Ef,go_sem,simprocAttr,hl,a0,a1,a2]
 refine cw (fun q s=>∃es',c0 bl.length es'∧∃i j:Nat,s=([(0,.bn fb v 0 n),(2,af5 m),(4,.fn 43 []),(14,af5 (a+i:Nat)),(15,af5 (a+j:Nat))],pH bl fb v (P++(A++(y::S))) es')∧
  i≤j∧j≤A.length∧j-i+q≤A.length∧(∀h z,h<i→A[h]?=some z→¬key y<key z)∧∀h z,j≤h→A[h]?=some z→key y<key z) A.length ?_ ?_
 ·refine aX (bD rfl rfl (by simp only[go_sem,simprocAttr]<;>rfl) (by simp[SV.refs,SV.refs.av];omega) (hl _) (aV _) (aV _)) ?_
  rintro s ⟨es',h,rfl⟩
  exact⟨es',h,0,A.length,by rw[hmm];rfl,by omega,by omega,by omega,fun h z hh=>by omega,fun h z hh hz=>by have:=(acm.1 hz).1;omega⟩
 ·rintro q s hq ⟨es,he,i,j,rfl,p1,p2,p3,p4,p5⟩
  cases hij:decide (a+i<a+j)with
  |true=>
   simp only[acr]at hij
   have hh:bb (((a+i:Nat):Int)+((a+j:Nat):Int))=(((a+i)+(a+j):Nat):Int):=by rw[al (by omega) (by omega)];omega
   have hw:=oY (show(a+i)+(a+j)≤4000 by omega)
   rw[show((a+i)+(a+j))/2=a+(i+j)/2 by omega]at hw
   obtain⟨z,hz⟩:=bO (show(i+j)/2<A.length by omega)
   have hzM:(P++(A++(y::S)))[a+(i+j)/2]?=some z:=by
    rw[ha];exact Q.get_at P A (y::S) ((i+j)/2) hz
   have kz:=hm z (acy hzM)
   have h43:=fun n es ro=>C8 ky kz n v (P++(A++(y::S))) es ro
   have l1:a+(i+j)/2<n:=by omega
   have w1:bb (((a+(i+j)/2:Nat):Int)+1)=((a+((i+j)/2+1):Nat):Int):=by rw[al (by omega) (by omega)];omega
   generalize hMd:P++(A++(y::S))=M at *
   simp only[go_sem,simprocAttr,hij,hh,hw,l1,lm,hl,hg,←hn,hzM,hmy,h43,o6]
   cases hc:decide (key y<key z)with
   |false=>
    have hc':=adi hc
    simp only[go_sem,simprocAttr,w1]
    refine⟨by omega,aX (bD rfl rfl (by simp only[go_sem,simprocAttr]<;>rfl) (by simp[SV.refs,SV.refs.av];omega) (hl _) he (aV _)) ?_⟩
    rintro s ⟨es',h,rfl⟩
    exact⟨es',h,(i+j)/2+1,j,rfl,by omega,p2,by omega,fun h x hh hx=>by have:=Q.eB hsA hx hz (by omega);omega,p5⟩
   |true=>
    have hc':=acQ hc
    simp only[go_sem,simprocAttr]
    refine⟨by omega,aX (bD rfl rfl (by simp only[go_sem,simprocAttr]<;>rfl) (by simp[SV.refs,SV.refs.av];omega) (hl _) he (aV _)) ?_⟩
    rintro s ⟨es',h,rfl⟩
    exact⟨es',h,i,(i+j)/2,rfl,by omega,by omega,by omega,p4,fun h x hh hx=>by have:=Q.eB hsA hz hx (by omega);omega⟩
  |false=>
   simp only[acx]at hij
   obtain rfl:j=i:=by omega
   have hd:decide (a+j<a+j)=false:=acs (by omega)
   have hfin:P++(Q.cU key A [y]++S)=P++(A.take j++(y::(A.drop j++S))):=by
    have:=Q.uV key (A.take j) (A.drop j) y (fun z hz=>by obtain⟨h,h1,h2⟩:=Q.oF hz;exact p4 h z h1 h2) (fun z hz=>by obtain⟨h,h1,h2⟩:=Q.ob hz;exact p5 h z h1 h2)
    rw[adC]at this
    rw[this]
    simp
   rw[hfin]
   simp only[go_sem,simprocAttr,hd,hl]
   refine cw (fun q s=>∃es',c0 bl.length es'∧s=([(0,.bn fb v 0 n),(14,af5 (a+j:Nat)),(17,af5 (m-q:Nat))],pH bl fb v (P++(A.take (A.length-q)++(y::(A.drop (A.length-q)++S)))) es')) (A.length-j) ?_ ?_
   ·refine aX (bD rfl rfl (by simp only[go_sem,simprocAttr]<;>rfl) (by simp[SV.refs,SV.refs.av];omega) (hl _) (aV _) (aV _)) ?_
    rintro s ⟨es',h,rfl⟩
    exact⟨es',h,by simp⟩
   ·rintro q s hq ⟨es2,he2,rfl⟩
    rcases acz q (A.length-j)with hlt|hge
    ·obtain⟨t,htt⟩:∃t,A.length-q=t+1:=⟨A.length-q-1,by omega⟩
     have hmq:m-q=a+t+1:=by omega
     have hmq2:m-(q+1)=a+t:=by omega
     have htq:A.length-(q+1)=t:=by omega
     rw[htt,hmq]
     have hc:decide (a+j<a+t+1)=true:=acp (by omega)
     have w2:bb (((a+t+1:Nat):Int)-1)=((a+t:Nat):Int):=by rw[al (by omega) (by omega)];omega
     obtain⟨z,hz⟩:=bO (show t<A.length by omega)
     obtain⟨hz1,hz2⟩:=acm.1 hz
     have dA:A.drop t=z::A.drop (t+1):=by rw[ad1 hz1,hz2]
     have tA:A.take (t+1)=A.take t++[z]:=by rw[adP,hz];rfl
     have hsw:=Q.pX (P++A.take t) [] (A.drop (t+1)++S) z y (a+t) (a+t+1) (by simp;omega) (by simp;omega)
     have e0:(P++A.take t)++z::([]++y::(A.drop (t+1)++S))=P++(A.take (t+1)++(y::(A.drop (t+1)++S))):=by rw[tA];simp
     have e1:(P++A.take t)++y::([]++z::(A.drop (t+1)++S))=P++(A.take t++(y::(A.drop t++S))):=by rw[dA];simp
     rw[e0,e1]at hsw
     have hX:(P++(A.take (t+1)++(y::(A.drop (t+1)++S)))).length=n:=by rw[hn'];simp;omega
     have hx1:(P++(A.take (t+1)++(y::(A.drop (t+1)++S))))[a+t]?=some z:=by
      have:=Q.fi (P++A.take t) (y::(A.drop (t+1)++S)) z
      rw[show(P++A.take t).length=a+t by simp;omega]at this
      rw[tA]
      simpa using this
     have hy3:(P++(A.take (t+1)++(y::(A.drop (t+1)++S))))[a+t+1]?=some y:=by
      have:=Q.fi (P++A.take (t+1)) (A.drop (t+1)++S) y
      rw[show(P++A.take (t+1)).length=a+t+1 by simp;omega]at this
      simpa using this
     have hzM:z∈P++(A++(y::S)):=by simp[acy hz]
     have lz:=(hm z hzM).lt
     have ly:=ky.lt
     generalize hXd:P++(A.take (t+1)++(y::(A.drop (t+1)++S)))=X at *
     have hsw2:Q.sw X (a+t+1) (a+t)=(X.set (a+t+1) z).set (a+t) y:=Q.sU hy3 hx1
     rw[hsw]at hsw2
     have hg2:(X.set (a+t+1) z)[a+t]?=some z:=by rw[acv (by omega),hx1]
     have l1:a+t<n:=by omega
     have l2:a+t+1<n:=by omega
     simp only[go_sem,simprocAttr,hc,w2,l1,l2,hX,hl,hg,hs,hx1,hy3,hfb,ai,uH,acU,hg2,←hsw2,hmq2,htq]
     exact⟨hlt,bD rfl rfl (by simp only[go_sem,simprocAttr]<;>rfl) (by simp[SV.refs,SV.refs.av];omega) (hl _) (gu (gu he2 (by omega)) (by omega)) (aV _)⟩
    ·obtain rfl:q=A.length-j:=by omega
     have hmq:m-(A.length-j)=a+j:=by omega
     have htq:A.length-(A.length-j)=j:=by omega
     rw[hmq,htq]
     simp only[go_sem,simprocAttr,hd,hl,ht,ai,cO (cj he he2)]
     exact⟨_,cj he0 (cd _ (cj he he2)),rfl⟩
def uf(bl:List aC)(fb v:Nat)(key:Nat→Int)(d k:Nat):Prop:=∀(P A B S:List Nat) (es0:List (Nat×Nat)) (n a m b:Nat),1≤A.length→1≤B.length→Q.pv key A→Q.pv key B→n=(P++(A++(B++S))).length→a=P.length→m=a+A.length→b=m+B.length→
    n≤1000→(∀z∈P++(A++(B++S)),fV bl fb key z)→c0 bl.length es0→A.length+B.length≤d→
    ∃es',c0 bl.length es'∧aa T (k+5+d) (.fn 135) [.bn fb v 0 n,af5 a,af5 m,af5 b,.fn 43 []] (pH bl fb v (P++(A++(B++S))) es0)=some (.bc [],pH bl fb v (P++(Q.cU key A B++S)) es')
theorem gO{X:List Nat}(h:X.length=0):X=[]:=adR h
theorem Ml(bl:List aC)(fb v:Nat)(hfb:fb<bl.length)(key:Nat→Int)(d k:Nat)(ih:uf bl fb v key d k)(P A B S:List Nat)(es0:List (Nat×Nat))(n a m b c:Nat)(hA:2≤A.length)(hB:2≤B.length)(hsA:Q.pv key A)(hsB:Q.pv key B)(hn:n=(P++(A++(B++S))).length)(ha:a=P.length)(hmm:m=a+A.length)(hb:b=m+B.length)
 (hM:n≤1000) (hm:∀z∈P++(A++(B++S)),fV bl fb key z) (he0:c0 bl.length es0) (hd:A.length+B.length≤d+1) (hc:(a+b)/2=c) (hcm:c<m) :
 ∃es',c0 bl.length es'∧aa T (k+5+d+1) (.fn 135) [.bn fb v 0 n,af5 a,af5 m,af5 b,.fn 43 []] (pH bl fb v (P++(A++(B++S))) es0)=some (.bc [],pH bl fb v (P++(Q.cU key A B++S)) es'):=by
 suffices h:∃r,aa T (k+5+d+1) (.fn 135) [.bn fb v 0 n,af5 a,af5 m,af5 b,.fn 43 []] (pH bl fb v (P++(A++(B++S))) es0)=some r∧∃es',c0 bl.length es'∧r=(.bc [],pH bl fb v (P++(Q.cU key A B++S)) es') by
  obtain⟨r,h1,es',h2,rfl⟩:=h
  exact⟨es',h2,h1⟩
 have hn':n=P.length+(A.length+(B.length+S.length)):=by rw[hn];simp
 refine dN FD (by rfl) ?_
 have hl:∀X,(bl.set fb X).length=bl.length:=fun X=>acU
 have hg:∀X,(bl.set fb X)[fb]?=some X:=fun X=>acM hfb
 have ht:∀X,(bl.set fb X).take bl.length=bl.set fb X:=fun X=>by rw[←hl X,adF]
 have a0:bb ((m:Int)-a)=((m-a:Nat):Int):=by rw[al (by omega) (by omega)];omega
 have a1:bb ((b:Int)-m)=((b-m:Nat):Int):=by rw[al (by omega) (by omega)];omega
 have a2:decide (((m-a:Nat):Int)=1)=false:=acs (by omega)
 have a3:decide (((b-m:Nat):Int)=1)=false:=acs (by omega)
 have hh:bb ((a:Int)+b)=((a+b:Nat):Int):=by rw[al (by omega) (by omega)];omega
 have hw:=oY (show a+b≤4000 by omega)
 rw[hc]at hw
 have a4:bb ((c:Int)+m)=((c+m:Nat):Int):=by rw[al (by omega) (by omega)];omega
 have a5:bb (((c+m:Nat):Int)-1)=((c+m-1:Nat):Int):=by rw[al (by omega) (by omega)];omega
 have a6:bb (((c+m:Nat):Int)-b)=((c+m-b:Nat):Int):=by rw[al (by omega) (by omega)];omega
 obtain⟨lo,hlo⟩:∃lo,lo=(c+m-b)-a:=⟨_,rfl⟩
 obtain⟨hi,hhi⟩:∃hi,hi=c-a:=⟨_,rfl⟩
 have e1:((c+m-b):Nat)=a+lo:=by omega
 have e2:(c:Nat)=a+hi:=by omega
 have f1:lo≤hi:=by omega
 have f2:hi≤A.length:=by omega
 have f3:a+hi≤c:=by omega
 have f4:c≤a+lo+B.length:=by omega
 simp only[Ef,go_sem,simprocAttr,hl,a0,a1,a2,a3,hh,hw,a4,a5,hcm,a6]
 refine cw (fun q s=>∃es',c0 bl.length es'∧∃i j:Nat,s=([(0,.bn fb v 0 n),(1,af5 a),(2,af5 m),(3,af5 b),(4,.fn 43 []),(18,af5 c),(19,af5 (c+m:Nat)),(20,af5 (a+i:Nat)),(21,af5 (a+j:Nat)),(22,af5 (c+m-1:Nat))],pH bl fb v (P++(A++(B++S))) es')∧
  lo≤i∧i≤j∧j≤hi∧j-i+q≤hi-lo∧(∀h x y,lo≤h→h<i→A[h]?=some x→B[c-1-a-h]?=some y→¬key y<key x)∧∀h x y,j≤h→h<hi→A[h]?=some x→B[c-1-a-h]?=some y→key y<key x) (hi-lo) ?_ ?_
 ·refine aX (bD rfl rfl (by simp only[go_sem,simprocAttr]<;>rfl) (by simp[SV.refs,SV.refs.av];omega) (hl _) (aV _) (aV _)) ?_
  rintro s ⟨es',h,rfl⟩
  exact⟨es',h,lo,hi,by rw[←e1,←e2],by omega,by omega,by omega,by omega,fun h x y h1 h2=>by omega,fun h x y h1 h2=>by omega⟩
 ·rintro q s hq ⟨es,he,i,j,rfl,p0,p1,p2,p3,p4,p5⟩
  cases hij:decide (a+i<a+j)with
  |true=>
   simp only[acr]at hij
   have hh2:bb (((a+i:Nat):Int)+((a+j:Nat):Int))=(((a+i)+(a+j):Nat):Int):=by rw[al (by omega) (by omega)];omega
   have hw2:=oY (show(a+i)+(a+j)≤4000 by omega)
   rw[show((a+i)+(a+j))/2=a+(i+j)/2 by omega]at hw2
   obtain⟨g,hgd⟩:∃g,(i+j)/2=g:=⟨_,rfl⟩
   rw[hgd]at hw2
   have w2:bb (((c+m-1:Nat):Int)-(a+g:Nat))=((m+(c-1-a-g):Nat):Int):=by rw[al (by omega) (by omega)];omega
   obtain⟨x,hx⟩:=bO (show g<A.length by omega)
   obtain⟨y,hy⟩:=bO (show c-1-a-g<B.length by omega)
   have hxM:(P++(A++(B++S)))[a+g]?=some x:=by
    rw[ha];exact Q.get_at P A (B++S) g hx
   have hyM:(P++(A++(B++S)))[m+(c-1-a-g)]?=some y:=by
    have:=Q.get_at (P++A) B S _ hy
    rw[show(P++A).length=m by simp;omega]at this
    simpa using this
   have kx:=hm x (acy hxM)
   have ky:=hm y (acy hyM)
   have h43:∀es ro,aa T (k+5+d) (.fn 43) [.ptr y 0 0 0,.ptr x 0 0 0] ⟨bl.set fb (.arr v 1 (pS (P++(A++(B++S)))) false),es,ro⟩=some (af5 (G.p8 (key y) (key x)),⟨bl.set fb (.arr v 1 (pS (P++(A++(B++S)))) false),es,ro⟩):=fun es ro=>by
    rw[show k+5+d=(k+2+d)+3 by omega];exact C8 ky kx _ v _ es ro
   have l1:a+g<n:=by omega
   have l2:m+(c-1-a-g)<n:=by omega
   have w1:bb (((a+g:Nat):Int)+1)=((a+(g+1):Nat):Int):=by rw[al (by omega) (by omega)];omega
   generalize hMd:P++(A++(B++S))=M at *
   simp only[go_sem,simprocAttr,hij,hh2,hw2,w2,l1,l2,hl,hg,←hn,hxM,hyM,h43,o6]
   cases hc2:decide (key y<key x)with
   |false=>
    have hc':=adi hc2
    simp only[go_sem,simprocAttr,w1]
    refine⟨by omega,aX (bD rfl rfl (by simp only[go_sem,simprocAttr]<;>rfl) (by simp[SV.refs,SV.refs.av];omega) (hl _) he (aV _)) ?_⟩
    rintro s ⟨es',h,rfl⟩
    refine⟨es',h,g+1,j,rfl,by omega,by omega,p2,by omega,fun h x' y' h1 h2 hx' hy'=>?_,p5⟩
    have q1:=Q.eB hsA hx' hx (by omega)
    have q2:=Q.eB hsB hy hy' (by omega)
    omega
   |true=>
    have hc':=acQ hc2
    simp only[go_sem,simprocAttr]
    refine⟨by omega,aX (bD rfl rfl (by simp only[go_sem,simprocAttr]<;>rfl) (by simp[SV.refs,SV.refs.av];omega) (hl _) he (aV _)) ?_⟩
    rintro s ⟨es',h,rfl⟩
    refine⟨es',h,i,g,rfl,by omega,by omega,by omega,by omega,p4,fun h x' y' h1 h2 hx' hy'=>?_⟩
    have q1:=Q.eB hsA hx hx' (by omega)
    have q2:=Q.eB hsB hy' hy (by omega)
    omega
  |false=>
   simp only[acx]at hij
   obtain rfl:j=i:=by omega
   have hd2:decide (a+j<a+j)=false:=acs (by omega)
   have w3:bb (((c+m:Nat):Int)-(a+j:Nat))=((c+m-(a+j):Nat):Int):=by rw[al (by omega) (by omega)];omega
   obtain⟨e,hee⟩:∃e,c+m-(a+j)=e:=⟨_,rfl⟩
   rw[hee]at w3
   obtain⟨dd,hdd⟩:∃dd,c-(a+j)=dd:=⟨_,rfl⟩
   have hspl:Q.cU key A B=Q.cU key (A.take j) (B.take dd)++Q.cU key (A.drop j) (B.drop dd):=by
    refine Q.vF hsA hsB ?_ ?_
    ·rcases acz lo j with hlt|hge
     ·obtain⟨x,hx⟩:=bO (show j-1<A.length by omega)
      rcases acz dd B.length with hlt2|hge2
      ·obtain⟨y,hy⟩:=bO hlt2
       exact .inr (.inr ⟨x,y,hx,hy,p4 (j-1) x y (by omega) (by omega) hx (by rw[show c-1-a-(j-1)=dd by omega];exact hy)⟩)
      ·exact .inr (.inl hge2)
     ·exact .inr (.inl (by omega))
    ·rcases acz j hi with hlt|hge
     ·obtain⟨x,hx⟩:=bO (show j<A.length by omega)
      obtain⟨y,hy⟩:=bO (show dd-1<B.length by omega)
      exact .inr (.inr ⟨x,y,hx,hy,p5 j x y (by omega) hlt hx (by rw[show c-1-a-j=dd-1 by omega];exact hy)⟩)
     ·exact .inl (by omega)
   obtain⟨A1,A2,hAA,hA1⟩:∃A1 A2,A=A1++A2∧A1.length=j:=⟨A.take j,A.drop j,(adC _ _).symm,by rw[adA];omega⟩
   obtain⟨B1,B2,hBB,hB1⟩:∃B1 B2,B=B1++B2∧B1.length=dd:=⟨B.take dd,B.drop dd,(adC _ _).symm,by rw[adA];omega⟩
   have tA:A.take j=A1:=by rw[hAA,←hA1,afu]
   have rA:A.drop j=A2:=by rw[hAA,←hA1,afS]
   have tB:B.take dd=B1:=by rw[hBB,←hB1,afu]
   have rB:B.drop dd=B2:=by rw[hBB,←hB1,afS]
   rw[tA,rA,tB,rB]at hspl
   have lA:A.length=j+A2.length:=by rw[hAA,acn,hA1]
   have lB:B.length=dd+B2.length:=by rw[hBB,acn,hB1]
   have sA:=Q.lY (hAA▸hsA)
   have sB:=Q.lY (hBB▸hsB)
   have hM0:P++(A++(B++S))=(P++A1)++(A2++(B1++(B2++S))):=by rw[hAA,hBB];simp
   have hfin:P++(Q.cU key A B++S)=(P++Q.cU key A1 B1)++(Q.cU key A2 B2++S):=by rw[hspl];simp
   have hmem:∀z,z∈P∨z∈A1∨z∈A2∨z∈B1∨z∈B2∨z∈S→fV bl fb key z:=fun z hz=>hm z (by rw[hAA,hBB];simp only[ady];grind)
   obtain⟨es1,he1,h179⟩:∃es1,c0 bl.length es1∧(a+j<m→m<e→aa T (k+5+d) (.fn 179) [.bn fb v 0 n,af5 (a+j:Nat),af5 m,af5 e,.fn 43 []] (pH bl fb v ((P++A1)++(A2++(B1++(B2++S)))) es)=some (.bc [],pH bl fb v ((P++A1)++(B1++(A2++(B2++S)))) es1))∧(¬(a+j<m∧m<e)→es1=es∧(P++A1)++(B1++(A2++(B2++S)))=(P++A1)++(A2++(B1++(B2++S)))):=by
    by_cases g:a+j<m∧m<e
    ·obtain⟨es1,q1,q2⟩:=NC bl fb v hfb (k+3+d) (P++A1) A2 B1 (B2++S) es n (a+j) m e (by omega) (by omega) (by rw[←hM0];exact hn) (by rw[acn];omega) (by omega) (by omega) hM (fun x hx=>(hm x (by rw[hM0];exact hx)).lt) he
     rw[show k+3+d+2=k+5+d by omega]at q2
     exact⟨es1,q1,fun _ _=>q2,fun h=>absurd g h⟩
    ·refine⟨es,he,fun h h'=>absurd ⟨h,h'⟩ g,fun _=>⟨rfl,?_⟩⟩
     rcases acz (a+j) m with h1|h1
     ·cases gO (show B1.length=0 by omega);simp
     ·cases gO (show A2.length=0 by omega);simp
   obtain⟨h179,h179n⟩:=h179
   obtain⟨es2,he2,h86⟩:∃es2,c0 bl.length es2∧(a<a+j→a+j<c→aa T (k+5+d) (.fn 135) [.bn fb v 0 n,af5 a,af5 (a+j:Nat),af5 c,.fn 43 []] (pH bl fb v ((P++A1)++(B1++(A2++(B2++S)))) es1)=some (.bc [],pH bl fb v ((P++Q.cU key A1 B1)++(A2++(B2++S))) es2))∧(¬(a<a+j∧a+j<c)→es2=es1∧(P++Q.cU key A1 B1)++(A2++(B2++S))=(P++A1)++(B1++(A2++(B2++S)))):=by
    by_cases g:a<a+j∧a+j<c
    ·obtain⟨es2,q1,q2⟩:=ih P A1 B1 (A2++(B2++S)) es1 n a (a+j) c (by omega) (by omega) sA.1 sB.1 (by rw[hn'];simp;omega) ha (by omega) (by omega) hM (fun z hz=>hmem z (by simp only[ady]at hz;grind)) he1 (by omega)
     exact⟨es2,q1,fun _ _=>by simpa using q2,fun h=>absurd g h⟩
    ·refine⟨es1,he1,fun h h'=>absurd ⟨h,h'⟩ g,fun _=>⟨rfl,?_⟩⟩
     rcases acz a (a+j)with h1|h1
     ·cases gO (show B1.length=0 by omega);simp[Q.cR]
     ·cases gO (show A1.length=0 by omega);simp[Q.cz]
   obtain⟨h86,h86n⟩:=h86
   have lM:(Q.cU key A1 B1).length=j+dd:=by rw[Q.oB,hA1,hB1]
   obtain⟨es3,he3,h87⟩:∃es3,c0 bl.length es3∧(c<e→e<b→aa T (k+5+d) (.fn 135) [.bn fb v 0 n,af5 c,af5 e,af5 b,.fn 43 []] (pH bl fb v ((P++Q.cU key A1 B1)++(A2++(B2++S))) es2)=some (.bc [],pH bl fb v ((P++Q.cU key A1 B1)++(Q.cU key A2 B2++S)) es3))∧(¬(c<e∧e<b)→es3=es2∧(P++Q.cU key A1 B1)++(Q.cU key A2 B2++S)=(P++Q.cU key A1 B1)++(A2++(B2++S))):=by
    by_cases g:c<e∧e<b
    ·obtain⟨es3,q1,q2⟩:=ih (P++Q.cU key A1 B1) A2 B2 S es2 n c e b (by omega) (by omega) sA.2.1 sB.2.1 (by rw[hn'];simp[lM];omega) (by rw[acn,lM];omega) (by omega) (by omega) hM (fun z hz=>hmem z (by simp only[ady,Q.iR]at hz;grind)) he2 (by omega)
     exact⟨es3,q1,fun _ _=>q2,fun h=>absurd g h⟩
    ·refine⟨es2,he2,fun h h'=>absurd ⟨h,h'⟩ g,fun _=>⟨rfl,?_⟩⟩
     rcases acz c e with h1|h1
     ·cases gO (show B2.length=0 by omega);simp[Q.cR]
     ·cases gO (show A2.length=0 by omega);simp[Q.cz]
   obtain⟨h87,h87n⟩:=h87
   rw[hM0,hfin]
   generalize (P++A1)++(A2++(B1++(B2++S)))=M0 at *
   generalize (P++A1)++(B1++(A2++(B2++S)))=M1 at *
   generalize (P++Q.cU key A1 B1)++(A2++(B2++S))=M2 at *
   generalize (P++Q.cU key A1 B1)++(Q.cU key A2 B2++S)=M3 at *
   have fin:∃es',c0 bl.length es'∧(SV.bc [],({bl:=bl.set fb (.arr v 1 (pS M3) false),bT:=es0++es3.filter (fun p=>decide (p.1<bl.length)),ro:=0}:ab))=(.bc [],pH bl fb v M3 es'):=⟨_,cj he0 (cd _ he3),rfl⟩
   have e3:=cO he3
   clear hAA hBB hM0 hfin hmem hspl sA sB tA rA tB rB ih hm hsA hsB p4 p5 hn
   simp only[go_sem,simprocAttr,hd2,hl,w3]
   by_cases g1:a+j<m
   ·simp only[go_sem,simprocAttr,g1]
    by_cases g2:m<e
    ·have h179:=h179 g1 g2
     simp only[go_sem,simprocAttr,g2,h179]
     by_cases g3:a<a+j
     ·simp only[go_sem,simprocAttr,g3]
      by_cases g4:a+j<c
      ·have h86:=h86 g3 g4
       simp only[go_sem,simprocAttr,g4,h86]
       by_cases g5:c<e
       ·simp only[go_sem,simprocAttr,g5]
        by_cases g6:e<b
        ·have h87:=h87 g5 g6
         simp only[go_sem,simprocAttr,g6,h87,hl,ht,ai,e3]
         exact fin
        ·obtain⟨rfl,rfl⟩:=h87n (fun h=>g6 h.2)
         simp only[go_sem,simprocAttr,g6,hl,ht,ai,e3]
         exact fin
       ·obtain⟨rfl,rfl⟩:=h87n (fun h=>g5 h.1)
        simp only[go_sem,simprocAttr,g5,hl,ht,ai,e3]
        exact fin
      ·obtain⟨rfl,rfl⟩:=h86n (fun h=>g4 h.2)
       simp only[go_sem,simprocAttr,g4]
       by_cases g5:c<e
       ·simp only[go_sem,simprocAttr,g5]
        by_cases g6:e<b
        ·have h87:=h87 g5 g6
         simp only[go_sem,simprocAttr,g6,h87,hl,ht,ai,e3]
         exact fin
        ·obtain⟨rfl,rfl⟩:=h87n (fun h=>g6 h.2)
         simp only[go_sem,simprocAttr,g6,hl,ht,ai,e3]
         exact fin
       ·obtain⟨rfl,rfl⟩:=h87n (fun h=>g5 h.1)
        simp only[go_sem,simprocAttr,g5,hl,ht,ai,e3]
        exact fin
     ·obtain⟨rfl,rfl⟩:=h86n (fun h=>g3 h.1)
      simp only[go_sem,simprocAttr,g3]
      by_cases g5:c<e
      ·simp only[go_sem,simprocAttr,g5]
       by_cases g6:e<b
       ·have h87:=h87 g5 g6
        simp only[go_sem,simprocAttr,g6,h87,hl,ht,ai,e3]
        exact fin
       ·obtain⟨rfl,rfl⟩:=h87n (fun h=>g6 h.2)
        simp only[go_sem,simprocAttr,g6,hl,ht,ai,e3]
        exact fin
      ·obtain⟨rfl,rfl⟩:=h87n (fun h=>g5 h.1)
       simp only[go_sem,simprocAttr,g5,hl,ht,ai,e3]
       exact fin
    ·obtain⟨rfl,rfl⟩:=h179n (fun h=>g2 h.2)
     simp only[go_sem,simprocAttr,g2]
     by_cases g3:a<a+j
     ·simp only[go_sem,simprocAttr,g3]
      by_cases g4:a+j<c
      ·have h86:=h86 g3 g4
       simp only[go_sem,simprocAttr,g4,h86]
       by_cases g5:c<e
       ·simp only[go_sem,simprocAttr,g5]
        by_cases g6:e<b
        ·have h87:=h87 g5 g6
         simp only[go_sem,simprocAttr,g6,h87,hl,ht,ai,e3]
         exact fin
        ·obtain⟨rfl,rfl⟩:=h87n (fun h=>g6 h.2)
         simp only[go_sem,simprocAttr,g6,hl,ht,ai,e3]
         exact fin
       ·obtain⟨rfl,rfl⟩:=h87n (fun h=>g5 h.1)
        simp only[go_sem,simprocAttr,g5,hl,ht,ai,e3]
        exact fin
      ·obtain⟨rfl,rfl⟩:=h86n (fun h=>g4 h.2)
       simp only[go_sem,simprocAttr,g4]
       by_cases g5:c<e
       ·simp only[go_sem,simprocAttr,g5]
        by_cases g6:e<b
        ·have h87:=h87 g5 g6
         simp only[go_sem,simprocAttr,g6,h87,hl,ht,ai,e3]
         exact fin
        ·obtain⟨rfl,rfl⟩:=h87n (fun h=>g6 h.2)
         simp only[go_sem,simprocAttr,g6,hl,ht,ai,e3]
         exact fin
       ·obtain⟨rfl,rfl⟩:=h87n (fun h=>g5 h.1)
        simp only[go_sem,simprocAttr,g5,hl,ht,ai,e3]
        exact fin
     ·obtain⟨rfl,rfl⟩:=h86n (fun h=>g3 h.1)
      simp only[go_sem,simprocAttr,g3]
      by_cases g5:c<e
      ·simp only[go_sem,simprocAttr,g5]
       by_cases g6:e<b
       ·have h87:=h87 g5 g6
        simp only[go_sem,simprocAttr,g6,h87,hl,ht,ai,e3]
        exact fin
       ·obtain⟨rfl,rfl⟩:=h87n (fun h=>g6 h.2)
        simp only[go_sem,simprocAttr,g6,hl,ht,ai,e3]
        exact fin
      ·obtain⟨rfl,rfl⟩:=h87n (fun h=>g5 h.1)
       simp only[go_sem,simprocAttr,g5,hl,ht,ai,e3]
       exact fin
   ·obtain⟨rfl,rfl⟩:=h179n (fun h=>g1 h.1)
    simp only[go_sem,simprocAttr,g1]
    by_cases g3:a<a+j
    ·simp only[go_sem,simprocAttr,g3]
     by_cases g4:a+j<c
     ·have h86:=h86 g3 g4
      simp only[go_sem,simprocAttr,g4,h86]
      by_cases g5:c<e
      ·simp only[go_sem,simprocAttr,g5]
       by_cases g6:e<b
       ·have h87:=h87 g5 g6
        simp only[go_sem,simprocAttr,g6,h87,hl,ht,ai,e3]
        exact fin
       ·obtain⟨rfl,rfl⟩:=h87n (fun h=>g6 h.2)
        simp only[go_sem,simprocAttr,g6,hl,ht,ai,e3]
        exact fin
      ·obtain⟨rfl,rfl⟩:=h87n (fun h=>g5 h.1)
       simp only[go_sem,simprocAttr,g5,hl,ht,ai,e3]
       exact fin
     ·obtain⟨rfl,rfl⟩:=h86n (fun h=>g4 h.2)
      simp only[go_sem,simprocAttr,g4]
      by_cases g5:c<e
      ·simp only[go_sem,simprocAttr,g5]
       by_cases g6:e<b
       ·have h87:=h87 g5 g6
        simp only[go_sem,simprocAttr,g6,h87,hl,ht,ai,e3]
        exact fin
       ·obtain⟨rfl,rfl⟩:=h87n (fun h=>g6 h.2)
        simp only[go_sem,simprocAttr,g6,hl,ht,ai,e3]
        exact fin
      ·obtain⟨rfl,rfl⟩:=h87n (fun h=>g5 h.1)
       simp only[go_sem,simprocAttr,g5,hl,ht,ai,e3]
       exact fin
    ·obtain⟨rfl,rfl⟩:=h86n (fun h=>g3 h.1)
     simp only[go_sem,simprocAttr,g3]
     by_cases g5:c<e
     ·simp only[go_sem,simprocAttr,g5]
      by_cases g6:e<b
      ·have h87:=h87 g5 g6
       simp only[go_sem,simprocAttr,g6,h87,hl,ht,ai,e3]
       exact fin
      ·obtain⟨rfl,rfl⟩:=h87n (fun h=>g6 h.2)
       simp only[go_sem,simprocAttr,g6,hl,ht,ai,e3]
       exact fin
     ·obtain⟨rfl,rfl⟩:=h87n (fun h=>g5 h.1)
      simp only[go_sem,simprocAttr,g5,hl,ht,ai,e3]
      exact fin
theorem Ol(bl:List aC)(fb v:Nat)(hfb:fb<bl.length)(key:Nat→Int)(d k:Nat)(ih:uf bl fb v key d k)(P A B S:List Nat)(es0:List (Nat×Nat))(n a m b c:Nat)(hA:2≤A.length)(hB:2≤B.length)(hsA:Q.pv key A)(hsB:Q.pv key B)(hn:n=(P++(A++(B++S))).length)(ha:a=P.length)(hmm:m=a+A.length)(hb:b=m+B.length)
 (hM:n≤1000) (hm:∀z∈P++(A++(B++S)),fV bl fb key z) (he0:c0 bl.length es0) (hd:A.length+B.length≤d+1) (hc:(a+b)/2=c) (hcm:¬c<m) :
 ∃es',c0 bl.length es'∧aa T (k+5+d+1) (.fn 135) [.bn fb v 0 n,af5 a,af5 m,af5 b,.fn 43 []] (pH bl fb v (P++(A++(B++S))) es0)=some (.bc [],pH bl fb v (P++(Q.cU key A B++S)) es'):=by
 suffices h:∃r,aa T (k+5+d+1) (.fn 135) [.bn fb v 0 n,af5 a,af5 m,af5 b,.fn 43 []] (pH bl fb v (P++(A++(B++S))) es0)=some r∧∃es',c0 bl.length es'∧r=(.bc [],pH bl fb v (P++(Q.cU key A B++S)) es') by
  obtain⟨r,h1,es',h2,rfl⟩:=h
  exact⟨es',h2,h1⟩
 have hn':n=P.length+(A.length+(B.length+S.length)):=by rw[hn];simp
 refine dN FD (by rfl) ?_
 have hl:∀X,(bl.set fb X).length=bl.length:=fun X=>acU
 have hg:∀X,(bl.set fb X)[fb]?=some X:=fun X=>acM hfb
 have ht:∀X,(bl.set fb X).take bl.length=bl.set fb X:=fun X=>by rw[←hl X,adF]
 have a0:bb ((m:Int)-a)=((m-a:Nat):Int):=by rw[al (by omega) (by omega)];omega
 have a1:bb ((b:Int)-m)=((b-m:Nat):Int):=by rw[al (by omega) (by omega)];omega
 have a2:decide (((m-a:Nat):Int)=1)=false:=acs (by omega)
 have a3:decide (((b-m:Nat):Int)=1)=false:=acs (by omega)
 have hh:bb ((a:Int)+b)=((a+b:Nat):Int):=by rw[al (by omega) (by omega)];omega
 have hw:=oY (show a+b≤4000 by omega)
 rw[hc]at hw
 have a4:bb ((c:Int)+m)=((c+m:Nat):Int):=by rw[al (by omega) (by omega)];omega
 have a5:bb (((c+m:Nat):Int)-1)=((c+m-1:Nat):Int):=by rw[al (by omega) (by omega)];omega
 obtain⟨lo,hlo⟩:∃lo,lo=a-a:=⟨_,rfl⟩
 obtain⟨hi,hhi⟩:∃hi,hi=m-a:=⟨_,rfl⟩
 have e1:(a:Nat)=a+lo:=by omega
 have e2:(m:Nat)=a+hi:=by omega
 have f1:lo≤hi:=by omega
 have f2:hi≤A.length:=by omega
 have f3:a+hi≤c:=by omega
 have f4:c≤a+lo+B.length:=by omega
 simp only[Ef,go_sem,simprocAttr,hl,a0,a1,a2,a3,hh,hw,a4,a5,hcm]
 refine cw (fun q s=>∃es',c0 bl.length es'∧∃i j:Nat,s=([(0,.bn fb v 0 n),(1,af5 a),(2,af5 m),(3,af5 b),(4,.fn 43 []),(18,af5 c),(19,af5 (c+m:Nat)),(20,af5 (a+i:Nat)),(21,af5 (a+j:Nat)),(22,af5 (c+m-1:Nat))],pH bl fb v (P++(A++(B++S))) es')∧
  lo≤i∧i≤j∧j≤hi∧j-i+q≤hi-lo∧(∀h x y,lo≤h→h<i→A[h]?=some x→B[c-1-a-h]?=some y→¬key y<key x)∧∀h x y,j≤h→h<hi→A[h]?=some x→B[c-1-a-h]?=some y→key y<key x) (hi-lo) ?_ ?_
 ·refine aX (bD rfl rfl (by simp only[go_sem,simprocAttr]<;>rfl) (by simp[SV.refs,SV.refs.av];omega) (hl _) (aV _) (aV _)) ?_
  rintro s ⟨es',h,rfl⟩
  exact⟨es',h,lo,hi,by rw[←e1,←e2],by omega,by omega,by omega,by omega,fun h x y h1 h2=>by omega,fun h x y h1 h2=>by omega⟩
 ·rintro q s hq ⟨es,he,i,j,rfl,p0,p1,p2,p3,p4,p5⟩
  cases hij:decide (a+i<a+j)with
  |true=>
   simp only[acr]at hij
   have hh2:bb (((a+i:Nat):Int)+((a+j:Nat):Int))=(((a+i)+(a+j):Nat):Int):=by rw[al (by omega) (by omega)];omega
   have hw2:=oY (show(a+i)+(a+j)≤4000 by omega)
   rw[show((a+i)+(a+j))/2=a+(i+j)/2 by omega]at hw2
   obtain⟨g,hgd⟩:∃g,(i+j)/2=g:=⟨_,rfl⟩
   rw[hgd]at hw2
   have w2:bb (((c+m-1:Nat):Int)-(a+g:Nat))=((m+(c-1-a-g):Nat):Int):=by rw[al (by omega) (by omega)];omega
   obtain⟨x,hx⟩:=bO (show g<A.length by omega)
   obtain⟨y,hy⟩:=bO (show c-1-a-g<B.length by omega)
   have hxM:(P++(A++(B++S)))[a+g]?=some x:=by
    rw[ha];exact Q.get_at P A (B++S) g hx
   have hyM:(P++(A++(B++S)))[m+(c-1-a-g)]?=some y:=by
    have:=Q.get_at (P++A) B S _ hy
    rw[show(P++A).length=m by simp;omega]at this
    simpa using this
   have kx:=hm x (acy hxM)
   have ky:=hm y (acy hyM)
   have h43:∀es ro,aa T (k+5+d) (.fn 43) [.ptr y 0 0 0,.ptr x 0 0 0] ⟨bl.set fb (.arr v 1 (pS (P++(A++(B++S)))) false),es,ro⟩=some (af5 (G.p8 (key y) (key x)),⟨bl.set fb (.arr v 1 (pS (P++(A++(B++S)))) false),es,ro⟩):=fun es ro=>by
    rw[show k+5+d=(k+2+d)+3 by omega];exact C8 ky kx _ v _ es ro
   have l1:a+g<n:=by omega
   have l2:m+(c-1-a-g)<n:=by omega
   have w1:bb (((a+g:Nat):Int)+1)=((a+(g+1):Nat):Int):=by rw[al (by omega) (by omega)];omega
   generalize hMd:P++(A++(B++S))=M at *
   simp only[go_sem,simprocAttr,hij,hh2,hw2,w2,l1,l2,hl,hg,←hn,hxM,hyM,h43,o6]
   cases hc2:decide (key y<key x)with
   |false=>
    have hc':=adi hc2
    simp only[go_sem,simprocAttr,w1]
    refine⟨by omega,aX (bD rfl rfl (by simp only[go_sem,simprocAttr]<;>rfl) (by simp[SV.refs,SV.refs.av];omega) (hl _) he (aV _)) ?_⟩
    rintro s ⟨es',h,rfl⟩
    refine⟨es',h,g+1,j,rfl,by omega,by omega,p2,by omega,fun h x' y' h1 h2 hx' hy'=>?_,p5⟩
    have q1:=Q.eB hsA hx' hx (by omega)
    have q2:=Q.eB hsB hy hy' (by omega)
    omega
   |true=>
    have hc':=acQ hc2
    simp only[go_sem,simprocAttr]
    refine⟨by omega,aX (bD rfl rfl (by simp only[go_sem,simprocAttr]<;>rfl) (by simp[SV.refs,SV.refs.av];omega) (hl _) he (aV _)) ?_⟩
    rintro s ⟨es',h,rfl⟩
    refine⟨es',h,i,g,rfl,by omega,by omega,by omega,by omega,p4,fun h x' y' h1 h2 hx' hy'=>?_⟩
    have q1:=Q.eB hsA hx hx' (by omega)
    have q2:=Q.eB hsB hy' hy (by omega)
    omega
  |false=>
   simp only[acx]at hij
   obtain rfl:j=i:=by omega
   have hd2:decide (a+j<a+j)=false:=acs (by omega)
   have w3:bb (((c+m:Nat):Int)-(a+j:Nat))=((c+m-(a+j):Nat):Int):=by rw[al (by omega) (by omega)];omega
   obtain⟨e,hee⟩:∃e,c+m-(a+j)=e:=⟨_,rfl⟩
   rw[hee]at w3
   obtain⟨dd,hdd⟩:∃dd,c-(a+j)=dd:=⟨_,rfl⟩
   have hspl:Q.cU key A B=Q.cU key (A.take j) (B.take dd)++Q.cU key (A.drop j) (B.drop dd):=by
    refine Q.vF hsA hsB ?_ ?_
    ·rcases acz lo j with hlt|hge
     ·obtain⟨x,hx⟩:=bO (show j-1<A.length by omega)
      rcases acz dd B.length with hlt2|hge2
      ·obtain⟨y,hy⟩:=bO hlt2
       exact .inr (.inr ⟨x,y,hx,hy,p4 (j-1) x y (by omega) (by omega) hx (by rw[show c-1-a-(j-1)=dd by omega];exact hy)⟩)
      ·exact .inr (.inl hge2)
     ·exact .inl (by omega)
    ·rcases acz j hi with hlt|hge
     ·obtain⟨x,hx⟩:=bO (show j<A.length by omega)
      obtain⟨y,hy⟩:=bO (show dd-1<B.length by omega)
      exact .inr (.inr ⟨x,y,hx,hy,p5 j x y (by omega) hlt hx (by rw[show c-1-a-j=dd-1 by omega];exact hy)⟩)
     ·exact .inr (.inl (by omega))
   obtain⟨A1,A2,hAA,hA1⟩:∃A1 A2,A=A1++A2∧A1.length=j:=⟨A.take j,A.drop j,(adC _ _).symm,by rw[adA];omega⟩
   obtain⟨B1,B2,hBB,hB1⟩:∃B1 B2,B=B1++B2∧B1.length=dd:=⟨B.take dd,B.drop dd,(adC _ _).symm,by rw[adA];omega⟩
   have tA:A.take j=A1:=by rw[hAA,←hA1,afu]
   have rA:A.drop j=A2:=by rw[hAA,←hA1,afS]
   have tB:B.take dd=B1:=by rw[hBB,←hB1,afu]
   have rB:B.drop dd=B2:=by rw[hBB,←hB1,afS]
   rw[tA,rA,tB,rB]at hspl
   have lA:A.length=j+A2.length:=by rw[hAA,acn,hA1]
   have lB:B.length=dd+B2.length:=by rw[hBB,acn,hB1]
   have sA:=Q.lY (hAA▸hsA)
   have sB:=Q.lY (hBB▸hsB)
   have hM0:P++(A++(B++S))=(P++A1)++(A2++(B1++(B2++S))):=by rw[hAA,hBB];simp
   have hfin:P++(Q.cU key A B++S)=(P++Q.cU key A1 B1)++(Q.cU key A2 B2++S):=by rw[hspl];simp
   have hmem:∀z,z∈P∨z∈A1∨z∈A2∨z∈B1∨z∈B2∨z∈S→fV bl fb key z:=fun z hz=>hm z (by rw[hAA,hBB];simp only[ady];grind)
   obtain⟨es1,he1,h179⟩:∃es1,c0 bl.length es1∧(a+j<m→m<e→aa T (k+5+d) (.fn 179) [.bn fb v 0 n,af5 (a+j:Nat),af5 m,af5 e,.fn 43 []] (pH bl fb v ((P++A1)++(A2++(B1++(B2++S)))) es)=some (.bc [],pH bl fb v ((P++A1)++(B1++(A2++(B2++S)))) es1))∧(¬(a+j<m∧m<e)→es1=es∧(P++A1)++(B1++(A2++(B2++S)))=(P++A1)++(A2++(B1++(B2++S)))):=by
    by_cases g:a+j<m∧m<e
    ·obtain⟨es1,q1,q2⟩:=NC bl fb v hfb (k+3+d) (P++A1) A2 B1 (B2++S) es n (a+j) m e (by omega) (by omega) (by rw[←hM0];exact hn) (by rw[acn];omega) (by omega) (by omega) hM (fun x hx=>(hm x (by rw[hM0];exact hx)).lt) he
     rw[show k+3+d+2=k+5+d by omega]at q2
     exact⟨es1,q1,fun _ _=>q2,fun h=>absurd g h⟩
    ·refine⟨es,he,fun h h'=>absurd ⟨h,h'⟩ g,fun _=>⟨rfl,?_⟩⟩
     rcases acz (a+j) m with h1|h1
     ·cases gO (show B1.length=0 by omega);simp
     ·cases gO (show A2.length=0 by omega);simp
   obtain⟨h179,h179n⟩:=h179
   obtain⟨es2,he2,h86⟩:∃es2,c0 bl.length es2∧(a<a+j→a+j<c→aa T (k+5+d) (.fn 135) [.bn fb v 0 n,af5 a,af5 (a+j:Nat),af5 c,.fn 43 []] (pH bl fb v ((P++A1)++(B1++(A2++(B2++S)))) es1)=some (.bc [],pH bl fb v ((P++Q.cU key A1 B1)++(A2++(B2++S))) es2))∧(¬(a<a+j∧a+j<c)→es2=es1∧(P++Q.cU key A1 B1)++(A2++(B2++S))=(P++A1)++(B1++(A2++(B2++S)))):=by
    by_cases g:a<a+j∧a+j<c
    ·obtain⟨es2,q1,q2⟩:=ih P A1 B1 (A2++(B2++S)) es1 n a (a+j) c (by omega) (by omega) sA.1 sB.1 (by rw[hn'];simp;omega) ha (by omega) (by omega) hM (fun z hz=>hmem z (by simp only[ady]at hz;grind)) he1 (by omega)
     exact⟨es2,q1,fun _ _=>by simpa using q2,fun h=>absurd g h⟩
    ·refine⟨es1,he1,fun h h'=>absurd ⟨h,h'⟩ g,fun _=>⟨rfl,?_⟩⟩
     rcases acz a (a+j)with h1|h1
     ·cases gO (show B1.length=0 by omega);simp[Q.cR]
     ·cases gO (show A1.length=0 by omega);simp[Q.cz]
   obtain⟨h86,h86n⟩:=h86
   have lM:(Q.cU key A1 B1).length=j+dd:=by rw[Q.oB,hA1,hB1]
   obtain⟨es3,he3,h87⟩:∃es3,c0 bl.length es3∧(c<e→e<b→aa T (k+5+d) (.fn 135) [.bn fb v 0 n,af5 c,af5 e,af5 b,.fn 43 []] (pH bl fb v ((P++Q.cU key A1 B1)++(A2++(B2++S))) es2)=some (.bc [],pH bl fb v ((P++Q.cU key A1 B1)++(Q.cU key A2 B2++S)) es3))∧(¬(c<e∧e<b)→es3=es2∧(P++Q.cU key A1 B1)++(Q.cU key A2 B2++S)=(P++Q.cU key A1 B1)++(A2++(B2++S))):=by
    by_cases g:c<e∧e<b
    ·obtain⟨es3,q1,q2⟩:=ih (P++Q.cU key A1 B1) A2 B2 S es2 n c e b (by omega) (by omega) sA.2.1 sB.2.1 (by rw[hn'];simp[lM];omega) (by rw[acn,lM];omega) (by omega) (by omega) hM (fun z hz=>hmem z (by simp only[ady,Q.iR]at hz;grind)) he2 (by omega)
     exact⟨es3,q1,fun _ _=>q2,fun h=>absurd g h⟩
    ·refine⟨es2,he2,fun h h'=>absurd ⟨h,h'⟩ g,fun _=>⟨rfl,?_⟩⟩
     rcases acz c e with h1|h1
     ·cases gO (show B2.length=0 by omega);simp[Q.cR]
     ·cases gO (show A2.length=0 by omega);simp[Q.cz]
   obtain⟨h87,h87n⟩:=h87
   rw[hM0,hfin]
   generalize (P++A1)++(A2++(B1++(B2++S)))=M0 at *
   generalize (P++A1)++(B1++(A2++(B2++S)))=M1 at *
   generalize (P++Q.cU key A1 B1)++(A2++(B2++S))=M2 at *
   generalize (P++Q.cU key A1 B1)++(Q.cU key A2 B2++S)=M3 at *
   have fin:∃es',c0 bl.length es'∧(SV.bc [],({bl:=bl.set fb (.arr v 1 (pS M3) false),bT:=es0++es3.filter (fun p=>decide (p.1<bl.length)),ro:=0}:ab))=(.bc [],pH bl fb v M3 es'):=⟨_,cj he0 (cd _ he3),rfl⟩
   have e3:=cO he3
   clear hAA hBB hM0 hfin hmem hspl sA sB tA rA tB rB ih hm hsA hsB p4 p5 hn
   simp only[go_sem,simprocAttr,hd2,hl,w3]
   by_cases g1:a+j<m
   ·simp only[go_sem,simprocAttr,g1]
    by_cases g2:m<e
    ·have h179:=h179 g1 g2
     simp only[go_sem,simprocAttr,g2,h179]
     by_cases g3:a<a+j
     ·simp only[go_sem,simprocAttr,g3]
      by_cases g4:a+j<c
      ·have h86:=h86 g3 g4
       simp only[go_sem,simprocAttr,g4,h86]
       by_cases g5:c<e
       ·simp only[go_sem,simprocAttr,g5]
        by_cases g6:e<b
        ·have h87:=h87 g5 g6
         simp only[go_sem,simprocAttr,g6,h87,hl,ht,ai,e3]
         exact fin
        ·obtain⟨rfl,rfl⟩:=h87n (fun h=>g6 h.2)
         simp only[go_sem,simprocAttr,g6,hl,ht,ai,e3]
         exact fin
       ·obtain⟨rfl,rfl⟩:=h87n (fun h=>g5 h.1)
        simp only[go_sem,simprocAttr,g5,hl,ht,ai,e3]
        exact fin
      ·obtain⟨rfl,rfl⟩:=h86n (fun h=>g4 h.2)
       simp only[go_sem,simprocAttr,g4]
       by_cases g5:c<e
       ·simp only[go_sem,simprocAttr,g5]
        by_cases g6:e<b
        ·have h87:=h87 g5 g6
         simp only[go_sem,simprocAttr,g6,h87,hl,ht,ai,e3]
         exact fin
        ·obtain⟨rfl,rfl⟩:=h87n (fun h=>g6 h.2)
         simp only[go_sem,simprocAttr,g6,hl,ht,ai,e3]
         exact fin
       ·obtain⟨rfl,rfl⟩:=h87n (fun h=>g5 h.1)
        simp only[go_sem,simprocAttr,g5,hl,ht,ai,e3]
        exact fin
     ·obtain⟨rfl,rfl⟩:=h86n (fun h=>g3 h.1)
      simp only[go_sem,simprocAttr,g3]
      by_cases g5:c<e
      ·simp only[go_sem,simprocAttr,g5]
       by_cases g6:e<b
       ·have h87:=h87 g5 g6
        simp only[go_sem,simprocAttr,g6,h87,hl,ht,ai,e3]
        exact fin
       ·obtain⟨rfl,rfl⟩:=h87n (fun h=>g6 h.2)
        simp only[go_sem,simprocAttr,g6,hl,ht,ai,e3]
        exact fin
      ·obtain⟨rfl,rfl⟩:=h87n (fun h=>g5 h.1)
       simp only[go_sem,simprocAttr,g5,hl,ht,ai,e3]
       exact fin
    ·obtain⟨rfl,rfl⟩:=h179n (fun h=>g2 h.2)
     simp only[go_sem,simprocAttr,g2]
     by_cases g3:a<a+j
     ·simp only[go_sem,simprocAttr,g3]
      by_cases g4:a+j<c
      ·have h86:=h86 g3 g4
       simp only[go_sem,simprocAttr,g4,h86]
       by_cases g5:c<e
       ·simp only[go_sem,simprocAttr,g5]
        by_cases g6:e<b
        ·have h87:=h87 g5 g6
         simp only[go_sem,simprocAttr,g6,h87,hl,ht,ai,e3]
         exact fin
        ·obtain⟨rfl,rfl⟩:=h87n (fun h=>g6 h.2)
         simp only[go_sem,simprocAttr,g6,hl,ht,ai,e3]
         exact fin
       ·obtain⟨rfl,rfl⟩:=h87n (fun h=>g5 h.1)
        simp only[go_sem,simprocAttr,g5,hl,ht,ai,e3]
        exact fin
      ·obtain⟨rfl,rfl⟩:=h86n (fun h=>g4 h.2)
       simp only[go_sem,simprocAttr,g4]
       by_cases g5:c<e
       ·simp only[go_sem,simprocAttr,g5]
        by_cases g6:e<b
        ·have h87:=h87 g5 g6
         simp only[go_sem,simprocAttr,g6,h87,hl,ht,ai,e3]
         exact fin
        ·obtain⟨rfl,rfl⟩:=h87n (fun h=>g6 h.2)
         simp only[go_sem,simprocAttr,g6,hl,ht,ai,e3]
         exact fin
       ·obtain⟨rfl,rfl⟩:=h87n (fun h=>g5 h.1)
        simp only[go_sem,simprocAttr,g5,hl,ht,ai,e3]
        exact fin
     ·obtain⟨rfl,rfl⟩:=h86n (fun h=>g3 h.1)
      simp only[go_sem,simprocAttr,g3]
      by_cases g5:c<e
      ·simp only[go_sem,simprocAttr,g5]
       by_cases g6:e<b
       ·have h87:=h87 g5 g6
        simp only[go_sem,simprocAttr,g6,h87,hl,ht,ai,e3]
        exact fin
       ·obtain⟨rfl,rfl⟩:=h87n (fun h=>g6 h.2)
        simp only[go_sem,simprocAttr,g6,hl,ht,ai,e3]
        exact fin
      ·obtain⟨rfl,rfl⟩:=h87n (fun h=>g5 h.1)
       simp only[go_sem,simprocAttr,g5,hl,ht,ai,e3]
       exact fin
   ·obtain⟨rfl,rfl⟩:=h179n (fun h=>g1 h.1)
    simp only[go_sem,simprocAttr,g1]
    by_cases g3:a<a+j
    ·simp only[go_sem,simprocAttr,g3]
     by_cases g4:a+j<c
     ·have h86:=h86 g3 g4
      simp only[go_sem,simprocAttr,g4,h86]
      by_cases g5:c<e
      ·simp only[go_sem,simprocAttr,g5]
       by_cases g6:e<b
       ·have h87:=h87 g5 g6
        simp only[go_sem,simprocAttr,g6,h87,hl,ht,ai,e3]
        exact fin
       ·obtain⟨rfl,rfl⟩:=h87n (fun h=>g6 h.2)
        simp only[go_sem,simprocAttr,g6,hl,ht,ai,e3]
        exact fin
      ·obtain⟨rfl,rfl⟩:=h87n (fun h=>g5 h.1)
       simp only[go_sem,simprocAttr,g5,hl,ht,ai,e3]
       exact fin
     ·obtain⟨rfl,rfl⟩:=h86n (fun h=>g4 h.2)
      simp only[go_sem,simprocAttr,g4]
      by_cases g5:c<e
      ·simp only[go_sem,simprocAttr,g5]
       by_cases g6:e<b
       ·have h87:=h87 g5 g6
        simp only[go_sem,simprocAttr,g6,h87,hl,ht,ai,e3]
        exact fin
       ·obtain⟨rfl,rfl⟩:=h87n (fun h=>g6 h.2)
        simp only[go_sem,simprocAttr,g6,hl,ht,ai,e3]
        exact fin
      ·obtain⟨rfl,rfl⟩:=h87n (fun h=>g5 h.1)
       simp only[go_sem,simprocAttr,g5,hl,ht,ai,e3]
       exact fin
    ·obtain⟨rfl,rfl⟩:=h86n (fun h=>g3 h.1)
     simp only[go_sem,simprocAttr,g3]
     by_cases g5:c<e
     ·simp only[go_sem,simprocAttr,g5]
      by_cases g6:e<b
      ·have h87:=h87 g5 g6
       simp only[go_sem,simprocAttr,g6,h87,hl,ht,ai,e3]
       exact fin
      ·obtain⟨rfl,rfl⟩:=h87n (fun h=>g6 h.2)
       simp only[go_sem,simprocAttr,g6,hl,ht,ai,e3]
       exact fin
     ·obtain⟨rfl,rfl⟩:=h87n (fun h=>g5 h.1)
      simp only[go_sem,simprocAttr,g5,hl,ht,ai,e3]
      exact fin
theorem uu(bl:List aC)(fb v:Nat)(hfb:fb<bl.length)(key:Nat→Int)(k:Nat):∀d,uf bl fb v key d k
 |0=>fun P A B S es0 n a m b hA hB _ _ _ _ _ _ _ _ _ hd=>by omega
 |d+1=>fun P A B S es0 n a m b hA hB hsA hsB hn ha hmm hb hM hm he0 hd=>by
  by_cases c1:A.length=1
  ·obtain⟨x,rfl⟩:=aet.1 c1
   obtain rfl:m=a+1:=by simpa using hmm
   have:=On bl fb v hfb key (k+2+d) P B S x es0 n a b hB hsB (by simpa using hn) ha hb hM (by simpa using hm) he0
   rw[show k+2+d+4=k+5+(d+1) by omega]at this
   simpa using this
  by_cases c2:B.length=1
  ·obtain⟨y,rfl⟩:=aet.1 c2
   obtain rfl:b=m+1:=by simpa using hb
   have:=Qx bl fb v hfb key (k+2+d) P A S y es0 n a m (by omega) hsA (by simpa using hn) ha hmm hM (by simpa using hm) he0
   rw[show k+2+d+4=k+5+(d+1) by omega]at this
   simpa using this
  by_cases hcm:(a+b)/2<m
  ·exact Ml bl fb v hfb key d k (uu bl fb v hfb key k d) P A B S es0 n a m b _ (by omega) (by omega) hsA hsB hn ha hmm hb hM hm he0 hd rfl hcm
  ·exact Ol bl fb v hfb key d k (uu bl fb v hfb key k d) P A B S es0 n a m b _ (by omega) (by omega) hsA hsB hn ha hmm hb hM hm he0 hd rfl hcm
theorem s79(bl:List aC)(fb v:Nat)(hfb:fb<bl.length)(key:Nat→Int)(k:Nat)(M:List Nat)(es0:List (Nat×Nat))(n:Nat)(hn:n=M.length)(hM:n<40)(hm:∀x∈M,fV bl fb key x)(he0:c0 bl.length es0) :
 ∃es',c0 bl.length es'∧aa T (k+46) (.fn 79) [.bn fb v 0 n,af5 n,.fn 43 []] (pH bl fb v M es0)=some (.bc [],pH bl fb v (Q.fw key M) es'):=by
 suffices h:∃r,aa T (k+46) (.fn 79) [.bn fb v 0 n,af5 n,.fn 43 []] (pH bl fb v M es0)=some r∧∃es',c0 bl.length es'∧r=(.bc [],pH bl fb v (Q.fw key M) es') by
  obtain⟨r,h1,es',h2,rfl⟩:=h
  exact⟨es',h2,h1⟩
 refine dN e79 (by rfl) ?_
 have hl:∀X,(bl.set fb X).length=bl.length:=fun X=>acU
 have ht:∀X,(bl.set fb X).take bl.length=bl.set fb X:=fun X=>by rw[←hl X,adF]
 have ZH:(20:Int)=((20*0+20:Nat):Int):=rfl
 simp only[ZL,go_sem,Int.reduceToNat,Nat.reduceAdd,Nat.reduceBEq,Nat.reduceLeDiff,Nat.reduceLT,Nat.reduceMul,Nat.reduceSub,Int.reduceEq,Int.reduceLT,Int.reduceLE,Int.reduceNeg,hl]
 refine cw (fun q s=>∃es',c0 bl.length es'∧s=([(0,.bn fb v 0 n),(1,af5 n),(2,.fn 43 []),(6,af5 20),(7,af5 (20*q:Nat)),(8,af5 (20*q+20:Nat))],pH bl fb v (Q.fw key (M.take (20*q))++M.drop (20*q)) es')∧20*q≤n) 1 ?_ ?_
 ·refine aX (bD rfl rfl (by simp only[go_sem,Int.reduceToNat,Nat.reduceAdd,Nat.reduceBEq,Nat.reduceLeDiff,Nat.reduceLT,Nat.reduceMul,Nat.reduceSub,Int.reduceEq,Int.reduceLT,Int.reduceLE,Int.reduceNeg]<;>rfl) (by simp[SV.refs,SV.refs.av];omega) (hl _) (aV _) (aV _)) ?_
  rintro s ⟨es',h,rfl⟩
  exact⟨es',h,by simp[Q.fw],by omega⟩
 ·rintro q s hq ⟨es,he,rfl,hP⟩
  have hX:(Q.fw key (M.take (20*q))++M.drop (20*q)).length=n:=by rw[acn,Q.lS,adA,afC];omega
  have hmX:∀x∈Q.fw key (M.take (20*q))++M.drop (20*q),fV bl fb key x:=fun x hx=>by
   rcases ady.1 hx with hx|hx
   ·exact hm x (afa ((Q.jW key _ x).1 hx))
   ·exact hm x (afE hx)
  have hiL:(Q.fw key (M.take (20*q))).length=20*q:=by rw[Q.lS,adA];omega
  cases hc:decide (((20*q+20:Nat):Int)≤(n:Int))with
  |true=>
   have hc':20*q+20≤n:=by simp only[acr]at hc;omega
   obtain rfl:q=0:=by omega
   have X0:Q.fw key (M.take (20*0))++M.drop (20*0)=M:=by simp[Q.fw]
   rw[X0]at hX hmX⊢
   obtain⟨es1,he1,h134⟩:=Mi bl fb v hfb key (k+41) M es 0 20 (by omega) (by omega) (by omega) hmX he
   have hsort:Q.kr key M 0 (20-(0+1))=Q.fw key (M.take 20)++M.drop 20:=by
    have:=Q.wY key [] (M.take 20) (M.drop 20) 0 20 rfl (by simp;omega)
    simp only[adu,adC]at this
    exact this
   rw[←hn,hsort]at h134
   have w1:bb ((20:Int)+20)=40:=by decide
   have hc2:decide ((20:Int)≤(n:Int))=true:=acp (by omega)
   simp only[afM]at h134
   simp only[go_sem,Int.reduceToNat,Nat.reduceAdd,Nat.reduceBEq,Nat.reduceLeDiff,Nat.reduceLT,Nat.reduceMul,Nat.reduceSub,Int.reduceEq,Int.reduceLT,Int.reduceLE,Int.reduceNeg,hc2,h134,w1]
   refine⟨by first|trivial|omega,aX (bD rfl rfl (by simp only[go_sem,Int.reduceToNat,Nat.reduceAdd,Nat.reduceBEq,Nat.reduceLeDiff,Nat.reduceLT,Nat.reduceMul,Nat.reduceSub,Int.reduceEq,Int.reduceLT,Int.reduceLE,Int.reduceNeg]<;>rfl) (by simp[SV.refs,SV.refs.av];omega) (hl _) he1 (aV _)) ?_⟩
   rintro s ⟨es',h,rfl⟩
   exact⟨es',h,rfl,by omega⟩
  |false=>
   have hc':¬20*q+20≤n:=by simp only[acx]at hc;omega
   obtain⟨es1,he1,h134⟩:=Mi bl fb v hfb key (k+41) (Q.fw key (M.take (20*q))++M.drop (20*q)) es (20*q) n (by omega) (by omega) (by omega) hmX he
   have hsort:Q.kr key (Q.fw key (M.take (20*q))++M.drop (20*q)) (20*q) (n-(20*q+1))=Q.fw key (M.take (20*q))++Q.fw key (M.drop (20*q)):=by
    have:=Q.wY key (Q.fw key (M.take (20*q))) (M.drop (20*q)) [] (20*q) n hiL.symm (by rw[hiL,afC];omega)
    simpa using this
   rw[hX,hsort]at h134
   obtain⟨Z,hZ⟩:∃Z,Q.fw key (M.take (20*q))++Q.fw key (M.drop (20*q))=Z:=⟨_,rfl⟩
   rw[hZ]at h134
   have hZ1:n≤20→Z=Q.fw key M:=fun h=>by
    rw[←hZ]
    rcases acz 0 q with h0|h0
    ·have:M.length≤20*q:=by omega
     rw[ac1 this,aeb this]
     simp[Q.fw]
    ·obtain rfl:q=0:=by omega
     simp[Q.fw]
   simp only[go_sem,Int.reduceToNat,Nat.reduceAdd,Nat.reduceBEq,Nat.reduceLeDiff,Nat.reduceLT,Nat.reduceMul,Nat.reduceSub,Int.reduceEq,Int.reduceLT,Int.reduceLE,Int.reduceNeg,hc,h134,hl]
   have hZ2:20<n→Z=Q.fw key (M.take 20)++Q.fw key (M.drop 20):=fun h=>by
    rw[←hZ]
    obtain rfl:q=1:=by omega
    rfl
   have hmZ:∀x∈Z,fV bl fb key x:=fun x hx=>by
    rw[←hZ]at hx
    rcases ady.1 hx with hx|hx
    ·exact hm x (afa ((Q.jW key _ x).1 hx))
    ·exact hm x (afE ((Q.jW key _ x).1 hx))
   clear h134 hsort hiL hmX hX hP hc hc' hZ
   refine cw (fun q s=>∃es',c0 bl.length es'∧s=([(0,.bn fb v 0 n),(1,af5 n),(2,.fn 43 []),(6,af5 (20*2 ^ q:Nat))],pH bl fb v (if q=0 then Z else Q.fw key M) es')) 1 ?_ ?_
   ·refine aX (bD rfl rfl (by simp only[go_sem,Int.reduceToNat,Nat.reduceAdd,Nat.reduceBEq,Nat.reduceLeDiff,Nat.reduceLT,Nat.reduceMul,Nat.reduceSub,Int.reduceEq,Int.reduceLT,Int.reduceLE,Int.reduceNeg]<;>rfl) (by simp[SV.refs,SV.refs.av];omega) (hl _) (aV _) (aV _)) ?_
    rintro s ⟨es',h,rfl⟩
    exact⟨es',h,rfl⟩
   ·rintro r s hr ⟨es2,he2,rfl⟩
    rcases acz 0 r with h0|h0
    ·obtain rfl:r=1:=by omega
     have hc:decide (((20*2 ^ 1:Nat):Int)<(n:Int))=false:=acs (by omega)
     have e0:=cj he1 he2
     rw[if_neg (by omega)]
     have hc2:decide ((40:Int)<(n:Int))=false:=acs (by omega)
     simp only[go_sem,Int.reduceToNat,Nat.reduceAdd,Nat.reduceBEq,Nat.reduceLeDiff,Nat.reduceLT,Nat.reduceMul,Nat.reduceSub,Int.reduceEq,Int.reduceLT,Int.reduceLE,Int.reduceNeg,Nat.reducePow,hc2,hl,ht,ai,cO e0]
     exact⟨_,cj he0 (cd _ e0),rfl⟩
    ·obtain rfl:r=0:=by omega
     rw[if_pos rfl]
     cases hc:decide ((20:Int)<(n:Int))with
     |false=>
      have hc':n≤20:=by simp only[acx]at hc;omega
      have e0:=cj he1 he2
      rw[hZ1 hc']
      simp only[go_sem,Int.reduceToNat,Nat.reduceAdd,Nat.reduceBEq,Nat.reduceLeDiff,Nat.reduceLT,Nat.reduceMul,Nat.reduceSub,Int.reduceEq,Int.reduceLT,Int.reduceLE,Int.reduceNeg,Nat.reducePow,hc,hl,ht,ai,cO e0]
      exact⟨_,cj he0 (cd _ e0),rfl⟩
     |true=>
      have hc':20<n:=by simp only[acr]at hc;omega
      have w1:bb (2*(20:Int))=40:=by decide
      have hd40:decide ((40:Int)≤(n:Int))=false:=acs (by omega)
      have w2:bb (0+(20:Int))=20:=by decide
      have w3:bb ((20:Int)*2)=40:=by decide
      simp only[go_sem,Int.reduceToNat,Nat.reduceAdd,Nat.reduceBEq,Nat.reduceLeDiff,Nat.reduceLT,Nat.reduceMul,Nat.reduceSub,Int.reduceEq,Int.reduceLT,Int.reduceLE,Int.reduceNeg,Nat.reducePow,hc,w1,hl]
      refine cw (fun q s=>∃es',c0 bl.length es'∧s=([(0,.bn fb v 0 n),(1,af5 n),(2,.fn 43 []),(6,af5 20),(7,af6),(8,af5 40)],pH bl fb v Z es')) 0 ?_ ?_
      ·refine aX (bD rfl rfl (by simp only[go_sem,Int.reduceToNat,Nat.reduceAdd,Nat.reduceBEq,Nat.reduceLeDiff,Nat.reduceLT,Nat.reduceMul,Nat.reduceSub,Int.reduceEq,Int.reduceLT,Int.reduceLE,Int.reduceNeg]<;>rfl) (by simp[SV.refs,SV.refs.av];omega) (hl _) (aV _) (aV _)) ?_
       rintro s ⟨es',h,rfl⟩
       exact⟨es',h,rfl⟩
      ·rintro t s ht0 ⟨es3,he3,rfl⟩
       have hZ:=hZ2 hc'
       have lZ1:(Q.fw key (M.take 20)).length=20:=by rw[Q.lS,adA];omega
       have lZ2:(Q.fw key (M.drop 20)).length=n-20:=by rw[Q.lS,afC];omega
       obtain⟨es4,he4,h135⟩:=uu bl fb v hfb key k 40 [] (Q.fw key (M.take 20)) (Q.fw key (M.drop 20)) [] (es2++es3) n 0 20 n (by omega) (by omega) (Q.lJ _ _) (Q.lJ _ _) (by simp[lZ1,lZ2];omega) rfl (by omega) (by omega) (by omega) (by simpa[←hZ]using hmZ) (cj he2 he3) (by omega)
       simp only[adu,adn,←hZ,←Q.j0,adC,afM,acD,Nat.reduceAdd]at h135
       simp only[go_sem,Int.reduceToNat,Nat.reduceAdd,Nat.reduceBEq,Nat.reduceLeDiff,Nat.reduceLT,Nat.reduceMul,Nat.reduceSub,Int.reduceEq,Int.reduceLT,Int.reduceLE,Int.reduceNeg,hd40,w2,w3,hc,h135]
       refine⟨trivial,aX (bD rfl rfl (by simp only[go_sem,Int.reduceToNat,Nat.reduceAdd,Nat.reduceBEq,Nat.reduceLeDiff,Nat.reduceLT,Nat.reduceMul,Nat.reduceSub,Int.reduceEq,Int.reduceLT,Int.reduceLE,Int.reduceNeg]<;>rfl) (by simp[SV.refs,SV.refs.av];omega) (hl _) he4 (aV _)) ?_⟩
       rintro s ⟨es',h,rfl⟩
       exact⟨es',h,rfl⟩
end Go.Sh
