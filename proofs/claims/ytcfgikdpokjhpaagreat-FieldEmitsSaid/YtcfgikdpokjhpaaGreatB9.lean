/- A part of the proof: texts K19sa, K19sb, ShLi, K19sc, K19sd, K19se, K19sf, K19sg, K19sh, K19si, K19sj. -/
import Derived.Test.YtcfgikdpokjhpaaGreatB8
import Derived.Test.YtcfgikdpokjhpaaGreatB3
import Derived.Test.YtcfgikdpokjhpaaGreatB6
import Derived.Test.YtcfgikdpokjhpaaGreatB7
namespace Go.Sh
set_option linter.unusedSectionVars false
set_option linter.unnecessarySimpa false
set_option linter.unusedSimpArgs false
set_option linter.unusedVariables false
set_option maxRecDepth 100000
set_option maxHeartbeats 4000000
namespace Q
def cN(key:Nat→Int):List Nat→List Nat→List Nat
 |[],Y=>Y
 |X,[]=>X
 |x::X,y::Y=>bif decide (key y<key x)then y::cN key (x::X) Y else x::cN key X (y::Y)
theorem db(key:Nat→Int)(X:List Nat):cN key X []=X:=by cases X<;>simp[cN]
theorem cE(key:Nat→Int)(X:List Nat):cN key [] X=X:=by simp[cN]
theorem cX{key:Nat→Int}{x y:Nat}(h:key y<key x)(X Y:List Nat):cN key (x::X) (y::Y)=y::cN key (x::X) Y:=by
 rw[cN,Zc h];rfl
theorem dw{key:Nat→Int}{x y:Nat}(h:¬key y<key x)(X Y:List Nat):cN key (x::X) (y::Y)=x::cN key X (y::Y):=by
 rw[cN,Zf h];rfl
theorem mK(key:Nat→Int):∀X Y,(cN key X Y).length=X.length+Y.length
 |[],Y=>by simp[cN]
 |x::X,[]=>by simp[cN]
 |x::X,y::Y=>by
  by_cases h:key y<key x
  ·rw[cX h,Zw,mK key (x::X) Y];simp;omega
  ·rw[dw h,Zw,mK key X (y::Y)];simp;omega
theorem ia(key:Nat→Int):∀X Y z,z∈cN key X Y↔z∈X∨z∈Y
 |[],Y,z=>by simp[cN]
 |x::X,[],z=>by simp[cN]
 |x::X,y::Y,z=>by
  by_cases h:key y<key x
  ·rw[cX h,ZU,ia key (x::X) Y z];simp only[ZU];grind
  ·rw[dw h,ZU,ia key X (y::Y) z];simp only[ZU];grind
theorem iJ(key:Nat→Int):∀X Y Z,cN key (cN key X Y) Z=cN key X (cN key Y Z)
 |[],Y,Z=>by simp[cE]
 |x::X,[],Z=>by simp[cE,db]
 |x::X,y::Y,[]=>by simp[db]
 |x::X,y::Y,z::Z=>by
  by_cases h:key y<key x
  ·by_cases h2:key z<key y
   ·have h3:key z<key x:=by omega
    have ih:=iJ key (x::X) (y::Y) Z
    rw[cX h]at ih⊢
    rw[cX h2,cX h2,cX h3,ih]
   ·rw[cX h,dw h2,dw h2,cX h,iJ key (x::X) Y (z::Z)]
  ·by_cases h2:key z<key x
   ·have h3:key z<key y:=by omega
    have ih:=iJ key (x::X) (y::Y) Z
    rw[dw h]at ih⊢
    rw[cX h2,cX h3,cX h2,ih]
   ·have ih:=iJ key X (y::Y) (z::Z)
    rw[dw h,dw h2,ih]
    by_cases h3:key z<key y
    ·rw[cX h3,dw h2]
    ·rw[dw h3,dw h]
termination_by X Y Z=>X.length+Y.length+Z.length
def pI(key:Nat→Int)(X:List Nat):Prop:=X.Pairwise fun x y=>key x≤key y
theorem tp(key:Nat→Int):∀X Y,pI key X→pI key Y→pI key (cN key X Y)
 |[],Y,_,hY=>by rw[cE];exact hY
 |x::X,[],hX,_=>by rw[db];exact hX
 |x::X,y::Y,hX,hY=>by
  have hX':=aag.1 hX
  have hY':=aag.1 hY
  by_cases h:key y<key x
  ·rw[cX h]
   refine aag.2 ⟨fun z hz=>?_,tp key (x::X) Y hX hY'.2⟩
   rcases(ia key _ _ z).1 hz with h1|h1
   ·rcases ZU.1 h1 with rfl|h1
    ·omega
    ·have:=hX'.1 z h1;omega
   ·exact hY'.1 z h1
  ·rw[dw h]
   refine aag.2 ⟨fun z hz=>?_,tp key X (y::Y) hX'.2 hY⟩
   rcases(ia key _ _ z).1 hz with h1|h1
   ·exact hX'.1 z h1
   ·rcases ZU.1 h1 with rfl|h1
    ·omega
    ·have:=hY'.1 z h1;omega
theorem fK(key:Nat→Int):∀A1 B1 A2 B2:List Nat,(∀a∈A1,∀b∈B2,¬key b<key a)→(∀b∈B1,∀a∈A2,key b<key a)→cN key (A1++A2) (B1++B2)=cN key A1 B1++cN key A2 B2
 |[],[],A2,B2,_,_=>by simp[cE]
 |[],b::B1,[],B2,_,_=>by simp[cE]
 |[],b::B1,a::A2,B2,h1,h2=>by
  have hb:=h2 b (by simp) a (by simp)
  have ih:=fK key [] B1 (a::A2) B2 (by simp) (fun b' hb'=>h2 b' (by simp[hb']))
  simp only[ZZ,cE]at ih
  simp only[ZZ,cE,Z5]
  rw[cX hb,ih]
 |a::A1,[],A2,[],_,_=>by simp[db]
 |a::A1,[],A2,b::B2,h1,h2=>by
  have hb:=h1 a (by simp) b (by simp)
  have ih:=fK key A1 [] A2 (b::B2) (fun a' ha'=>h1 a' (by simp[ha'])) (by simp)
  simp only[ZZ,db]at ih
  simp only[ZZ,db,Z5]
  rw[dw hb,ih]
 |a::A1,b::B1,A2,B2,h1,h2=>by
  simp only[Z5]
  by_cases h:key b<key a
  ·rw[cX h,cX h]
   have ih:=fK key (a::A1) B1 A2 B2 h1 (fun b' hb'=>h2 b' (by simp[hb']))
   simp only[Z5]at ih
   rw[ih,Z5]
  ·rw[dw h,dw h]
   have ih:=fK key A1 (b::B1) A2 B2 (fun a' ha'=>h1 a' (by simp[ha'])) h2
   simp only[Z5]at ih
   rw[ih,Z5]
termination_by A1 B1=>A1.length+B1.length
def fk(key:Nat→Int)(X:List Nat):List Nat:=X.foldl (fun Z x=>cN key Z [x]) []
theorem qc(key:Nat→Int):∀(X Z:List Nat),X.foldl (fun Z x=>cN key Z [x]) Z=cN key Z (fk key X)
 |[],Z=>by simp[fk,db]
 |x::X,Z=>by
  have e1:=qc key X (cN key Z [x])
  have e2:=qc key X (cN key [] [x])
  simp only[aad]
  rw[e1,iJ]
  refine congrArg (cN key Z) ?_
  unfold fk
  rw[aad,e2,cE]
  rfl
theorem ks(key:Nat→Int)(X Y:List Nat):fk key (X++Y)=cN key (fk key X) (fk key Y):=by
 rw[fk,acn,qc];rfl
theorem oS(key:Nat→Int)(x:Nat):fk key [x]=[x]:=by simp[fk,cE]
theorem BP(key:Nat→Int)(X:List Nat)(x:Nat):fk key (X++[x])=cN key (fk key X) [x]:=by
 rw[ks,oS]
theorem kI(key:Nat→Int)(X:List Nat):(fk key X).length=X.length:=by
 induction X with
 |nil=>rfl
 |cons x X ih=>
  have:=ks key [x] X
  rw[abg]at this
  rw[this,mK,ih,Zw,oS]
  simp;omega
theorem kB(key:Nat→Int)(X:List Nat)(z:Nat):z∈fk key X↔z∈X:=by
 induction X with
 |nil=>exact Iff.rfl
 |cons x X ih=>
  have:=ks key [x] X
  rw[abg]at this
  rw[this,ia,ih,ZU]
  have:z∈fk key [x]↔z=x:=by simp[fk,cE]
  rw[this]
theorem o6(key:Nat→Int)(X:List Nat):pI key (fk key X):=by
 induction X with
 |nil=>exact List.Pairwise.nil
 |cons x X ih=>
  have:=ks key [x] X
  rw[abg]at this
  rw[this]
  exact tp key _ _ (by simp[fk,cE,pI]) ih
theorem tc(key:Nat→Int)(Z W:List Nat)(x:Nat)(h1:∀z∈Z,¬key x<key z)(h2:∀w∈W,key x<key w):cN key (Z++W) [x]=Z++x::W:=by
 have:=fK key Z [] W [x] (fun a ha b hb=>by simp only[aab]at hb;subst hb;exact h1 a ha) (by simp)
 simp only[ZZ,db]at this
 rw[this]
 cases W with
 |nil=>simp[cE]
 |cons w W=>rw[cX (h2 w (by simp)),db]
theorem ET(key:Nat→Int)(Z W:List Nat)(x:Nat)(h1:∀z∈Z,key z<key x)(h2:∀w∈W,¬key w<key x):cN key [x] (Z++W)=Z++x::W:=by
 have:=fK key [] Z [x] W (by simp) (fun b hb a ha=>by simp only[aab]at ha;subst ha;exact h1 b hb)
 simp only[ZZ,cE]at this
 rw[this]
 cases W with
 |nil=>simp[db]
 |cons w W=>rw[dw (h2 w (by simp)),cE]
end Q
namespace Q
def sw(M:List Nat)(i j:Nat):List Nat:=match M[i]?,M[j]? with
 |some x,some y=>(M.set i y).set j x
 |_,_=>M
theorem wY(M:List Nat)(i j:Nat):(sw M i j).length=M.length:=by
 unfold sw
 split<;>simp
theorem qU{M:List Nat}{i j:Nat}{x y:Nat}(hx:M[i]?=some x)(hy:M[j]?=some y):sw M i j=(M.set i y).set j x:=by unfold sw;rw[hx,hy]
theorem eM(P R:List Nat)(u:Nat):(P++u::R)[P.length]?=some u:=by simp
theorem o8(P R:List Nat)(u w:Nat):(P++u::R).set P.length w=P++w::R:=by simp
theorem Cl(P Q R:List Nat)(u v i j:Nat)(hi:i=P.length)(hj:j=P.length+1+Q.length):sw (P++u::(Q++v::R)) i j=P++v::(Q++u::R):=by
 subst hi hj
 have e:∀u v:Nat,P++u::(Q++v::R)=(P++u::Q)++v::R:=fun u v=>by simp
 have l:P.length+1+Q.length=(P++u::Q).length:=by simp;omega
 have l2:P.length+1+Q.length=(P++v::Q).length:=by simp;omega
 have h1:=eM P (Q++v::R) u
 have h2:(P++u::(Q++v::R))[P.length+1+Q.length]?=some v:=by rw[e,l];exact eM _ _ _
 rw[qU h1 h2,o8,e,l2,o8,←e]
theorem oa(P Q R:List Nat)(u v i j:Nat)(hi:i=P.length)(hj:j=P.length+1+Q.length):sw (P++u::(Q++v::R)) j i=P++v::(Q++u::R):=by
 subst hi hj
 have e:∀u v:Nat,P++u::(Q++v::R)=(P++u::Q)++v::R:=fun u v=>by simp
 have l:P.length+1+Q.length=(P++u::Q).length:=by simp;omega
 have h1:=eM P (Q++v::R) u
 have h2:(P++u::(Q++v::R))[P.length+1+Q.length]?=some v:=by rw[e,l];exact eM _ _ _
 rw[qU h2 h1]
 have:(P++u::(Q++v::R)).set (P.length+1+Q.length) u=P++u::(Q++u::R):=by rw[e,l,o8,←e]
 rw[this,o8]
def vE(M:List Nat)(a b:Nat):Nat→List Nat
 |0=>M
 |i+1=>sw (vE M a b i) (a+i) (b+i)
theorem xI(M:List Nat)(a b:Nat):∀i,(vE M a b i).length=M.length
 |0=>rfl
 |i+1=>(wY _ _ _).trans (xI M a b i)
theorem vY{M:List Nat}{i j x:Nat}(h:x∈sw M i j):x∈M:=by
 unfold sw at h
 split at h
 ·rename_i u w hu hw
  rcases List.mem_or_eq_of_mem_set h with h|rfl
  ·rcases List.mem_or_eq_of_mem_set h with h|rfl
   ·exact h
   ·exact Zj hw
  ·exact Zj hu
 ·exact h
theorem pY{M:List Nat}{a b x:Nat}:∀{i},x∈vE M a b i→x∈M
 |0,h=>h
 |i+1,h=>pY (vY h)
theorem xu(P U Q V R:List Nat)(h:U.length=V.length):∀i,i≤U.length→
 vE (P++(U++(Q++(V++R)))) P.length (P.length+U.length+Q.length) i=P++(V.take i++(U.drop i++(Q++(U.take i++(V.drop i++R)))))
 |0,_=>by simp[vE]
 |i+1,hi=>by
  rw[vE,xu P U Q V R h i (by omega)]
  obtain⟨u,hu⟩:∃u,U[i]?=some u:=⟨U[i],Zq (by omega)⟩
  obtain⟨v,hv⟩:∃v,V[i]?=some v:=⟨V[i],Zq (by omega)⟩
  obtain⟨hu1,hu2⟩:=Y8.1 hu
  obtain⟨hv1,hv2⟩:=Y8.1 hv
  have du:U.drop i=u::U.drop (i+1):=by rw[aaK hu1,hu2]
  have dv:V.drop i=v::V.drop (i+1):=by rw[aaK hv1,hv2]
  have tu:U.take (i+1)=U.take i++[u]:=by rw[aaE,hu];rfl
  have tv:V.take (i+1)=V.take i++[v]:=by rw[aaE,hv];rfl
  have:=Cl (P++V.take i) (U.drop (i+1)++(Q++U.take i)) (V.drop (i+1)++R) u v (P.length+i) (P.length+U.length+Q.length+i) (by simp;omega) (by simp;omega)
  rw[du,dv,tu,tv]
  simp only[Za,Z5,ZZ]at this⊢
  exact this
theorem tD(P U Q V R:List Nat)(a b n:Nat)(h:U.length=n)(h':V.length=n)(ha:a=P.length)(hb:b=P.length+n+Q.length) :
 vE (P++(U++(Q++(V++R)))) a b n=P++(V++(Q++(U++R))):=by
 subst ha hb h
 have:=xu P U Q V R h'.symm U.length (Zp _)
 rw[this,ZM (by omega),aaO (by omega),ZM (l:=U) (by omega),aaO (l:=V) (by omega)]
 simp
def l8(key:Nat→Int)(M:List Nat)(i j:Nat):Bool:=match M[i]?,M[j]? with
 |some x,some y=>decide (key x<key y)
 |_,_=>false
theorem nI{key:Nat→Int}{M:List Nat}{i j:Nat}{x y:Nat}(hx:M[i]?=some x)(hy:M[j]?=some y):l8 key M i j=decide (key x<key y):=by unfold l8;rw[hx,hy]
def kj(key:Nat→Int)(a:Nat):Nat→List Nat→List Nat
 |0,M=>M
 |j+1,M=>bif decide (a<j+1)&&l8 key M (j+1) j then kj key a j (sw M (j+1) j)else M
theorem uL(key:Nat→Int)(a:Nat):∀j M,(kj key a j M).length=M.length
 |0,M=>rfl
 |j+1,M=>by
  unfold kj
  cases decide (a<j+1)&&l8 key M (j+1) j
  ·rfl
  ·exact(uL key a j _).trans (wY _ _ _)
def sm(M:List Nat)(j:Nat):Nat→List Nat
 |0=>M
 |q+1=>sw (sm M j q) (j-q) (j-q-1)
theorem tV(M:List Nat)(j:Nat):∀q,(sm M j q).length=M.length
 |0=>rfl
 |q+1=>(wY _ _ _).trans (tV M j q)
def jO(key:Nat→Int)(M:List Nat)(a:Nat):Nat→List Nat
 |0=>M
 |i+1=>kj key a (a+1+i) (jO key M a i)
theorem tI(key:Nat→Int)(M:List Nat)(a:Nat):∀i,(jO key M a i).length=M.length
 |0=>rfl
 |i+1=>(uL _ _ _ _).trans (tI key M a i)
theorem kJ{key:Nat→Int}{Z W:List Nat}(h:pI key (Z++W)):pI key Z∧pI key W∧∀z∈Z,∀w∈W,key z≤key w:=by
 have:=aaG.1 h
 exact⟨this.1,this.2.1,this.2.2⟩
theorem D8(key:Nat→Int)(P:List Nat)(x:Nat)(R:List Nat):∀(Z W:List Nat) (j:Nat),pI key (Z++W)→(∀w∈W,key x<key w)→j=P.length+Z.length→
 kj key P.length j (P++(Z++(x::(W++R))))=P++(cN key (Z++W) [x]++R):=by
 intro Z
 obtain⟨n,hn⟩:∃n,Z.length=n:=⟨_,rfl⟩
 induction n generalizing Z with
 |zero=>
  intro W j hs hW hj
  cases aan hn
  simp only[Zx,aaN]at hj
  subst hj
  rw[tc key [] W x (by simp) hW]
  cases hP:P.length with
  |zero=>simp[kj]
  |succ p=>
   unfold kj
   rw[Zf (show ¬p+1<p+1 by omega)]
   simp
 |succ n ih0=>
  intro W j hs hW hj
  obtain⟨Z,z,rfl⟩:∃Z' z,Z=Z'++[z]:=by
   rcases ab2 Z with rfl|⟨Z',z,h⟩
   ·cases hn
   ·exact⟨Z',z,by simpa using h⟩
  have ih:=ih0 Z (by simpa using hn)
  simp only[Y9,Zw,Zx]at hj
  obtain⟨j,rfl⟩:∃j',j=j'+1:=⟨P.length+Z.length,by omega⟩
  have hz:(P++(Z++[z]++(x::(W++R))))[j]?=some z:=by
   have:=eM (P++Z) (x::(W++R)) z
   rw[show(P++Z).length=j by simp;omega]at this
   simpa using this
  have hx:(P++(Z++[z]++(x::(W++R))))[j+1]?=some x:=by
   have:=eM (P++Z++[z]) (W++R) x
   rw[show(P++Z++[z]).length=j+1 by simp;omega]at this
   simpa using this
  unfold kj
  rw[Zc (show P.length<j+1 by omega),nI hx hz,ZP]
  by_cases hlt:key x<key z
  ·rw[Zc hlt,Zr]
   have hsw:=oa (P++Z) [] (W++R) z x j (j+1) (by simp;omega) (by simp;omega)
   simp only[ZZ,Za,Z5]at hsw
   simp only[Za,Z5,ZZ]
   rw[hsw]
   have:=ih (z::W) j (by simpa using hs) (fun w hw=>by
    rcases ZU.1 hw with rfl|hw
    ·exact hlt
    ·exact hW w hw) (by omega)
   simp only[Z5]at this
   rw[this]
  ·rw[Zf hlt,Zu]
   have h3:=(kJ hs).1
   have hall:∀y∈Z++[z],¬key x<key y:=fun y hy=>by
    rcases Z1.1 hy with hy|hy
    ·have:=(kJ h3).2.2 y hy z (by simp);omega
    ·simp only[aab]at hy;subst hy;exact hlt
   rw[tc key (Z++[z]) W x hall hW]
   simp
theorem xn(key:Nat→Int)(P X R:List Nat):∀i,i+1≤X.length→jO key (P++(X++R)) P.length i=P++(fk key (X.take (i+1))++(X.drop (i+1)++R))
 |0,hi=>by
  cases X with
  |nil=>simp at hi
  |cons x X=>simp[jO,oS]
 |i+1,hi=>by
  rw[jO,xn key P X R i (by omega)]
  obtain⟨u,hu⟩:∃u,X[i+1]?=some u:=⟨X[i+1],Zq (by omega)⟩
  obtain⟨hu1,hu2⟩:=Y8.1 hu
  have du:X.drop (i+1)=u::X.drop (i+1+1):=by rw[aaK hu1,hu2]
  have tu:X.take (i+1+1)=X.take (i+1)++[u]:=by rw[aaE,hu];rfl
  rw[du,tu,BP]
  have hl:(fk key (X.take (i+1))).length=i+1:=by rw[kI,Z8];omega
  have:=D8 key P u (X.drop (i+1+1)++R) (fk key (X.take (i+1))) [] (P.length+1+i) (by simpa using o6 key _) (by simp) (by rw[hl];omega)
  simp only[ZZ,ZW]at this
  exact this
theorem u5(key:Nat→Int)(P X R:List Nat)(a b:Nat)(ha:a=P.length)(hb:b=P.length+X.length):jO key (P++(X++R)) a (b-(a+1))=P++(fk key X++R):=by
 subst ha hb
 cases X with
 |nil=>simp[jO,fk]
 |cons x X=>
  have:=xn key P (x::X) R X.length (by simp)
  rw[show P.length+(x::X).length-(P.length+1)=X.length by simp;omega,this,ZM (by simp),aaO (by simp)]
  simp
end Q
def kU(p:ct)(N:Nat)(H0:ab)(s':Env×ab)(I:Env×ab→Prop):Prop:=∃s,dU p N H0 s'=some s∧I s
def sI{R:Type}(p:ct)(N:Nat)(H0:ab)(I:Nat→Env×ab→Prop)(m i:Nat)(k:Out→Option R)(Q:R→Prop)(o:Out):Prop:=match o with
 |(.normal,s')=>i<m∧kU p N H0 s' (I (i+1))
 |o=>post (k o) Q
@[go_sem] theorem Lw {R:Type}(p N H0 I m i)(k:Out→Option R)(Q s):sI p N H0 I m i k Q (.normal,s)=(i<m∧kU p N H0 s (I (i+1))):=Eq.trans rfl rfl
@[go_sem] theorem NJ {R:Type}(p N H0 I m i)(k:Out→Option R)(Q j s):sI p N H0 I m i k Q (.exit j,s)=post (k (.exit j,s)) Q:=Eq.trans rfl rfl
@[go_sem] theorem Ld {R:Type}(p N H0 I m i)(k:Out→Option R)(Q s):sI p N H0 I m i k Q (.ret,s)=post (k (.ret,s)) Q:=Eq.trans rfl rfl
theorem cr{R:Type}{p:ct}{N:Nat}{H0:ab}{rec:Rec}{a:cn}{s0:Env×ab}{k:Out→Option R}{Q:R→Prop}
 (I:Nat→Env×ab→Prop) (m:Nat) (h0:kU p N H0 s0 (I 0))
 (h:∀i s,i≤m→I i s→post (runK rec (fun x e H=>some (x,e,H)) a [] s.1 s.2 ()) (sI p N H0 I m i k Q)) :
 post (aN (ki (eP p N H0 rec a) s0) k ()) Q:=by
 have key:∀(j i:Nat) (s0 s:Env×ab),i+j=m→I i s→dU p N H0 s0=some s→∃n o,cI (eP p N H0 rec a) n s0=some o∧post (k o) Q:=by
  intro j
  induction j with
  |zero=>
   intro i s0 s hi hPi hs
   obtain⟨o,h1,h2⟩:=h i s (by omega) hPi
   have hf:eP p N H0 rec a s0=some o:=by rw[gB,hs];exact h1
   obtain⟨x,s'⟩:=o
   cases x with
   |normal=>exact absurd h2.1 (by omega)
   |exit id=>exact⟨1,_,by simp only[cI,hf],h2⟩
   |ret=>exact⟨1,_,by simp only[cI,hf],h2⟩
  |succ j ih=>
   intro i s0 s hi hPi hs
   obtain⟨o,h1,h2⟩:=h i s (by omega) hPi
   have hf:eP p N H0 rec a s0=some o:=by rw[gB,hs];exact h1
   obtain⟨x,s'⟩:=o
   cases x with
   |normal=>
    obtain⟨_,s2,h5,h6⟩:=h2
    obtain⟨n,o,h3,h4⟩:=ih (i+1) s' s2 (by omega) h6 h5
    exact⟨n+1,o,by simp only[cI,hf];exact h3,h4⟩
   |exit id=>exact⟨1,_,by simp only[cI,hf],h2⟩
   |ret=>exact⟨1,_,by simp only[cI,hf],h2⟩
 obtain⟨s,h1,h2⟩:=h0
 obtain⟨n,o,h3,h4⟩:=key m 0 s0 s (by omega) h2 h1
 rw[nh h3]
 exact h4
def cP(N:Nat)(es:List (Nat×Nat)):Prop:=∀p∈es,p.2≤N
theorem aV(N:Nat):cP N []:=fun p h=>by cases h
theorem AN{N a b:Nat}{es:List (Nat×Nat)}(h:cP N es)(hb:b≤N):cP N ((a,b)::es):=fun p hp=>by
 rcases ZU.1 hp with rfl|hp
 ·exact hb
 ·exact h p hp
theorem fM{N a b:Nat}{c:Bool}{es:List (Nat×Nat)}(h:cP N es)(hb:b≤N):cP N (bif c then es else(a,b)::es):=by
 cases c
 ·exact AN h hb
 ·exact h
theorem cd{N:Nat}{es es':List (Nat×Nat)}(h:cP N es)(h':cP N es'):cP N (es++es'):=fun p hp=>by
 rcases Z1.1 hp with hp|hp
 ·exact h p hp
 ·exact h' p hp
theorem ca{N:Nat}{es:List (Nat×Nat)}(f:Nat×Nat→Bool)(h:cP N es):cP N (es.filter f):=fun p hp=>h p (aaA.1 hp).1
theorem cK{N:Nat}{es:List (Nat×Nat)}(h:cP N es):es.all (fun p=>!(decide (p.1<N)&&decide (N<p.2)))=true:=by
 rw[ZA]
 intro p hp
 have:=h p hp
 have h2:decide (N<p.2)=false:=Zf (by omega)
 rw[h2,Z2]
 rfl
theorem jR{N M:Nat}{es:List (Nat×Nat)}(h:cP N es)(hm:N≤M):cP M es:=fun p hp=>ZN (h p hp) hm
theorem vL{N:Nat}{H0:ab}{bl:List aD}{es:List (Nat×Nat)}{ro:Nat}(hN:bl.length=N)(he:cP N es):cV N H0 ⟨bl,es,ro⟩=some ⟨bl,H0.bQ++es.filter (fun p=>decide (p.1<N)),H0.ro⟩:=by
 subst hN
 rw[uJ,cK he]
 simp
theorem vo{N:Nat}{H0:ab}{bl l:List aD}{es:List (Nat×Nat)}{ro:Nat}(hN:bl.length=N)(he:cP N es):cV N H0 ⟨bl++l,es,ro⟩=some ⟨bl,H0.bQ++es.filter (fun p=>decide (p.1<N)),H0.ro⟩:=by
 subst hN
 rw[uJ]
 show(bif _&&es.all _ then _ else _)=_
 rw[cK he]
 simp
theorem dt{T:FuncId→Option aC}{f:FuncId}{F:aC}{xs:List SV}{n:Nat}{H:ab}{Q:SV×ab→Prop}(hT:T f=some F)(hp:eA F xs=false)
 (h:post (runK (aa T n) (oJ F.res (fun v H'=>cR F.keep H v H')) F.body [] (dR xs) ⟨H.bl,[],min H.ro H.bl.length⟩ ()) Q):∃r,aa T (n+1) (.fn f) xs H=some r∧Q r:=by
 obtain⟨r,h1,h2⟩:=h
 exact⟨r,bj hT hp h1,h2⟩
theorem rR{p:ct}{N:Nat}{H0:ab}{e:Env}{bl:List aD}{es:List (Nat×Nat)}{ro:Nat}(hv:p.bB=[])(hk:jD p.live=false)(hr:SV.refs.au ((dx p.live e).map (·.2))≤N)(hN:bl.length=N)(he:cP N es) :
 dU p N H0 (e,⟨bl,es,ro⟩)=some (dx p.live e,⟨bl,H0.bQ++es.filter (fun p=>decide (p.1<N)),H0.ro⟩):=by
 rw[pj,hv]
 simp only[lr,aN,pM,hk,Zu,Zc hr,Zr,vL hN he,ZQ]
theorem pC{p:ct}{N:Nat}{H0:ab}{e:Env}{bl l:List aD}{es:List (Nat×Nat)}{ro:Nat}(hv:p.bB=[])(hk:jD p.live=false)(hr:SV.refs.au ((dx p.live e).map (·.2))≤N)(hN:bl.length=N)(he:cP N es) :
 dU p N H0 (e,⟨bl++l,es,ro⟩)=some (dx p.live e,⟨bl,H0.bQ++es.filter (fun p=>decide (p.1<N)),H0.ro⟩):=by
 rw[pj,hv]
 simp only[lr,aN,pM,hk,Zu,Zc hr,Zr,vo hN he,ZQ]
theorem yq{p:ct}{N:Nat}{H0:ab}{e:Env}{H:ab}(hv:p.bB=[])(hk:jD p.live=true) :
 dU p N H0 (e,H)=some (dx p.live.tail e,H):=by
 rw[pj,hv]
 simp only[lr,aN,pM,hk,Zr]
theorem bC{p:ct}{N:Nat}{H0:ab}{e env:Env}{bl:List aD}{es:List (Nat×Nat)}{ro:Nat}(hv:p.bB=[])(hk:jD p.live=false)(henv:dx p.live e=env)(hr:SV.refs.au (env.map (·.2))≤N)(hN:bl.length=N)(he:cP N es)(h0:cP N H0.bQ) :
 kU p N H0 (e,⟨bl,es,ro⟩) (fun s=>∃es',cP N es'∧s=(env,⟨bl,es',H0.ro⟩)):=by
 subst henv
 exact⟨_,rR hv hk hr hN he,_,cd h0 (ca _ he),rfl⟩
theorem zQ{p:ct}{N:Nat}{H0:ab}{e env:Env}{bl l:List aD}{es:List (Nat×Nat)}{ro:Nat}(hv:p.bB=[])(hk:jD p.live=false)(henv:dx p.live e=env)(hr:SV.refs.au (env.map (·.2))≤N)(hN:bl.length=N)(he:cP N es)(h0:cP N H0.bQ) :
 kU p N H0 (e,⟨bl++l,es,ro⟩) (fun s=>∃es',cP N es'∧s=(env,⟨bl,es',H0.ro⟩)):=by
 subst henv
 exact⟨_,pC hv hk hr hN he,_,cd h0 (ca _ he),rfl⟩
theorem aX{p:ct}{N:Nat}{H0:ab}{s':Env×ab}{I J:Env×ab→Prop}(h:kU p N H0 s' I)(hij:∀s,I s→J s):kU p N H0 s' J:=by
 obtain⟨s,h1,h2⟩:=h
 exact⟨s,h1,hij s h2⟩
theorem mx:1000≤maxLen:=by decide
def pS(M:List Nat):List (List SV):=M.map fun b=>[.ptr b 0 0 0]
@[go_sem] theorem wJ {M:List Nat}:(pS M).length=M.length:=by simp[pS]
@[go_sem] theorem Qm (M:List Nat)(i:Nat):(pS M)[i]?=(M[i]?).map fun b=>[.ptr b 0 0 0]:=by simp[pS]
theorem sJ(M:List Nat)(i b:Nat):(pS M).set i [.ptr b 0 0 0]=pS (M.set i b):=by simp[pS,List.map_set]
theorem nU(a b:Int):decide (G.oL a b<0)=decide (a<b):=by
 unfold G.oL
 split
 ·simp[*]
 ·split<;>simp[*]
theorem W9(n x y:Nat)(H:ab)(cx cy:List SV)(kx ky:Int)(hx:H.bl[x]?=some (.box cx))(hy:H.bl[y]?=some (.box cy))(gx:cx[4]?=some (acH kx))(gy:cy[4]?=some (acH ky)) :
 aa T (n+3) (.fn 43) [.ptr x 0 0 0,.ptr y 0 0 0] H=some (acH (G.oL kx ky),H):=by
 refine cU XX rfl rfl (fun R k bl ro r hbl hk=>?_)
 obtain rfl:bl=H.bl:=by
  rcases hbl with⟨rfl,h0⟩|rfl
  ·simp[SV.refs.au,SV.refs]at h0
  ·rfl
 have h44:=fun H=>G.V2 n H kx ky
 simp only[V4,aF,aB,aG,aE,az,av,ay,ax,bc,aS,bg,aU,aP,aT,aH,aQ,aJ,aI,aw,af,bK,bL,Za,Y9,Zk,go_sem,simprocAttr,hx,hy,gx,gy,h44]
 have:=hk []
 rw[ZW]at this
 exact this
abbrev pH(bl:List aD)(fb v:Nat)(M:List Nat)(es:List (Nat×Nat)):ab:=⟨bl.set fb (.arr v 1 (pS M) false),es,0⟩
theorem Ip(bl:List aD)(fb v:Nat)(hfb:fb<bl.length)(k:Nat)(M:List Nat)(es0:List (Nat×Nat))(a b n:Nat)(ha:a+n≤M.length)(hb:b+n≤M.length)(hM:M.length≤1000)(hm:∀x∈M,x<bl.length)(he0:cP bl.length es0) :
 ∃es',cP bl.length es'∧aa T (k+1) (.fn 204) [.bp fb v 0 M.length,acH a,acH b,acH n,.fn 43 []] (pH bl fb v M es0)=some (.ba [],pH bl fb v (Q.vE M a b n) es'):=by
 suffices h:∃r,aa T (k+1) (.fn 204) [.bp fb v 0 M.length,acH a,acH b,acH n,.fn 43 []] (pH bl fb v M es0)=some r∧∃es',cP bl.length es'∧r=(.ba [],pH bl fb v (Q.vE M a b n) es') by
  obtain⟨r,h1,es',h2,rfl⟩:=h
  exact⟨es',h2,h1⟩
 refine dt SY (by rfl) ?_
 have hl:∀X,(bl.set fb X).length=bl.length:=fun X=>Zv
 have hg:∀X,(bl.set fb X)[fb]?=some X:=fun X=>Zz hfb
 have hs:∀X Y,(bl.set fb X).set fb Y=bl.set fb Y:=fun X Y=>abM ..
 have ht:∀X,(bl.set fb X).take bl.length=bl.set fb X:=fun X=>by rw[←hl X,aaj]
 simp only[J2,go_sem,simprocAttr,hl]
 refine cr (fun i s=>∃es',cP bl.length es'∧s=([(0,.bp fb v 0 M.length),(1,acH a),(2,acH b),(3,acH n),(10,acH i)],pH bl fb v (Q.vE M a b i) es')) n ?_ ?_
 ·exact bC rfl rfl (by simp only[go_sem,simprocAttr]<;>rfl) (by simp[SV.refs,SV.refs.au];omega) (hl _) (aV _) (aV _)
 ·rintro i s hi ⟨es,he,rfl⟩
  rcases Zl i n with hlt|hge
  ·have hsu:=bR hlt (ZN (show n≤1000 by omega) mx)
   have a1:bb ((a:Int)+(i:Nat))=((a+i:Nat):Int):=by rw[ao (by omega) (by omega)];omega
   have a2:bb ((b:Int)+(i:Nat))=((b+i:Nat):Int):=by rw[ao (by omega) (by omega)];omega
   have hln:=Q.xI M a b i
   obtain⟨x,hx⟩:=bV (show a+i<(Q.vE M a b i).length by omega)
   obtain⟨y,hy⟩:=bV (show b+i<(Q.vE M a b i).length by omega)
   have l1:a+i<M.length:=by omega
   have l2:b+i<M.length:=by omega
   have hsw:Q.vE M a b (i+1)=((Q.vE M a b i).set (a+i) y).set (b+i) x:=Q.qU hx hy
   have hg2:((Q.vE M a b i).set (a+i) y)[b+i]?=some y:=by
    by_cases e:a+i=b+i
    ·rw[e,Zz (by omega)]
    ·rw[Zg e,hy]
   have hxb:=hm x (Q.pY (Zj hx))
   have hyb:=hm y (Q.pY (Zj hy))
   simp only[go_sem,simprocAttr,hlt,a1,a2,l1,l2,hln,hl,hg,hs,hx,hy,hsu,hfb,af,sJ,Zv,hg2,←hsw]
   exact⟨trivial,bC rfl rfl (by simp only[go_sem,simprocAttr]<;>rfl) (by simp[SV.refs,SV.refs.au];omega) (hl _) (fM (fM he (by omega)) (by omega)) (aV _)⟩
  ·obtain rfl:i=n:=by omega
   have hd:decide (i<i)=false:=Zf (by omega)
   simp only[go_sem,simprocAttr,hd,hl,ht,af,cK he]
   exact⟨_,cd he0 (ca _ he),rfl⟩
theorem LH(bl:List aD)(fb v:Nat)(hfb:fb<bl.length)(k:Nat)(P A B S:List Nat)(es0:List (Nat×Nat))(n a m b:Nat)(hA:1≤A.length)(hB:1≤B.length)(hn:n=(P++(A++(B++S))).length)(ha:a=P.length)(hmm:m=a+A.length)(hb:b=m+B.length)
 (hM:n≤1000) (hm:∀x∈P++(A++(B++S)),x<bl.length) (he0:cP bl.length es0) :
 ∃es',cP bl.length es'∧aa T (k+2) (.fn 179) [.bp fb v 0 n,acH a,acH m,acH b,.fn 43 []] (pH bl fb v (P++(A++(B++S))) es0)=some (.ba [],pH bl fb v (P++(B++(A++S))) es'):=by
 suffices h:∃r,aa T (k+2) (.fn 179) [.bp fb v 0 n,acH a,acH m,acH b,.fn 43 []] (pH bl fb v (P++(A++(B++S))) es0)=some r∧∃es',cP bl.length es'∧r=(.ba [],pH bl fb v (P++(B++(A++S))) es') by
  obtain⟨r,h1,es',h2,rfl⟩:=h
  exact⟨es',h2,h1⟩
 have hn':n=P.length+(A.length+(B.length+S.length)):=by rw[hn];simp
 obtain⟨G,hG⟩:∃G,P++(B++(A++S))=G:=⟨_,rfl⟩
 obtain⟨M,hMd⟩:∃M,P++(A++(B++S))=M:=⟨_,rfl⟩
 rw[hG]
 rw[hMd]at hm hn⊢
 refine dt UL (by rfl) ?_
 have hl:∀X,(bl.set fb X).length=bl.length:=fun X=>Zv
 have ht:∀X,(bl.set fb X).take bl.length=bl.set fb X:=fun X=>by rw[←hl X,aaj]
 have a0:bb ((m:Int)-a)=(A.length:Int):=by rw[ao (by omega) (by omega)];omega
 have a1:bb ((b:Int)-m)=(B.length:Int):=by rw[ao (by omega) (by omega)];omega
 simp only[Nk,go_sem,simprocAttr,hl,a0,a1]
 refine cr (fun q s=>∃es',cP bl.length es'∧∃pre A' B' post,s=([(0,.bp fb v 0 n),(2,acH m),(4,.fn 43 []),(10,acH A'.length),(11,acH B'.length)],pH bl fb v (pre++(A'++(B'++post))) es')∧
  pre.length+A'.length=m∧1≤A'.length∧1≤B'.length∧A'.length+B'.length+q≤A.length+B.length∧pre++(B'++(A'++post))=G∧(pre++(A'++(B'++post))).length=n∧∀x∈pre++(A'++(B'++post)),x<bl.length) (A.length+B.length) ?_ ?_
 ·refine aX (bC rfl rfl (by simp only[go_sem,simprocAttr]<;>rfl) (by simp[SV.refs,SV.refs.au];omega) (hl _) (aV _) (aV _)) ?_
  rintro s ⟨es',h,rfl⟩
  exact⟨es',h,P,A,B,S,by rw[hMd],by omega,hA,hB,by omega,hG,by rw[hMd,hn],by rw[hMd];exact hm⟩
 ·rintro q s hq ⟨es,he,pre,A',B',post',rfl,g1,g2,g3,g4,g5,g6,g7⟩
  have g6':pre.length+(A'.length+(B'.length+post'.length))=n:=by rw[←g6];simp
  have b1:bb ((m:Int)-A'.length)=(pre.length:Int):=by rw[ao (by omega) (by omega)];omega
  cases hij:decide (A'.length=B'.length)with
  |true=>
   simp only[Ze]at hij
   have hsw:=Q.tD pre A' [] B' post' pre.length m A'.length rfl hij.symm rfl (by simp;omega)
   simp only[ZZ]at hsw
   obtain⟨es2,he2,h204⟩:=Ip bl fb v hfb k (pre++(A'++(B'++post'))) es pre.length m A'.length (by omega) (by omega) (by omega) g7 he
   rw[g6,hsw,g5]at h204
   have hd:decide ((A'.length:Int)=(B'.length:Int))=true:=Zc (by omega)
   simp only[go_sem,simprocAttr,hd,b1,h204,hl,ht,af,cK he2]
   exact⟨_,cd he0 (ca _ he2),rfl⟩
  |false=>
   have hne:A'.length≠B'.length:=by simpa using hij
   have hd:decide ((A'.length:Int)=(B'.length:Int))=false:=Zf (by omega)
   cases hgt:decide (B'.length<A'.length)with
   |true=>
    simp only[Ze]at hgt
    have hgt2:decide (B'.length<A'.length)=true:=Zc hgt
    obtain⟨A1,A2,rfl,hA1⟩:∃A1 A2,A'=A1++A2∧A1.length=B'.length:=⟨A'.take B'.length,A'.drop B'.length,(aaa _ _).symm,by rw[Z8];omega⟩
    have hA2:(A1++A2).length=B'.length+A2.length:=by rw[Y9,hA1]
    have b2:bb (((A1++A2).length:Int)-B'.length)=(A2.length:Int):=by rw[ao (by omega) (by omega)];omega
    have hsw:=Q.tD pre A1 A2 B' post' pre.length m B'.length hA1 rfl rfl (by omega)
    obtain⟨es2,he2,h204⟩:=Ip bl fb v hfb k (pre++(A1++A2++(B'++post'))) es pre.length m B'.length (by omega) (by omega) (by omega) g7 he
    rw[g6,Za,hsw]at h204
    simp only[Za]at g6 g7 g5
    rw[Za]
    simp only[go_sem,simprocAttr,hd,b1,hgt2,h204,b2]
    refine⟨by omega,aX (bC rfl rfl (by simp only[go_sem,simprocAttr]<;>rfl) (by simp[SV.refs,SV.refs.au];omega) (hl _) he2 (aV _)) ?_⟩
    rintro s ⟨es',h,rfl⟩
    refine⟨es',h,pre++B',A2,A1,post',by rw[hA1];simp only[Za],by rw[Y9];omega,by omega,by omega,by omega,?_,?_,?_⟩
    ·rw[←g5];simp
    ·rw[←g6'];simp;omega
    ·intro x hx;exact g7 x (by simp only[Z1]at hx ⊢;grind)
   |false=>
    have hlt:A'.length<B'.length:=by simp only[Zi]at hgt;omega
    obtain⟨B1,B2,rfl,hB2⟩:∃B1 B2,B'=B1++B2∧B2.length=A'.length:=⟨B'.take (B'.length-A'.length),B'.drop (B'.length-A'.length),(aaa _ _).symm,by rw[ab4];omega⟩
    have hB1:(B1++B2).length=B1.length+A'.length:=by rw[Y9,hB2]
    have b2:bb (((B1++B2).length:Int)-A'.length)=(B1.length:Int):=by rw[ao (by omega) (by omega)];omega
    have b3:bb ((m:Int)+(B1++B2).length)=((m+(B1++B2).length:Nat):Int):=by rw[ao (by omega) (by omega)];omega
    have b4:bb (((m+(B1++B2).length:Nat):Int)-A'.length)=((m+B1.length:Nat):Int):=by rw[ao (by omega) (by omega)];omega
    have hsw:=Q.tD pre A' B1 B2 post' pre.length (m+B1.length) A'.length rfl hB2 rfl (by omega)
    obtain⟨es2,he2,h204⟩:=Ip bl fb v hfb k (pre++(A'++(B1++B2++post'))) es pre.length (m+B1.length) A'.length (by omega) (by omega) (by omega) g7 he
    rw[g6,Za,hsw]at h204
    simp only[Za]at g6 g7 g5
    rw[Za]
    simp only[go_sem,simprocAttr,hd,b1,hgt,h204,b2,b3,b4]
    refine⟨by omega,aX (bC rfl rfl (by simp only[go_sem,simprocAttr]<;>rfl) (by simp[SV.refs,SV.refs.au];omega) (hl _) he2 (aV _)) ?_⟩
    rintro s ⟨es',h,rfl⟩
    refine⟨es',h,pre,B2,B1,A'++post',by rw[hB2],by omega,by omega,by omega,by omega,?_,?_,?_⟩
    ·rw[←g5]
    ·rw[←g6'];simp;omega
    ·intro x hx;exact g7 x (by simp only[Z1]at hx ⊢;grind)
theorem Q.qM{M:List Nat}{j x:Nat}:∀{q},x∈Q.sm M j q→x∈M
 |0,h=>h
 |q+1,h=>Q.qM (Q.vY h)
theorem Q.rp{key:Nat→Int}{a x:Nat}:∀{j M},x∈Q.kj key a j M→x∈M
 |0,M,h=>h
 |j+1,M,h=>by
  unfold Q.kj at h
  cases hc:decide (a<j+1)&&Q.l8 key M (j+1) j with
  |false=>rw[hc]at h;exact h
  |true=>rw[hc]at h;exact Q.vY (Q.rp h)
theorem Q.rK{key:Nat→Int}{M:List Nat}{a x:Nat}:∀{i},x∈Q.jO key M a i→x∈M
 |0,h=>h
 |i+1,h=>Q.rK (Q.rp h)
def fy(bl:List aD)(fb:Nat)(key:Nat→Int)(x:Nat):Prop:=x≠fb∧∃cs,bl[x]?=some (.box cs)∧cs[4]?=some (acH (key x))
theorem fy.lt{bl:List aD}{fb:Nat}{key:Nat→Int}{x:Nat}(h:fy bl fb key x):x<bl.length:=by
 obtain⟨_,cs,h,_⟩:=h
 exact(Y8.1 h).1
theorem BM{bl:List aD}{fb:Nat}{key:Nat→Int}{x y:Nat}(hx:fy bl fb key x)(hy:fy bl fb key y)(n v:Nat)(M:List Nat)(es:List (Nat×Nat))(ro:Nat) :
 aa T (n+3) (.fn 43) [.ptr x 0 0 0,.ptr y 0 0 0] ⟨bl.set fb (.arr v 1 (pS M) false),es,ro⟩=some (acH (G.oL (key x) (key y)),⟨bl.set fb (.arr v 1 (pS M) false),es,ro⟩):=by
 obtain⟨nx,cx,bx,gx⟩:=hx
 obtain⟨ny,cy,by',gy⟩:=hy
 refine W9 n x y _ cx cy _ _ ?_ ?_ gx gy
 ·show(bl.set fb _)[x]?=_
  rw[Zg (fun h=>nx h.symm),bx]
 ·show(bl.set fb _)[y]?=_
  rw[Zg (fun h=>ny h.symm),by']
theorem Kl(bl:List aD)(fb v:Nat)(hfb:fb<bl.length)(key:Nat→Int)(k:Nat)(M:List Nat)(es0:List (Nat×Nat))(a b:Nat)(hab:a≤b)(hb:b≤M.length)
 (hM:M.length≤1000) (hm:∀x∈M,fy bl fb key x) (he0:cP bl.length es0) :
 ∃es',cP bl.length es'∧aa T (k+4) (.fn 134) [.bp fb v 0 M.length,acH a,acH b,.fn 43 []] (pH bl fb v M es0)=some (.ba [],pH bl fb v (Q.jO key M a (b-(a+1))) es'):=by
 suffices h:∃r,aa T (k+4) (.fn 134) [.bp fb v 0 M.length,acH a,acH b,.fn 43 []] (pH bl fb v M es0)=some r∧∃es',cP bl.length es'∧r=(.ba [],pH bl fb v (Q.jO key M a (b-(a+1))) es') by
  obtain⟨r,h1,es',h2,rfl⟩:=h
  exact⟨es',h2,h1⟩
 refine dt Rh (by rfl) ?_
 have hl:∀X,(bl.set fb X).length=bl.length:=fun X=>Zv
 have hg:∀X,(bl.set fb X)[fb]?=some X:=fun X=>Zz hfb
 have hs:∀X Y,(bl.set fb X).set fb Y=bl.set fb Y:=fun X Y=>abM ..
 have ht:∀X,(bl.set fb X).take bl.length=bl.set fb X:=fun X=>by rw[←hl X,aaj]
 have a0:bb ((a:Int)+1)=((a+1+0:Nat):Int):=by rw[ao (by omega) (by omega)];omega
 simp only[KN,go_sem,simprocAttr,hl,a0]
 refine cr (fun i s=>∃es',cP bl.length es'∧s=([(0,.bp fb v 0 M.length),(1,acH a),(2,acH b),(3,.fn 43 []),(8,acH (a+1+i:Nat))],pH bl fb v (Q.jO key M a i) es')) (b-(a+1)) ?_ ?_
 ·exact bC rfl rfl (by simp only[go_sem,simprocAttr]<;>rfl) (by simp[SV.refs,SV.refs.au];omega) (hl _) (aV _) (aV _)
 ·rintro i s hi ⟨es,he,rfl⟩
  rcases Zl i (b-(a+1))with hlt|hge
  ·have hlen:=Q.tI key M a i
   have hj:a+1+i<b:=by omega
   have w1:bb (((a+1+i:Nat):Int)+1)=((a+1+(i+1):Nat):Int):=by rw[ao (by omega) (by omega)];omega
   have hmR:∀x∈Q.jO key M a i,fy bl fb key x:=fun x hx=>hm x (Q.rK hx)
   simp only[go_sem,simprocAttr,hj,hl]
   have hSi:Q.jO key M a (i+1)=Q.kj key a (a+1+i) (Q.jO key M a i):=rfl
   generalize hR:Q.jO key M a i=R at *
   generalize hJ:a+1+i=J at *
   refine cr (fun q s=>(∃es',cP bl.length es'∧s=([(0,.bp fb v 0 M.length),(1,acH a),(2,acH b),(3,.fn 43 []),(8,acH J),(9,acH ((J-q:Nat):Int))],pH bl fb v (Q.sm R J q) es'))∧Q.kj key a (J-q) (Q.sm R J q)=Q.kj key a J R) J ?_ ?_
   ·refine aX (bC rfl rfl (by simp only[go_sem,simprocAttr]<;>rfl) (by simp[SV.refs,SV.refs.au];omega) (hl _) (aV _) (aV _)) ?_
    rintro s ⟨es',h,rfl⟩
    exact⟨⟨es',h,rfl⟩,rfl⟩
   ·rintro q s hq ⟨⟨es2,he2,rfl⟩,hP⟩
    have hXl:=(Q.tV R J q).trans hlen
    have hmX:∀x∈Q.sm R J q,fy bl fb key x:=fun x hx=>hmR x (Q.qM hx)
    have hQs:Q.sm R J (q+1)=Q.sw (Q.sm R J q) (J-q) (J-q-1):=rfl
    generalize hX:Q.sm R J q=X at *
    generalize hj':J-q=j at *
    have exit1:(bif decide (a<j)&&Q.l8 key X j (j-1)then true else false)=false→Q.jO key M a (i+1)=X:=by
     intro h
     rw[hSi,←hP]
     cases j with
     |zero=>rfl
     |succ j=>
      unfold Q.kj
      simp only[abO]at h
      cases hc:(decide (a<j+1)&&Q.l8 key X (j+1) j)with
      |false=>rfl
      |true=>rw[hc]at h;cases h
    cases h1:decide (a<j)with
    |false=>
     have hf:=exit1 (by rw[h1];rfl)
     simp only[go_sem,simprocAttr,hX,hj',h1,w1]
     exact⟨hlt,by rw[hf];exact bC rfl rfl (by simp only[go_sem,simprocAttr]<;>rfl) (by simp[SV.refs,SV.refs.au];omega) (hl _) (cd he he2) (aV _)⟩
    |true=>
     simp only[Ze]at h1
     obtain⟨j',rfl⟩:∃j',j=j'+1:=⟨j-1,by omega⟩
     have hw:bb (((j'+1:Nat):Int)-1)=(j':Nat):=by rw[ao (by omega) (by omega)];omega
     have l1:j'+1<M.length:=by omega
     have l2:j'<M.length:=by omega
     obtain⟨x,hx⟩:=bV (show j'+1<X.length by omega)
     obtain⟨y,hy⟩:=bV (show j'<X.length by omega)
     have hd1:decide (a<j'+1)=true:=Zc h1
     have kx:=hmX x (Zj hx)
     have ky:=hmX y (Zj hy)
     have h43:=fun n es ro=>BM kx ky n v X es ro
     cases h2:decide (key x<key y)with
     |false=>
      have hf:=exit1 (by rw[abO,Q.nI hx hy,h2,hd1];rfl)
      simp only[go_sem,simprocAttr,hX,hj',hd1,hw,l1,l2,hXl,hl,hg,hx,hy,h43,nU,h2,w1]
      exact⟨hlt,by rw[hf];exact bC rfl rfl (by simp only[go_sem,simprocAttr]<;>rfl) (by simp[SV.refs,SV.refs.au];omega) (hl _) (cd he he2) (aV _)⟩
     |true=>
      have hsw:Q.sw X (j'+1) j'=(X.set (j'+1) y).set j' x:=Q.qU hx hy
      have hg2:(X.set (j'+1) y)[j']?=some y:=by rw[Zg (by omega),hy]
      have e1:J-(q+1)=j':=by omega
      have e3:Q.kj key a j' (Q.sw X (j'+1) j')=Q.kj key a J R:=by
       rw[←hP]
       conv=>rhs;unfold Q.kj
       rw[Q.nI hx hy,h2,hd1]
       rfl
      rw[abO]at hQs
      have lx:=kx.lt
      have ly:=ky.lt
      simp only[go_sem,simprocAttr,hX,hj',hd1,hw,l1,l2,hXl,hl,hg,hs,hx,hy,h43,nU,h2,hfb,af,sJ,Zv,hg2,←hsw,e1]
      refine⟨by omega,aX (bC rfl rfl (by simp only[go_sem,simprocAttr]<;>rfl) (by simp[SV.refs,SV.refs.au];omega) (hl _) (fM (fM he2 (by omega)) (by omega)) (aV _)) ?_⟩
      rintro s ⟨es',h,rfl⟩
      rw[hQs]
      exact⟨⟨es',h,rfl⟩,e3⟩
  ·obtain rfl:i=b-(a+1):=by omega
   have hd:decide (a+1+(b-(a+1))<b)=false:=Zf (by omega)
   simp only[go_sem,simprocAttr,hd,hl,ht,af,cK he]
   exact⟨_,cd he0 (ca _ he),rfl⟩
namespace Q
theorem ed{key:Nat→Int}:∀{X:List Nat},pI key X→∀{i j x y:Nat},X[i]?=some x→X[j]?=some y→i≤j→key x≤key y
 |[],_,i,j,x,y,hx,_,_=>by simp at hx
 |z::X,h,0,0,x,y,hx,hy,_=>by simp at hx hy;subst hx hy;exact abk _
 |z::X,h,0,j+1,x,y,hx,hy,_=>by
  simp at hx hy
  subst hx
  exact(aag.1 h).1 y (Zj hy)
 |z::X,h,i+1,0,x,y,hx,hy,hij=>by omega
 |z::X,h,i+1,j+1,x,y,hx,hy,hij=>ed (aag.1 h).2 (by simpa using hx) (by simpa using hy) (by omega)
theorem nj{X:List Nat}{n x:Nat}(h:x∈X.take n):∃i,i<n∧X[i]?=some x:=by
 obtain⟨i,hi⟩:=ZH h
 rw[ZC]at hi
 split at hi
 ·exact⟨i,by assumption,hi⟩
 ·cases hi
theorem mw{X:List Nat}{n x:Nat}(h:x∈X.drop n):∃i,n≤i∧X[i]?=some x:=by
 obtain⟨i,hi⟩:=ZH h
 rw[ZT]at hi
 exact⟨n+i,by omega,hi⟩
theorem vp{key:Nat→Int}{A B:List Nat}(hA:pI key A)(hB:pI key B){i d:Nat}
 (h1:i=0∨B.length≤d∨∃x y,A[i-1]?=some x∧B[d]?=some y∧¬key y<key x) (h2:d=0∨A.length≤i∨∃x y,A[i]?=some x∧B[d-1]?=some y∧key y<key x) :
 cN key A B=cN key (A.take i) (B.take d)++cN key (A.drop i) (B.drop d):=by
 have:=fK key (A.take i) (B.take d) (A.drop i) (B.drop d) ?_ ?_
 ·rw[aaa,aaa]at this;exact this
 ·intro x hx y hy
  obtain⟨g,hg,gx⟩:=nj hx
  obtain⟨q,hq,gy⟩:=mw hy
  rcases h1 with h|h|⟨x',y',hx',hy',h⟩
  ·omega
  ·have:=(Y8.1 gy).1;omega
  ·have e1:=ed hA gx hx' (by omega)
   have e2:=ed hB hy' gy (by omega)
   omega
 ·intro y hy x hx
  obtain⟨g,hg,gx⟩:=mw hx
  obtain⟨q,hq,gy⟩:=nj hy
  rcases h2 with h|h|⟨x',y',hx',hy',h⟩
  ·omega
  ·have:=(Y8.1 gx).1;omega
  ·have e1:=ed hA hx' gx (by omega)
   have e2:=ed hB gy hy' (by omega)
   omega
theorem get_at(P A R:List Nat)(i:Nat){x:Nat}(h:A[i]?=some x):(P++(A++R))[P.length+i]?=some x:=by
 rw[ZR (by omega),abP,Zm (Y8.1 h).1,h]
end Q
theorem nP{x:Nat}(h:x≤4000):bb ((IntKind.wrap .u64 (x:Int)).fdiv (2 ^ (min 1 64)))=((x/2:Nat):Int):=by
 have h1:IntKind.wrap .u64 (x:Int)=x:=by
  show((x:Int)%18446744073709551616)=x
  omega
 have h2:(min 1 64)=1:=rfl
 have h3:(2:Int) ^ 1=2:=by decide
 rw[h1,h2,h3,abd _ (by omega),ao (by omega) (by omega)]
 omega
theorem Kn(bl:List aD)(fb v:Nat)(hfb:fb<bl.length)(key:Nat→Int)(k:Nat)(P B S:List Nat)(x:Nat)(es0:List (Nat×Nat))(n a b:Nat)(hB:1≤B.length)(hsB:Q.pI key B)(hn:n=(P++(x::(B++S))).length)(ha:a=P.length)(hb:b=a+1+B.length)
 (hM:n≤1000) (hm:∀z∈P++(x::(B++S)),fy bl fb key z) (he0:cP bl.length es0) :
 ∃es',cP bl.length es'∧aa T (k+4) (.fn 135) [.bp fb v 0 n,acH a,acH (a+1:Nat),acH b,.fn 43 []] (pH bl fb v (P++(x::(B++S))) es0)=some (.ba [],pH bl fb v (P++(Q.cN key [x] B++S)) es'):=by
 suffices h:∃r,aa T (k+4) (.fn 135) [.bp fb v 0 n,acH a,acH (a+1:Nat),acH b,.fn 43 []] (pH bl fb v (P++(x::(B++S))) es0)=some r∧∃es',cP bl.length es'∧r=(.ba [],pH bl fb v (P++(Q.cN key [x] B++S)) es') by
  obtain⟨r,h1,es',h2,rfl⟩:=h
  exact⟨es',h2,h1⟩
 have hn':n=P.length+(B.length+S.length+1):=by rw[hn];simp
 refine dt Dx (by rfl) ?_
 have hl:∀X,(bl.set fb X).length=bl.length:=fun X=>Zv
 have hg:∀X,(bl.set fb X)[fb]?=some X:=fun X=>Zz hfb
 have hs:∀X Y,(bl.set fb X).set fb Y=bl.set fb Y:=fun X Y=>abM ..
 have ht:∀X,(bl.set fb X).take bl.length=bl.set fb X:=fun X=>by rw[←hl X,aaj]
 have a0:bb (((a+1:Nat):Int)-a)=1:=by rw[ao (by omega) (by omega)];omega
 have hax:(P++(x::(B++S)))[a]?=some x:=by rw[ha];exact Q.eM _ _ _
 have kx:=hm x (Zj hax)
 have la:a<n:=by omega
 simp only[Ag,go_sem,simprocAttr,hl,a0]
 refine cr (fun q s=>∃es',cP bl.length es'∧∃i j:Nat,s=([(0,.bp fb v 0 n),(1,acH a),(4,.fn 43 []),(10,acH (a+1+i:Nat)),(11,acH (a+1+j:Nat))],pH bl fb v (P++(x::(B++S))) es')∧
  i≤j∧j≤B.length∧j-i+q≤B.length∧(∀h z,h<i→B[h]?=some z→key z<key x)∧∀h z,j≤h→B[h]?=some z→¬key z<key x) B.length ?_ ?_
 ·refine aX (bC rfl rfl (by simp only[go_sem,simprocAttr]<;>rfl) (by simp[SV.refs,SV.refs.au];omega) (hl _) (aV _) (aV _)) ?_
  rintro s ⟨es',h,rfl⟩
  exact⟨es',h,0,B.length,by rw[hb],by omega,by omega,by omega,fun h z hh=>by omega,fun h z hh hz=>by have:=(Y8.1 hz).1;omega⟩
 ·rintro q s hq ⟨es,he,i,j,rfl,p1,p2,p3,p4,p5⟩
  cases hij:decide (a+1+i<a+1+j)with
  |true=>
   simp only[Ze]at hij
   have hh:bb (((a+1+i:Nat):Int)+((a+1+j:Nat):Int))=(((a+1+i)+(a+1+j):Nat):Int):=by rw[ao (by omega) (by omega)];omega
   have hw:=nP (show(a+1+i)+(a+1+j)≤4000 by omega)
   rw[show((a+1+i)+(a+1+j))/2=a+1+(i+j)/2 by omega]at hw
   obtain⟨z,hz⟩:=bV (show(i+j)/2<B.length by omega)
   have hzM:(P++(x::(B++S)))[a+1+(i+j)/2]?=some z:=by
    have:=Q.get_at (P++[x]) B S ((i+j)/2) hz
    rw[show(P++[x]).length=a+1 by simp;omega]at this
    simpa using this
   have kz:=hm z (Zj hzM)
   have h43:=fun n es ro=>BM kz kx n v (P++(x::(B++S))) es ro
   have l1:a+1+(i+j)/2<n:=by omega
   have w1:bb (((a+1+(i+j)/2:Nat):Int)+1)=((a+1+((i+j)/2+1):Nat):Int):=by rw[ao (by omega) (by omega)];omega
   generalize hMd:P++(x::(B++S))=M at *
   simp only[go_sem,simprocAttr,hij,hh,hw,l1,la,hl,hg,←hn,hzM,hax,h43,nU]
   cases hc:decide (key z<key x)with
   |true=>
    have hc':=ZE hc
    simp only[go_sem,simprocAttr,w1]
    refine⟨by omega,aX (bC rfl rfl (by simp only[go_sem,simprocAttr]<;>rfl) (by simp[SV.refs,SV.refs.au];omega) (hl _) he (aV _)) ?_⟩
    rintro s ⟨es',h,rfl⟩
    exact⟨es',h,(i+j)/2+1,j,rfl,by omega,p2,by omega,fun h y hh hy=>by have:=Q.ed hsB hy hz (by omega);omega,p5⟩
   |false=>
    have hc':=aak hc
    simp only[go_sem,simprocAttr]
    refine⟨by omega,aX (bC rfl rfl (by simp only[go_sem,simprocAttr]<;>rfl) (by simp[SV.refs,SV.refs.au];omega) (hl _) he (aV _)) ?_⟩
    rintro s ⟨es',h,rfl⟩
    exact⟨es',h,i,(i+j)/2,rfl,by omega,by omega,by omega,p4,fun h y hh hy=>by have:=Q.ed hsB hz hy (by omega);omega⟩
  |false=>
   simp only[Zi]at hij
   obtain rfl:j=i:=by omega
   have hd:decide (a+1+j<a+1+j)=false:=Zf (by omega)
   have w1:bb (((a+1+j:Nat):Int)-1)=((a+j:Nat):Int):=by rw[ao (by omega) (by omega)];omega
   have hfin:P++(Q.cN key [x] B++S)=P++(B.take j++(x::(B.drop j++S))):=by
    have:=Q.ET key (B.take j) (B.drop j) x (fun z hz=>by obtain⟨h,h1,h2⟩:=Q.nj hz;exact p4 h z h1 h2) (fun z hz=>by obtain⟨h,h1,h2⟩:=Q.mw hz;exact p5 h z h1 h2)
    rw[aaa]at this
    rw[this]
    simp
   rw[hfin]
   simp only[go_sem,simprocAttr,hd,hl]
   refine cr (fun q s=>∃es',cP bl.length es'∧s=([(0,.bp fb v 0 n),(10,acH (a+1+j:Nat)),(13,acH (a+q:Nat))],pH bl fb v (P++(B.take q++(x::(B.drop q++S)))) es')) j ?_ ?_
   ·refine aX (bC rfl rfl (by simp only[go_sem,simprocAttr]<;>rfl) (by simp[SV.refs,SV.refs.au];omega) (hl _) (aV _) (aV _)) ?_
    rintro s ⟨es',h,rfl⟩
    exact⟨es',h,by simp⟩
   ·rintro q s hq ⟨es2,he2,rfl⟩
    rcases Zl q j with hlt|hge
    ·have hc:decide (((a+q:Nat):Int)<((a+j:Nat):Int))=true:=Zc (by omega)
     have w2:bb (((a+q:Nat):Int)+1)=((a+q+1:Nat):Int):=by rw[ao (by omega) (by omega)];omega
     obtain⟨y,hy⟩:=bV (show q<B.length by omega)
     obtain⟨hy1,hy2⟩:=Y8.1 hy
     have dB:B.drop q=y::B.drop (q+1):=by rw[aaK hy1,hy2]
     have tB:B.take (q+1)=B.take q++[y]:=by rw[aaE,hy];rfl
     have hsw:=Q.Cl (P++B.take q) [] (B.drop (q+1)++S) x y (a+q) (a+q+1) (by simp;omega) (by simp;omega)
     have e0:(P++B.take q)++x::([]++y::(B.drop (q+1)++S))=P++(B.take q++(x::(B.drop q++S))):=by rw[dB];simp
     have e1:(P++B.take q)++y::([]++x::(B.drop (q+1)++S))=P++(B.take (q+1)++(x::(B.drop (q+1)++S))):=by rw[tB];simp
     rw[e0,e1]at hsw
     have hX:(P++(B.take q++(x::(B.drop q++S)))).length=n:=by rw[hn'];simp;omega
     have hx1:(P++(B.take q++(x::(B.drop q++S))))[a+q]?=some x:=by
      have:=Q.eM (P++B.take q) (B.drop q++S) x
      rw[show(P++B.take q).length=a+q by simp;omega]at this
      simpa using this
     have hy3:(P++(B.take q++(x::(B.drop q++S))))[a+q+1]?=some y:=by
      rw[dB]
      have:=Q.eM (P++B.take q++[x]) (B.drop (q+1)++S) y
      rw[show(P++B.take q++[x]).length=a+q+1 by simp;omega]at this
      simpa using this
     have hyM:y∈P++(x::(B++S)):=by simp[Zj hy]
     have ky:=(hm y hyM).lt
     have lx:=kx.lt
     generalize hXd:P++(B.take q++(x::(B.drop q++S)))=X at *
     have hsw2:Q.sw X (a+q) (a+q+1)=(X.set (a+q) y).set (a+q+1) x:=Q.qU hx1 hy3
     rw[hsw]at hsw2
     have hg2:(X.set (a+q) y)[a+q+1]?=some y:=by rw[Zg (by omega),hy3]
     have l1:a+q<n:=by omega
     have l2:a+q+1<n:=by omega
     simp only[go_sem,simprocAttr,w1,hc,w2,l1,l2,hX,hl,hg,hs,hx1,hy3,hfb,af,sJ,Zv,hg2,←hsw2]
     exact⟨hlt,bC rfl rfl (by simp only[go_sem,simprocAttr]<;>rfl) (by simp[SV.refs,SV.refs.au];omega) (hl _) (fM (fM he2 (by omega)) (by omega)) (aV _)⟩
    ·obtain rfl:q=j:=by omega
     have hc:decide (((a+q:Nat):Int)<((a+q:Nat):Int))=false:=Zf (by omega)
     simp only[go_sem,simprocAttr,w1,hc,hl,ht,af,cK (cd he he2)]
     exact⟨_,cd he0 (ca _ (cd he he2)),rfl⟩
theorem JF(bl:List aD)(fb v:Nat)(hfb:fb<bl.length)(key:Nat→Int)(k:Nat)(P A S:List Nat)(y:Nat)(es0:List (Nat×Nat))(n a m:Nat)(hA:2≤A.length)(hsA:Q.pI key A)(hn:n=(P++(A++(y::S))).length)(ha:a=P.length)(hmm:m=a+A.length)
 (hM:n≤1000) (hm:∀z∈P++(A++(y::S)),fy bl fb key z) (he0:cP bl.length es0) :
 ∃es',cP bl.length es'∧aa T (k+4) (.fn 135) [.bp fb v 0 n,acH a,acH m,acH (m+1:Nat),.fn 43 []] (pH bl fb v (P++(A++(y::S))) es0)=some (.ba [],pH bl fb v (P++(Q.cN key A [y]++S)) es'):=by
 suffices h:∃r,aa T (k+4) (.fn 135) [.bp fb v 0 n,acH a,acH m,acH (m+1:Nat),.fn 43 []] (pH bl fb v (P++(A++(y::S))) es0)=some r∧∃es',cP bl.length es'∧r=(.ba [],pH bl fb v (P++(Q.cN key A [y]++S)) es') by
  obtain⟨r,h1,es',h2,rfl⟩:=h
  exact⟨es',h2,h1⟩
 have hn':n=P.length+(A.length+(S.length+1)):=by rw[hn];simp
 refine dt Dx (by rfl) ?_
 have hl:∀X,(bl.set fb X).length=bl.length:=fun X=>Zv
 have hg:∀X,(bl.set fb X)[fb]?=some X:=fun X=>Zz hfb
 have hs:∀X Y,(bl.set fb X).set fb Y=bl.set fb Y:=fun X Y=>abM ..
 have ht:∀X,(bl.set fb X).take bl.length=bl.set fb X:=fun X=>by rw[←hl X,aaj]
 have a0:bb ((m:Int)-a)=((m-a:Nat):Int):=by rw[ao (by omega) (by omega)];omega
 have a1:bb (((m+1:Nat):Int)-m)=1:=by rw[ao (by omega) (by omega)];omega
 have a2:decide (((m-a:Nat):Int)=1)=false:=Zf (by omega)
 have hmy:(P++(A++(y::S)))[m]?=some y:=by
  have:=Q.eM (P++A) S y
  rw[show(P++A).length=m by simp;omega]at this
  simpa using this
 have ky:=hm y (Zj hmy)
 have lm:m<n:=by omega
 simp only[Ag,go_sem,simprocAttr,hl,a0,a1,a2]
 refine cr (fun q s=>∃es',cP bl.length es'∧∃i j:Nat,s=([(0,.bp fb v 0 n),(2,acH m),(4,.fn 43 []),(14,acH (a+i:Nat)),(15,acH (a+j:Nat))],pH bl fb v (P++(A++(y::S))) es')∧
  i≤j∧j≤A.length∧j-i+q≤A.length∧(∀h z,h<i→A[h]?=some z→¬key y<key z)∧∀h z,j≤h→A[h]?=some z→key y<key z) A.length ?_ ?_
 ·refine aX (bC rfl rfl (by simp only[go_sem,simprocAttr]<;>rfl) (by simp[SV.refs,SV.refs.au];omega) (hl _) (aV _) (aV _)) ?_
  rintro s ⟨es',h,rfl⟩
  exact⟨es',h,0,A.length,by rw[hmm];rfl,by omega,by omega,by omega,fun h z hh=>by omega,fun h z hh hz=>by have:=(Y8.1 hz).1;omega⟩
 ·rintro q s hq ⟨es,he,i,j,rfl,p1,p2,p3,p4,p5⟩
  cases hij:decide (a+i<a+j)with
  |true=>
   simp only[Ze]at hij
   have hh:bb (((a+i:Nat):Int)+((a+j:Nat):Int))=(((a+i)+(a+j):Nat):Int):=by rw[ao (by omega) (by omega)];omega
   have hw:=nP (show(a+i)+(a+j)≤4000 by omega)
   rw[show((a+i)+(a+j))/2=a+(i+j)/2 by omega]at hw
   obtain⟨z,hz⟩:=bV (show(i+j)/2<A.length by omega)
   have hzM:(P++(A++(y::S)))[a+(i+j)/2]?=some z:=by
    rw[ha];exact Q.get_at P A (y::S) ((i+j)/2) hz
   have kz:=hm z (Zj hzM)
   have h43:=fun n es ro=>BM ky kz n v (P++(A++(y::S))) es ro
   have l1:a+(i+j)/2<n:=by omega
   have w1:bb (((a+(i+j)/2:Nat):Int)+1)=((a+((i+j)/2+1):Nat):Int):=by rw[ao (by omega) (by omega)];omega
   generalize hMd:P++(A++(y::S))=M at *
   simp only[go_sem,simprocAttr,hij,hh,hw,l1,lm,hl,hg,←hn,hzM,hmy,h43,nU]
   cases hc:decide (key y<key z)with
   |false=>
    have hc':=aak hc
    simp only[go_sem,simprocAttr,w1]
    refine⟨by omega,aX (bC rfl rfl (by simp only[go_sem,simprocAttr]<;>rfl) (by simp[SV.refs,SV.refs.au];omega) (hl _) he (aV _)) ?_⟩
    rintro s ⟨es',h,rfl⟩
    exact⟨es',h,(i+j)/2+1,j,rfl,by omega,p2,by omega,fun h x hh hx=>by have:=Q.ed hsA hx hz (by omega);omega,p5⟩
   |true=>
    have hc':=ZE hc
    simp only[go_sem,simprocAttr]
    refine⟨by omega,aX (bC rfl rfl (by simp only[go_sem,simprocAttr]<;>rfl) (by simp[SV.refs,SV.refs.au];omega) (hl _) he (aV _)) ?_⟩
    rintro s ⟨es',h,rfl⟩
    exact⟨es',h,i,(i+j)/2,rfl,by omega,by omega,by omega,p4,fun h x hh hx=>by have:=Q.ed hsA hz hx (by omega);omega⟩
  |false=>
   simp only[Zi]at hij
   obtain rfl:j=i:=by omega
   have hd:decide (a+j<a+j)=false:=Zf (by omega)
   have hfin:P++(Q.cN key A [y]++S)=P++(A.take j++(y::(A.drop j++S))):=by
    have:=Q.tc key (A.take j) (A.drop j) y (fun z hz=>by obtain⟨h,h1,h2⟩:=Q.nj hz;exact p4 h z h1 h2) (fun z hz=>by obtain⟨h,h1,h2⟩:=Q.mw hz;exact p5 h z h1 h2)
    rw[aaa]at this
    rw[this]
    simp
   rw[hfin]
   simp only[go_sem,simprocAttr,hd,hl]
   refine cr (fun q s=>∃es',cP bl.length es'∧s=([(0,.bp fb v 0 n),(14,acH (a+j:Nat)),(17,acH (m-q:Nat))],pH bl fb v (P++(A.take (A.length-q)++(y::(A.drop (A.length-q)++S)))) es')) (A.length-j) ?_ ?_
   ·refine aX (bC rfl rfl (by simp only[go_sem,simprocAttr]<;>rfl) (by simp[SV.refs,SV.refs.au];omega) (hl _) (aV _) (aV _)) ?_
    rintro s ⟨es',h,rfl⟩
    exact⟨es',h,by simp⟩
   ·rintro q s hq ⟨es2,he2,rfl⟩
    rcases Zl q (A.length-j)with hlt|hge
    ·obtain⟨t,htt⟩:∃t,A.length-q=t+1:=⟨A.length-q-1,by omega⟩
     have hmq:m-q=a+t+1:=by omega
     have hmq2:m-(q+1)=a+t:=by omega
     have htq:A.length-(q+1)=t:=by omega
     rw[htt,hmq]
     have hc:decide (a+j<a+t+1)=true:=Zc (by omega)
     have w2:bb (((a+t+1:Nat):Int)-1)=((a+t:Nat):Int):=by rw[ao (by omega) (by omega)];omega
     obtain⟨z,hz⟩:=bV (show t<A.length by omega)
     obtain⟨hz1,hz2⟩:=Y8.1 hz
     have dA:A.drop t=z::A.drop (t+1):=by rw[aaK hz1,hz2]
     have tA:A.take (t+1)=A.take t++[z]:=by rw[aaE,hz];rfl
     have hsw:=Q.oa (P++A.take t) [] (A.drop (t+1)++S) z y (a+t) (a+t+1) (by simp;omega) (by simp;omega)
     have e0:(P++A.take t)++z::([]++y::(A.drop (t+1)++S))=P++(A.take (t+1)++(y::(A.drop (t+1)++S))):=by rw[tA];simp
     have e1:(P++A.take t)++y::([]++z::(A.drop (t+1)++S))=P++(A.take t++(y::(A.drop t++S))):=by rw[dA];simp
     rw[e0,e1]at hsw
     have hX:(P++(A.take (t+1)++(y::(A.drop (t+1)++S)))).length=n:=by rw[hn'];simp;omega
     have hx1:(P++(A.take (t+1)++(y::(A.drop (t+1)++S))))[a+t]?=some z:=by
      have:=Q.eM (P++A.take t) (y::(A.drop (t+1)++S)) z
      rw[show(P++A.take t).length=a+t by simp;omega]at this
      rw[tA]
      simpa using this
     have hy3:(P++(A.take (t+1)++(y::(A.drop (t+1)++S))))[a+t+1]?=some y:=by
      have:=Q.eM (P++A.take (t+1)) (A.drop (t+1)++S) y
      rw[show(P++A.take (t+1)).length=a+t+1 by simp;omega]at this
      simpa using this
     have hzM:z∈P++(A++(y::S)):=by simp[Zj hz]
     have lz:=(hm z hzM).lt
     have ly:=ky.lt
     generalize hXd:P++(A.take (t+1)++(y::(A.drop (t+1)++S)))=X at *
     have hsw2:Q.sw X (a+t+1) (a+t)=(X.set (a+t+1) z).set (a+t) y:=Q.qU hy3 hx1
     rw[hsw]at hsw2
     have hg2:(X.set (a+t+1) z)[a+t]?=some z:=by rw[Zg (by omega),hx1]
     have l1:a+t<n:=by omega
     have l2:a+t+1<n:=by omega
     simp only[go_sem,simprocAttr,hc,w2,l1,l2,hX,hl,hg,hs,hx1,hy3,hfb,af,sJ,Zv,hg2,←hsw2,hmq2,htq]
     exact⟨hlt,bC rfl rfl (by simp only[go_sem,simprocAttr]<;>rfl) (by simp[SV.refs,SV.refs.au];omega) (hl _) (fM (fM he2 (by omega)) (by omega)) (aV _)⟩
    ·obtain rfl:q=A.length-j:=by omega
     have hmq:m-(A.length-j)=a+j:=by omega
     have htq:A.length-(A.length-j)=j:=by omega
     rw[hmq,htq]
     simp only[go_sem,simprocAttr,hd,hl,ht,af,cK (cd he he2)]
     exact⟨_,cd he0 (ca _ (cd he he2)),rfl⟩
def td(bl:List aD)(fb v:Nat)(key:Nat→Int)(d k:Nat):Prop:=∀(P A B S:List Nat) (es0:List (Nat×Nat)) (n a m b:Nat),1≤A.length→1≤B.length→Q.pI key A→Q.pI key B→n=(P++(A++(B++S))).length→a=P.length→m=a+A.length→b=m+B.length→
    n≤1000→(∀z∈P++(A++(B++S)),fy bl fb key z)→cP bl.length es0→A.length+B.length≤d→
    ∃es',cP bl.length es'∧aa T (k+5+d) (.fn 135) [.bp fb v 0 n,acH a,acH m,acH b,.fn 43 []] (pH bl fb v (P++(A++(B++S))) es0)=some (.ba [],pH bl fb v (P++(Q.cN key A B++S)) es')
theorem gh{X:List Nat}(h:X.length=0):X=[]:=aan h
theorem J8(bl:List aD)(fb v:Nat)(hfb:fb<bl.length)(key:Nat→Int)(d k:Nat)(ih:td bl fb v key d k)(P A B S:List Nat)(es0:List (Nat×Nat))(n a m b c:Nat)(hA:2≤A.length)(hB:2≤B.length)(hsA:Q.pI key A)(hsB:Q.pI key B)(hn:n=(P++(A++(B++S))).length)(ha:a=P.length)(hmm:m=a+A.length)(hb:b=m+B.length)
 (hM:n≤1000) (hm:∀z∈P++(A++(B++S)),fy bl fb key z) (he0:cP bl.length es0) (hd:A.length+B.length≤d+1) (hc:(a+b)/2=c) (hcm:c<m) :
 ∃es',cP bl.length es'∧aa T (k+5+d+1) (.fn 135) [.bp fb v 0 n,acH a,acH m,acH b,.fn 43 []] (pH bl fb v (P++(A++(B++S))) es0)=some (.ba [],pH bl fb v (P++(Q.cN key A B++S)) es'):=by
 suffices h:∃r,aa T (k+5+d+1) (.fn 135) [.bp fb v 0 n,acH a,acH m,acH b,.fn 43 []] (pH bl fb v (P++(A++(B++S))) es0)=some r∧∃es',cP bl.length es'∧r=(.ba [],pH bl fb v (P++(Q.cN key A B++S)) es') by
  obtain⟨r,h1,es',h2,rfl⟩:=h
  exact⟨es',h2,h1⟩
 have hn':n=P.length+(A.length+(B.length+S.length)):=by rw[hn];simp
 refine dt Dx (by rfl) ?_
 have hl:∀X,(bl.set fb X).length=bl.length:=fun X=>Zv
 have hg:∀X,(bl.set fb X)[fb]?=some X:=fun X=>Zz hfb
 have ht:∀X,(bl.set fb X).take bl.length=bl.set fb X:=fun X=>by rw[←hl X,aaj]
 have a0:bb ((m:Int)-a)=((m-a:Nat):Int):=by rw[ao (by omega) (by omega)];omega
 have a1:bb ((b:Int)-m)=((b-m:Nat):Int):=by rw[ao (by omega) (by omega)];omega
 have a2:decide (((m-a:Nat):Int)=1)=false:=Zf (by omega)
 have a3:decide (((b-m:Nat):Int)=1)=false:=Zf (by omega)
 have hh:bb ((a:Int)+b)=((a+b:Nat):Int):=by rw[ao (by omega) (by omega)];omega
 have hw:=nP (show a+b≤4000 by omega)
 rw[hc]at hw
 have a4:bb ((c:Int)+m)=((c+m:Nat):Int):=by rw[ao (by omega) (by omega)];omega
 have a5:bb (((c+m:Nat):Int)-1)=((c+m-1:Nat):Int):=by rw[ao (by omega) (by omega)];omega
 have a6:bb (((c+m:Nat):Int)-b)=((c+m-b:Nat):Int):=by rw[ao (by omega) (by omega)];omega
 obtain⟨lo,hlo⟩:∃lo,lo=(c+m-b)-a:=⟨_,rfl⟩
 obtain⟨hi,hhi⟩:∃hi,hi=c-a:=⟨_,rfl⟩
 have e1:((c+m-b):Nat)=a+lo:=by omega
 have e2:(c:Nat)=a+hi:=by omega
 have f1:lo≤hi:=by omega
 have f2:hi≤A.length:=by omega
 have f3:a+hi≤c:=by omega
 have f4:c≤a+lo+B.length:=by omega
 simp only[Ag,go_sem,simprocAttr,hl,a0,a1,a2,a3,hh,hw,a4,a5,hcm,a6]
 refine cr (fun q s=>∃es',cP bl.length es'∧∃i j:Nat,s=([(0,.bp fb v 0 n),(1,acH a),(2,acH m),(3,acH b),(4,.fn 43 []),(18,acH c),(19,acH (c+m:Nat)),(20,acH (a+i:Nat)),(21,acH (a+j:Nat)),(22,acH (c+m-1:Nat))],pH bl fb v (P++(A++(B++S))) es')∧
  lo≤i∧i≤j∧j≤hi∧j-i+q≤hi-lo∧(∀h x y,lo≤h→h<i→A[h]?=some x→B[c-1-a-h]?=some y→¬key y<key x)∧∀h x y,j≤h→h<hi→A[h]?=some x→B[c-1-a-h]?=some y→key y<key x) (hi-lo) ?_ ?_
 ·refine aX (bC rfl rfl (by simp only[go_sem,simprocAttr]<;>rfl) (by simp[SV.refs,SV.refs.au];omega) (hl _) (aV _) (aV _)) ?_
  rintro s ⟨es',h,rfl⟩
  exact⟨es',h,lo,hi,by rw[←e1,←e2],by omega,by omega,by omega,by omega,fun h x y h1 h2=>by omega,fun h x y h1 h2=>by omega⟩
 ·rintro q s hq ⟨es,he,i,j,rfl,p0,p1,p2,p3,p4,p5⟩
  cases hij:decide (a+i<a+j)with
  |true=>
   simp only[Ze]at hij
   have hh2:bb (((a+i:Nat):Int)+((a+j:Nat):Int))=(((a+i)+(a+j):Nat):Int):=by rw[ao (by omega) (by omega)];omega
   have hw2:=nP (show(a+i)+(a+j)≤4000 by omega)
   rw[show((a+i)+(a+j))/2=a+(i+j)/2 by omega]at hw2
   obtain⟨g,hgd⟩:∃g,(i+j)/2=g:=⟨_,rfl⟩
   rw[hgd]at hw2
   have w2:bb (((c+m-1:Nat):Int)-(a+g:Nat))=((m+(c-1-a-g):Nat):Int):=by rw[ao (by omega) (by omega)];omega
   obtain⟨x,hx⟩:=bV (show g<A.length by omega)
   obtain⟨y,hy⟩:=bV (show c-1-a-g<B.length by omega)
   have hxM:(P++(A++(B++S)))[a+g]?=some x:=by
    rw[ha];exact Q.get_at P A (B++S) g hx
   have hyM:(P++(A++(B++S)))[m+(c-1-a-g)]?=some y:=by
    have:=Q.get_at (P++A) B S _ hy
    rw[show(P++A).length=m by simp;omega]at this
    simpa using this
   have kx:=hm x (Zj hxM)
   have ky:=hm y (Zj hyM)
   have h43:∀es ro,aa T (k+5+d) (.fn 43) [.ptr y 0 0 0,.ptr x 0 0 0] ⟨bl.set fb (.arr v 1 (pS (P++(A++(B++S)))) false),es,ro⟩=some (acH (G.oL (key y) (key x)),⟨bl.set fb (.arr v 1 (pS (P++(A++(B++S)))) false),es,ro⟩):=fun es ro=>by
    rw[show k+5+d=(k+2+d)+3 by omega];exact BM ky kx _ v _ es ro
   have l1:a+g<n:=by omega
   have l2:m+(c-1-a-g)<n:=by omega
   have w1:bb (((a+g:Nat):Int)+1)=((a+(g+1):Nat):Int):=by rw[ao (by omega) (by omega)];omega
   generalize hMd:P++(A++(B++S))=M at *
   simp only[go_sem,simprocAttr,hij,hh2,hw2,w2,l1,l2,hl,hg,←hn,hxM,hyM,h43,nU]
   cases hc2:decide (key y<key x)with
   |false=>
    have hc':=aak hc2
    simp only[go_sem,simprocAttr,w1]
    refine⟨by omega,aX (bC rfl rfl (by simp only[go_sem,simprocAttr]<;>rfl) (by simp[SV.refs,SV.refs.au];omega) (hl _) he (aV _)) ?_⟩
    rintro s ⟨es',h,rfl⟩
    refine⟨es',h,g+1,j,rfl,by omega,by omega,p2,by omega,fun h x' y' h1 h2 hx' hy'=>?_,p5⟩
    have q1:=Q.ed hsA hx' hx (by omega)
    have q2:=Q.ed hsB hy hy' (by omega)
    omega
   |true=>
    have hc':=ZE hc2
    simp only[go_sem,simprocAttr]
    refine⟨by omega,aX (bC rfl rfl (by simp only[go_sem,simprocAttr]<;>rfl) (by simp[SV.refs,SV.refs.au];omega) (hl _) he (aV _)) ?_⟩
    rintro s ⟨es',h,rfl⟩
    refine⟨es',h,i,g,rfl,by omega,by omega,by omega,by omega,p4,fun h x' y' h1 h2 hx' hy'=>?_⟩
    have q1:=Q.ed hsA hx hx' (by omega)
    have q2:=Q.ed hsB hy' hy (by omega)
    omega
  |false=>
   simp only[Zi]at hij
   obtain rfl:j=i:=by omega
   have hd2:decide (a+j<a+j)=false:=Zf (by omega)
   have w3:bb (((c+m:Nat):Int)-(a+j:Nat))=((c+m-(a+j):Nat):Int):=by rw[ao (by omega) (by omega)];omega
   obtain⟨e,hee⟩:∃e,c+m-(a+j)=e:=⟨_,rfl⟩
   rw[hee]at w3
   obtain⟨dd,hdd⟩:∃dd,c-(a+j)=dd:=⟨_,rfl⟩
   have hspl:Q.cN key A B=Q.cN key (A.take j) (B.take dd)++Q.cN key (A.drop j) (B.drop dd):=by
    refine Q.vp hsA hsB ?_ ?_
    ·rcases Zl lo j with hlt|hge
     ·obtain⟨x,hx⟩:=bV (show j-1<A.length by omega)
      rcases Zl dd B.length with hlt2|hge2
      ·obtain⟨y,hy⟩:=bV hlt2
       exact .inr (.inr ⟨x,y,hx,hy,p4 (j-1) x y (by omega) (by omega) hx (by rw[show c-1-a-(j-1)=dd by omega];exact hy)⟩)
      ·exact .inr (.inl hge2)
     ·exact .inr (.inl (by omega))
    ·rcases Zl j hi with hlt|hge
     ·obtain⟨x,hx⟩:=bV (show j<A.length by omega)
      obtain⟨y,hy⟩:=bV (show dd-1<B.length by omega)
      exact .inr (.inr ⟨x,y,hx,hy,p5 j x y (by omega) hlt hx (by rw[show c-1-a-j=dd-1 by omega];exact hy)⟩)
     ·exact .inl (by omega)
   obtain⟨A1,A2,hAA,hA1⟩:∃A1 A2,A=A1++A2∧A1.length=j:=⟨A.take j,A.drop j,(aaa _ _).symm,by rw[Z8];omega⟩
   obtain⟨B1,B2,hBB,hB1⟩:∃B1 B2,B=B1++B2∧B1.length=dd:=⟨B.take dd,B.drop dd,(aaa _ _).symm,by rw[Z8];omega⟩
   have tA:A.take j=A1:=by rw[hAA,←hA1,acj]
   have rA:A.drop j=A2:=by rw[hAA,←hA1,acm]
   have tB:B.take dd=B1:=by rw[hBB,←hB1,acj]
   have rB:B.drop dd=B2:=by rw[hBB,←hB1,acm]
   rw[tA,rA,tB,rB]at hspl
   have lA:A.length=j+A2.length:=by rw[hAA,Y9,hA1]
   have lB:B.length=dd+B2.length:=by rw[hBB,Y9,hB1]
   have sA:=Q.kJ (hAA▸hsA)
   have sB:=Q.kJ (hBB▸hsB)
   have hM0:P++(A++(B++S))=(P++A1)++(A2++(B1++(B2++S))):=by rw[hAA,hBB];simp
   have hfin:P++(Q.cN key A B++S)=(P++Q.cN key A1 B1)++(Q.cN key A2 B2++S):=by rw[hspl];simp
   have hmem:∀z,z∈P∨z∈A1∨z∈A2∨z∈B1∨z∈B2∨z∈S→fy bl fb key z:=fun z hz=>hm z (by rw[hAA,hBB];simp only[Z1];grind)
   obtain⟨es1,he1,h179⟩:∃es1,cP bl.length es1∧(a+j<m→m<e→aa T (k+5+d) (.fn 179) [.bp fb v 0 n,acH (a+j:Nat),acH m,acH e,.fn 43 []] (pH bl fb v ((P++A1)++(A2++(B1++(B2++S)))) es)=some (.ba [],pH bl fb v ((P++A1)++(B1++(A2++(B2++S)))) es1))∧(¬(a+j<m∧m<e)→es1=es∧(P++A1)++(B1++(A2++(B2++S)))=(P++A1)++(A2++(B1++(B2++S)))):=by
    by_cases g:a+j<m∧m<e
    ·obtain⟨es1,q1,q2⟩:=LH bl fb v hfb (k+3+d) (P++A1) A2 B1 (B2++S) es n (a+j) m e (by omega) (by omega) (by rw[←hM0];exact hn) (by rw[Y9];omega) (by omega) (by omega) hM (fun x hx=>(hm x (by rw[hM0];exact hx)).lt) he
     rw[show k+3+d+2=k+5+d by omega]at q2
     exact⟨es1,q1,fun _ _=>q2,fun h=>absurd g h⟩
    ·refine⟨es,he,fun h h'=>absurd ⟨h,h'⟩ g,fun _=>⟨rfl,?_⟩⟩
     rcases Zl (a+j) m with h1|h1
     ·cases gh (show B1.length=0 by omega);simp
     ·cases gh (show A2.length=0 by omega);simp
   obtain⟨h179,h179n⟩:=h179
   obtain⟨es2,he2,h86⟩:∃es2,cP bl.length es2∧(a<a+j→a+j<c→aa T (k+5+d) (.fn 135) [.bp fb v 0 n,acH a,acH (a+j:Nat),acH c,.fn 43 []] (pH bl fb v ((P++A1)++(B1++(A2++(B2++S)))) es1)=some (.ba [],pH bl fb v ((P++Q.cN key A1 B1)++(A2++(B2++S))) es2))∧(¬(a<a+j∧a+j<c)→es2=es1∧(P++Q.cN key A1 B1)++(A2++(B2++S))=(P++A1)++(B1++(A2++(B2++S)))):=by
    by_cases g:a<a+j∧a+j<c
    ·obtain⟨es2,q1,q2⟩:=ih P A1 B1 (A2++(B2++S)) es1 n a (a+j) c (by omega) (by omega) sA.1 sB.1 (by rw[hn'];simp;omega) ha (by omega) (by omega) hM (fun z hz=>hmem z (by simp only[Z1]at hz;grind)) he1 (by omega)
     exact⟨es2,q1,fun _ _=>by simpa using q2,fun h=>absurd g h⟩
    ·refine⟨es1,he1,fun h h'=>absurd ⟨h,h'⟩ g,fun _=>⟨rfl,?_⟩⟩
     rcases Zl a (a+j)with h1|h1
     ·cases gh (show B1.length=0 by omega);simp[Q.db]
     ·cases gh (show A1.length=0 by omega);simp[Q.cE]
   obtain⟨h86,h86n⟩:=h86
   have lM:(Q.cN key A1 B1).length=j+dd:=by rw[Q.mK,hA1,hB1]
   obtain⟨es3,he3,h87⟩:∃es3,cP bl.length es3∧(c<e→e<b→aa T (k+5+d) (.fn 135) [.bp fb v 0 n,acH c,acH e,acH b,.fn 43 []] (pH bl fb v ((P++Q.cN key A1 B1)++(A2++(B2++S))) es2)=some (.ba [],pH bl fb v ((P++Q.cN key A1 B1)++(Q.cN key A2 B2++S)) es3))∧(¬(c<e∧e<b)→es3=es2∧(P++Q.cN key A1 B1)++(Q.cN key A2 B2++S)=(P++Q.cN key A1 B1)++(A2++(B2++S))):=by
    by_cases g:c<e∧e<b
    ·obtain⟨es3,q1,q2⟩:=ih (P++Q.cN key A1 B1) A2 B2 S es2 n c e b (by omega) (by omega) sA.2.1 sB.2.1 (by rw[hn'];simp[lM];omega) (by rw[Y9,lM];omega) (by omega) (by omega) hM (fun z hz=>hmem z (by simp only[Z1,Q.ia]at hz;grind)) he2 (by omega)
     exact⟨es3,q1,fun _ _=>q2,fun h=>absurd g h⟩
    ·refine⟨es2,he2,fun h h'=>absurd ⟨h,h'⟩ g,fun _=>⟨rfl,?_⟩⟩
     rcases Zl c e with h1|h1
     ·cases gh (show B2.length=0 by omega);simp[Q.db]
     ·cases gh (show A2.length=0 by omega);simp[Q.cE]
   obtain⟨h87,h87n⟩:=h87
   rw[hM0,hfin]
   generalize (P++A1)++(A2++(B1++(B2++S)))=M0 at *
   generalize (P++A1)++(B1++(A2++(B2++S)))=M1 at *
   generalize (P++Q.cN key A1 B1)++(A2++(B2++S))=M2 at *
   generalize (P++Q.cN key A1 B1)++(Q.cN key A2 B2++S)=M3 at *
   have fin:∃es',cP bl.length es'∧(SV.ba [],({bl:=bl.set fb (.arr v 1 (pS M3) false),bQ:=es0++es3.filter (fun p=>decide (p.1<bl.length)),ro:=0}:ab))=(.ba [],pH bl fb v M3 es'):=⟨_,cd he0 (ca _ he3),rfl⟩
   have e3:=cK he3
   clear hAA hBB hM0 hfin hmem hspl sA sB tA rA tB rB ih hm hsA hsB p4 p5 hn
   simp only[go_sem,simprocAttr,hd2,hl,w3]
   by_cases g1:a+j<m
   ·simp only[go_sem,simprocAttr,g1]
    by_cases g2:m<e
    ·have h179:=h179 g1 g2
     simp only[go_sem,simprocAttr,g2,h179]
     by_cases g3:a<a+j
     ·simp only[go_sem,simprocAttr,g3]
      by_cases g4:a+j<c
      ·have h86:=h86 g3 g4
       simp only[go_sem,simprocAttr,g4,h86]
       by_cases g5:c<e
       ·simp only[go_sem,simprocAttr,g5]
        by_cases g6:e<b
        ·have h87:=h87 g5 g6
         simp only[go_sem,simprocAttr,g6,h87,hl,ht,af,e3]
         exact fin
        ·obtain⟨rfl,rfl⟩:=h87n (fun h=>g6 h.2)
         simp only[go_sem,simprocAttr,g6,hl,ht,af,e3]
         exact fin
       ·obtain⟨rfl,rfl⟩:=h87n (fun h=>g5 h.1)
        simp only[go_sem,simprocAttr,g5,hl,ht,af,e3]
        exact fin
      ·obtain⟨rfl,rfl⟩:=h86n (fun h=>g4 h.2)
       simp only[go_sem,simprocAttr,g4]
       by_cases g5:c<e
       ·simp only[go_sem,simprocAttr,g5]
        by_cases g6:e<b
        ·have h87:=h87 g5 g6
         simp only[go_sem,simprocAttr,g6,h87,hl,ht,af,e3]
         exact fin
        ·obtain⟨rfl,rfl⟩:=h87n (fun h=>g6 h.2)
         simp only[go_sem,simprocAttr,g6,hl,ht,af,e3]
         exact fin
       ·obtain⟨rfl,rfl⟩:=h87n (fun h=>g5 h.1)
        simp only[go_sem,simprocAttr,g5,hl,ht,af,e3]
        exact fin
     ·obtain⟨rfl,rfl⟩:=h86n (fun h=>g3 h.1)
      simp only[go_sem,simprocAttr,g3]
      by_cases g5:c<e
      ·simp only[go_sem,simprocAttr,g5]
       by_cases g6:e<b
       ·have h87:=h87 g5 g6
        simp only[go_sem,simprocAttr,g6,h87,hl,ht,af,e3]
        exact fin
       ·obtain⟨rfl,rfl⟩:=h87n (fun h=>g6 h.2)
        simp only[go_sem,simprocAttr,g6,hl,ht,af,e3]
        exact fin
      ·obtain⟨rfl,rfl⟩:=h87n (fun h=>g5 h.1)
       simp only[go_sem,simprocAttr,g5,hl,ht,af,e3]
       exact fin
    ·obtain⟨rfl,rfl⟩:=h179n (fun h=>g2 h.2)
     simp only[go_sem,simprocAttr,g2]
     by_cases g3:a<a+j
     ·simp only[go_sem,simprocAttr,g3]
      by_cases g4:a+j<c
      ·have h86:=h86 g3 g4
       simp only[go_sem,simprocAttr,g4,h86]
       by_cases g5:c<e
       ·simp only[go_sem,simprocAttr,g5]
        by_cases g6:e<b
        ·have h87:=h87 g5 g6
         simp only[go_sem,simprocAttr,g6,h87,hl,ht,af,e3]
         exact fin
        ·obtain⟨rfl,rfl⟩:=h87n (fun h=>g6 h.2)
         simp only[go_sem,simprocAttr,g6,hl,ht,af,e3]
         exact fin
       ·obtain⟨rfl,rfl⟩:=h87n (fun h=>g5 h.1)
        simp only[go_sem,simprocAttr,g5,hl,ht,af,e3]
        exact fin
      ·obtain⟨rfl,rfl⟩:=h86n (fun h=>g4 h.2)
       simp only[go_sem,simprocAttr,g4]
       by_cases g5:c<e
       ·simp only[go_sem,simprocAttr,g5]
        by_cases g6:e<b
        ·have h87:=h87 g5 g6
         simp only[go_sem,simprocAttr,g6,h87,hl,ht,af,e3]
         exact fin
        ·obtain⟨rfl,rfl⟩:=h87n (fun h=>g6 h.2)
         simp only[go_sem,simprocAttr,g6,hl,ht,af,e3]
         exact fin
       ·obtain⟨rfl,rfl⟩:=h87n (fun h=>g5 h.1)
        simp only[go_sem,simprocAttr,g5,hl,ht,af,e3]
        exact fin
     ·obtain⟨rfl,rfl⟩:=h86n (fun h=>g3 h.1)
      simp only[go_sem,simprocAttr,g3]
      by_cases g5:c<e
      ·simp only[go_sem,simprocAttr,g5]
       by_cases g6:e<b
       ·have h87:=h87 g5 g6
        simp only[go_sem,simprocAttr,g6,h87,hl,ht,af,e3]
        exact fin
       ·obtain⟨rfl,rfl⟩:=h87n (fun h=>g6 h.2)
        simp only[go_sem,simprocAttr,g6,hl,ht,af,e3]
        exact fin
      ·obtain⟨rfl,rfl⟩:=h87n (fun h=>g5 h.1)
       simp only[go_sem,simprocAttr,g5,hl,ht,af,e3]
       exact fin
   ·obtain⟨rfl,rfl⟩:=h179n (fun h=>g1 h.1)
    simp only[go_sem,simprocAttr,g1]
    by_cases g3:a<a+j
    ·simp only[go_sem,simprocAttr,g3]
     by_cases g4:a+j<c
     ·have h86:=h86 g3 g4
      simp only[go_sem,simprocAttr,g4,h86]
      by_cases g5:c<e
      ·simp only[go_sem,simprocAttr,g5]
       by_cases g6:e<b
       ·have h87:=h87 g5 g6
        simp only[go_sem,simprocAttr,g6,h87,hl,ht,af,e3]
        exact fin
       ·obtain⟨rfl,rfl⟩:=h87n (fun h=>g6 h.2)
        simp only[go_sem,simprocAttr,g6,hl,ht,af,e3]
        exact fin
      ·obtain⟨rfl,rfl⟩:=h87n (fun h=>g5 h.1)
       simp only[go_sem,simprocAttr,g5,hl,ht,af,e3]
       exact fin
     ·obtain⟨rfl,rfl⟩:=h86n (fun h=>g4 h.2)
      simp only[go_sem,simprocAttr,g4]
      by_cases g5:c<e
      ·simp only[go_sem,simprocAttr,g5]
       by_cases g6:e<b
       ·have h87:=h87 g5 g6
        simp only[go_sem,simprocAttr,g6,h87,hl,ht,af,e3]
        exact fin
       ·obtain⟨rfl,rfl⟩:=h87n (fun h=>g6 h.2)
        simp only[go_sem,simprocAttr,g6,hl,ht,af,e3]
        exact fin
      ·obtain⟨rfl,rfl⟩:=h87n (fun h=>g5 h.1)
       simp only[go_sem,simprocAttr,g5,hl,ht,af,e3]
       exact fin
    ·obtain⟨rfl,rfl⟩:=h86n (fun h=>g3 h.1)
     simp only[go_sem,simprocAttr,g3]
     by_cases g5:c<e
     ·simp only[go_sem,simprocAttr,g5]
      by_cases g6:e<b
      ·have h87:=h87 g5 g6
       simp only[go_sem,simprocAttr,g6,h87,hl,ht,af,e3]
       exact fin
      ·obtain⟨rfl,rfl⟩:=h87n (fun h=>g6 h.2)
       simp only[go_sem,simprocAttr,g6,hl,ht,af,e3]
       exact fin
     ·obtain⟨rfl,rfl⟩:=h87n (fun h=>g5 h.1)
      simp only[go_sem,simprocAttr,g5,hl,ht,af,e3]
      exact fin
theorem Lu(bl:List aD)(fb v:Nat)(hfb:fb<bl.length)(key:Nat→Int)(d k:Nat)(ih:td bl fb v key d k)(P A B S:List Nat)(es0:List (Nat×Nat))(n a m b c:Nat)(hA:2≤A.length)(hB:2≤B.length)(hsA:Q.pI key A)(hsB:Q.pI key B)(hn:n=(P++(A++(B++S))).length)(ha:a=P.length)(hmm:m=a+A.length)(hb:b=m+B.length)
 (hM:n≤1000) (hm:∀z∈P++(A++(B++S)),fy bl fb key z) (he0:cP bl.length es0) (hd:A.length+B.length≤d+1) (hc:(a+b)/2=c) (hcm:¬c<m) :
 ∃es',cP bl.length es'∧aa T (k+5+d+1) (.fn 135) [.bp fb v 0 n,acH a,acH m,acH b,.fn 43 []] (pH bl fb v (P++(A++(B++S))) es0)=some (.ba [],pH bl fb v (P++(Q.cN key A B++S)) es'):=by
 suffices h:∃r,aa T (k+5+d+1) (.fn 135) [.bp fb v 0 n,acH a,acH m,acH b,.fn 43 []] (pH bl fb v (P++(A++(B++S))) es0)=some r∧∃es',cP bl.length es'∧r=(.ba [],pH bl fb v (P++(Q.cN key A B++S)) es') by
  obtain⟨r,h1,es',h2,rfl⟩:=h
  exact⟨es',h2,h1⟩
 have hn':n=P.length+(A.length+(B.length+S.length)):=by rw[hn];simp
 refine dt Dx (by rfl) ?_
 have hl:∀X,(bl.set fb X).length=bl.length:=fun X=>Zv
 have hg:∀X,(bl.set fb X)[fb]?=some X:=fun X=>Zz hfb
 have ht:∀X,(bl.set fb X).take bl.length=bl.set fb X:=fun X=>by rw[←hl X,aaj]
 have a0:bb ((m:Int)-a)=((m-a:Nat):Int):=by rw[ao (by omega) (by omega)];omega
 have a1:bb ((b:Int)-m)=((b-m:Nat):Int):=by rw[ao (by omega) (by omega)];omega
 have a2:decide (((m-a:Nat):Int)=1)=false:=Zf (by omega)
 have a3:decide (((b-m:Nat):Int)=1)=false:=Zf (by omega)
 have hh:bb ((a:Int)+b)=((a+b:Nat):Int):=by rw[ao (by omega) (by omega)];omega
 have hw:=nP (show a+b≤4000 by omega)
 rw[hc]at hw
 have a4:bb ((c:Int)+m)=((c+m:Nat):Int):=by rw[ao (by omega) (by omega)];omega
 have a5:bb (((c+m:Nat):Int)-1)=((c+m-1:Nat):Int):=by rw[ao (by omega) (by omega)];omega
 obtain⟨lo,hlo⟩:∃lo,lo=a-a:=⟨_,rfl⟩
 obtain⟨hi,hhi⟩:∃hi,hi=m-a:=⟨_,rfl⟩
 have e1:(a:Nat)=a+lo:=by omega
 have e2:(m:Nat)=a+hi:=by omega
 have f1:lo≤hi:=by omega
 have f2:hi≤A.length:=by omega
 have f3:a+hi≤c:=by omega
 have f4:c≤a+lo+B.length:=by omega
 simp only[Ag,go_sem,simprocAttr,hl,a0,a1,a2,a3,hh,hw,a4,a5,hcm]
 refine cr (fun q s=>∃es',cP bl.length es'∧∃i j:Nat,s=([(0,.bp fb v 0 n),(1,acH a),(2,acH m),(3,acH b),(4,.fn 43 []),(18,acH c),(19,acH (c+m:Nat)),(20,acH (a+i:Nat)),(21,acH (a+j:Nat)),(22,acH (c+m-1:Nat))],pH bl fb v (P++(A++(B++S))) es')∧
  lo≤i∧i≤j∧j≤hi∧j-i+q≤hi-lo∧(∀h x y,lo≤h→h<i→A[h]?=some x→B[c-1-a-h]?=some y→¬key y<key x)∧∀h x y,j≤h→h<hi→A[h]?=some x→B[c-1-a-h]?=some y→key y<key x) (hi-lo) ?_ ?_
 ·refine aX (bC rfl rfl (by simp only[go_sem,simprocAttr]<;>rfl) (by simp[SV.refs,SV.refs.au];omega) (hl _) (aV _) (aV _)) ?_
  rintro s ⟨es',h,rfl⟩
  exact⟨es',h,lo,hi,by rw[←e1,←e2],by omega,by omega,by omega,by omega,fun h x y h1 h2=>by omega,fun h x y h1 h2=>by omega⟩
 ·rintro q s hq ⟨es,he,i,j,rfl,p0,p1,p2,p3,p4,p5⟩
  cases hij:decide (a+i<a+j)with
  |true=>
   simp only[Ze]at hij
   have hh2:bb (((a+i:Nat):Int)+((a+j:Nat):Int))=(((a+i)+(a+j):Nat):Int):=by rw[ao (by omega) (by omega)];omega
   have hw2:=nP (show(a+i)+(a+j)≤4000 by omega)
   rw[show((a+i)+(a+j))/2=a+(i+j)/2 by omega]at hw2
   obtain⟨g,hgd⟩:∃g,(i+j)/2=g:=⟨_,rfl⟩
   rw[hgd]at hw2
   have w2:bb (((c+m-1:Nat):Int)-(a+g:Nat))=((m+(c-1-a-g):Nat):Int):=by rw[ao (by omega) (by omega)];omega
   obtain⟨x,hx⟩:=bV (show g<A.length by omega)
   obtain⟨y,hy⟩:=bV (show c-1-a-g<B.length by omega)
   have hxM:(P++(A++(B++S)))[a+g]?=some x:=by
    rw[ha];exact Q.get_at P A (B++S) g hx
   have hyM:(P++(A++(B++S)))[m+(c-1-a-g)]?=some y:=by
    have:=Q.get_at (P++A) B S _ hy
    rw[show(P++A).length=m by simp;omega]at this
    simpa using this
   have kx:=hm x (Zj hxM)
   have ky:=hm y (Zj hyM)
   have h43:∀es ro,aa T (k+5+d) (.fn 43) [.ptr y 0 0 0,.ptr x 0 0 0] ⟨bl.set fb (.arr v 1 (pS (P++(A++(B++S)))) false),es,ro⟩=some (acH (G.oL (key y) (key x)),⟨bl.set fb (.arr v 1 (pS (P++(A++(B++S)))) false),es,ro⟩):=fun es ro=>by
    rw[show k+5+d=(k+2+d)+3 by omega];exact BM ky kx _ v _ es ro
   have l1:a+g<n:=by omega
   have l2:m+(c-1-a-g)<n:=by omega
   have w1:bb (((a+g:Nat):Int)+1)=((a+(g+1):Nat):Int):=by rw[ao (by omega) (by omega)];omega
   generalize hMd:P++(A++(B++S))=M at *
   simp only[go_sem,simprocAttr,hij,hh2,hw2,w2,l1,l2,hl,hg,←hn,hxM,hyM,h43,nU]
   cases hc2:decide (key y<key x)with
   |false=>
    have hc':=aak hc2
    simp only[go_sem,simprocAttr,w1]
    refine⟨by omega,aX (bC rfl rfl (by simp only[go_sem,simprocAttr]<;>rfl) (by simp[SV.refs,SV.refs.au];omega) (hl _) he (aV _)) ?_⟩
    rintro s ⟨es',h,rfl⟩
    refine⟨es',h,g+1,j,rfl,by omega,by omega,p2,by omega,fun h x' y' h1 h2 hx' hy'=>?_,p5⟩
    have q1:=Q.ed hsA hx' hx (by omega)
    have q2:=Q.ed hsB hy hy' (by omega)
    omega
   |true=>
    have hc':=ZE hc2
    simp only[go_sem,simprocAttr]
    refine⟨by omega,aX (bC rfl rfl (by simp only[go_sem,simprocAttr]<;>rfl) (by simp[SV.refs,SV.refs.au];omega) (hl _) he (aV _)) ?_⟩
    rintro s ⟨es',h,rfl⟩
    refine⟨es',h,i,g,rfl,by omega,by omega,by omega,by omega,p4,fun h x' y' h1 h2 hx' hy'=>?_⟩
    have q1:=Q.ed hsA hx hx' (by omega)
    have q2:=Q.ed hsB hy' hy (by omega)
    omega
  |false=>
   simp only[Zi]at hij
   obtain rfl:j=i:=by omega
   have hd2:decide (a+j<a+j)=false:=Zf (by omega)
   have w3:bb (((c+m:Nat):Int)-(a+j:Nat))=((c+m-(a+j):Nat):Int):=by rw[ao (by omega) (by omega)];omega
   obtain⟨e,hee⟩:∃e,c+m-(a+j)=e:=⟨_,rfl⟩
   rw[hee]at w3
   obtain⟨dd,hdd⟩:∃dd,c-(a+j)=dd:=⟨_,rfl⟩
   have hspl:Q.cN key A B=Q.cN key (A.take j) (B.take dd)++Q.cN key (A.drop j) (B.drop dd):=by
    refine Q.vp hsA hsB ?_ ?_
    ·rcases Zl lo j with hlt|hge
     ·obtain⟨x,hx⟩:=bV (show j-1<A.length by omega)
      rcases Zl dd B.length with hlt2|hge2
      ·obtain⟨y,hy⟩:=bV hlt2
       exact .inr (.inr ⟨x,y,hx,hy,p4 (j-1) x y (by omega) (by omega) hx (by rw[show c-1-a-(j-1)=dd by omega];exact hy)⟩)
      ·exact .inr (.inl hge2)
     ·exact .inl (by omega)
    ·rcases Zl j hi with hlt|hge
     ·obtain⟨x,hx⟩:=bV (show j<A.length by omega)
      obtain⟨y,hy⟩:=bV (show dd-1<B.length by omega)
      exact .inr (.inr ⟨x,y,hx,hy,p5 j x y (by omega) hlt hx (by rw[show c-1-a-j=dd-1 by omega];exact hy)⟩)
     ·exact .inr (.inl (by omega))
   obtain⟨A1,A2,hAA,hA1⟩:∃A1 A2,A=A1++A2∧A1.length=j:=⟨A.take j,A.drop j,(aaa _ _).symm,by rw[Z8];omega⟩
   obtain⟨B1,B2,hBB,hB1⟩:∃B1 B2,B=B1++B2∧B1.length=dd:=⟨B.take dd,B.drop dd,(aaa _ _).symm,by rw[Z8];omega⟩
   have tA:A.take j=A1:=by rw[hAA,←hA1,acj]
   have rA:A.drop j=A2:=by rw[hAA,←hA1,acm]
   have tB:B.take dd=B1:=by rw[hBB,←hB1,acj]
   have rB:B.drop dd=B2:=by rw[hBB,←hB1,acm]
   rw[tA,rA,tB,rB]at hspl
   have lA:A.length=j+A2.length:=by rw[hAA,Y9,hA1]
   have lB:B.length=dd+B2.length:=by rw[hBB,Y9,hB1]
   have sA:=Q.kJ (hAA▸hsA)
   have sB:=Q.kJ (hBB▸hsB)
   have hM0:P++(A++(B++S))=(P++A1)++(A2++(B1++(B2++S))):=by rw[hAA,hBB];simp
   have hfin:P++(Q.cN key A B++S)=(P++Q.cN key A1 B1)++(Q.cN key A2 B2++S):=by rw[hspl];simp
   have hmem:∀z,z∈P∨z∈A1∨z∈A2∨z∈B1∨z∈B2∨z∈S→fy bl fb key z:=fun z hz=>hm z (by rw[hAA,hBB];simp only[Z1];grind)
   obtain⟨es1,he1,h179⟩:∃es1,cP bl.length es1∧(a+j<m→m<e→aa T (k+5+d) (.fn 179) [.bp fb v 0 n,acH (a+j:Nat),acH m,acH e,.fn 43 []] (pH bl fb v ((P++A1)++(A2++(B1++(B2++S)))) es)=some (.ba [],pH bl fb v ((P++A1)++(B1++(A2++(B2++S)))) es1))∧(¬(a+j<m∧m<e)→es1=es∧(P++A1)++(B1++(A2++(B2++S)))=(P++A1)++(A2++(B1++(B2++S)))):=by
    by_cases g:a+j<m∧m<e
    ·obtain⟨es1,q1,q2⟩:=LH bl fb v hfb (k+3+d) (P++A1) A2 B1 (B2++S) es n (a+j) m e (by omega) (by omega) (by rw[←hM0];exact hn) (by rw[Y9];omega) (by omega) (by omega) hM (fun x hx=>(hm x (by rw[hM0];exact hx)).lt) he
     rw[show k+3+d+2=k+5+d by omega]at q2
     exact⟨es1,q1,fun _ _=>q2,fun h=>absurd g h⟩
    ·refine⟨es,he,fun h h'=>absurd ⟨h,h'⟩ g,fun _=>⟨rfl,?_⟩⟩
     rcases Zl (a+j) m with h1|h1
     ·cases gh (show B1.length=0 by omega);simp
     ·cases gh (show A2.length=0 by omega);simp
   obtain⟨h179,h179n⟩:=h179
   obtain⟨es2,he2,h86⟩:∃es2,cP bl.length es2∧(a<a+j→a+j<c→aa T (k+5+d) (.fn 135) [.bp fb v 0 n,acH a,acH (a+j:Nat),acH c,.fn 43 []] (pH bl fb v ((P++A1)++(B1++(A2++(B2++S)))) es1)=some (.ba [],pH bl fb v ((P++Q.cN key A1 B1)++(A2++(B2++S))) es2))∧(¬(a<a+j∧a+j<c)→es2=es1∧(P++Q.cN key A1 B1)++(A2++(B2++S))=(P++A1)++(B1++(A2++(B2++S)))):=by
    by_cases g:a<a+j∧a+j<c
    ·obtain⟨es2,q1,q2⟩:=ih P A1 B1 (A2++(B2++S)) es1 n a (a+j) c (by omega) (by omega) sA.1 sB.1 (by rw[hn'];simp;omega) ha (by omega) (by omega) hM (fun z hz=>hmem z (by simp only[Z1]at hz;grind)) he1 (by omega)
     exact⟨es2,q1,fun _ _=>by simpa using q2,fun h=>absurd g h⟩
    ·refine⟨es1,he1,fun h h'=>absurd ⟨h,h'⟩ g,fun _=>⟨rfl,?_⟩⟩
     rcases Zl a (a+j)with h1|h1
     ·cases gh (show B1.length=0 by omega);simp[Q.db]
     ·cases gh (show A1.length=0 by omega);simp[Q.cE]
   obtain⟨h86,h86n⟩:=h86
   have lM:(Q.cN key A1 B1).length=j+dd:=by rw[Q.mK,hA1,hB1]
   obtain⟨es3,he3,h87⟩:∃es3,cP bl.length es3∧(c<e→e<b→aa T (k+5+d) (.fn 135) [.bp fb v 0 n,acH c,acH e,acH b,.fn 43 []] (pH bl fb v ((P++Q.cN key A1 B1)++(A2++(B2++S))) es2)=some (.ba [],pH bl fb v ((P++Q.cN key A1 B1)++(Q.cN key A2 B2++S)) es3))∧(¬(c<e∧e<b)→es3=es2∧(P++Q.cN key A1 B1)++(Q.cN key A2 B2++S)=(P++Q.cN key A1 B1)++(A2++(B2++S))):=by
    by_cases g:c<e∧e<b
    ·obtain⟨es3,q1,q2⟩:=ih (P++Q.cN key A1 B1) A2 B2 S es2 n c e b (by omega) (by omega) sA.2.1 sB.2.1 (by rw[hn'];simp[lM];omega) (by rw[Y9,lM];omega) (by omega) (by omega) hM (fun z hz=>hmem z (by simp only[Z1,Q.ia]at hz;grind)) he2 (by omega)
     exact⟨es3,q1,fun _ _=>q2,fun h=>absurd g h⟩
    ·refine⟨es2,he2,fun h h'=>absurd ⟨h,h'⟩ g,fun _=>⟨rfl,?_⟩⟩
     rcases Zl c e with h1|h1
     ·cases gh (show B2.length=0 by omega);simp[Q.db]
     ·cases gh (show A2.length=0 by omega);simp[Q.cE]
   obtain⟨h87,h87n⟩:=h87
   rw[hM0,hfin]
   generalize (P++A1)++(A2++(B1++(B2++S)))=M0 at *
   generalize (P++A1)++(B1++(A2++(B2++S)))=M1 at *
   generalize (P++Q.cN key A1 B1)++(A2++(B2++S))=M2 at *
   generalize (P++Q.cN key A1 B1)++(Q.cN key A2 B2++S)=M3 at *
   have fin:∃es',cP bl.length es'∧(SV.ba [],({bl:=bl.set fb (.arr v 1 (pS M3) false),bQ:=es0++es3.filter (fun p=>decide (p.1<bl.length)),ro:=0}:ab))=(.ba [],pH bl fb v M3 es'):=⟨_,cd he0 (ca _ he3),rfl⟩
   have e3:=cK he3
   clear hAA hBB hM0 hfin hmem hspl sA sB tA rA tB rB ih hm hsA hsB p4 p5 hn
   simp only[go_sem,simprocAttr,hd2,hl,w3]
   by_cases g1:a+j<m
   ·simp only[go_sem,simprocAttr,g1]
    by_cases g2:m<e
    ·have h179:=h179 g1 g2
     simp only[go_sem,simprocAttr,g2,h179]
     by_cases g3:a<a+j
     ·simp only[go_sem,simprocAttr,g3]
      by_cases g4:a+j<c
      ·have h86:=h86 g3 g4
       simp only[go_sem,simprocAttr,g4,h86]
       by_cases g5:c<e
       ·simp only[go_sem,simprocAttr,g5]
        by_cases g6:e<b
        ·have h87:=h87 g5 g6
         simp only[go_sem,simprocAttr,g6,h87,hl,ht,af,e3]
         exact fin
        ·obtain⟨rfl,rfl⟩:=h87n (fun h=>g6 h.2)
         simp only[go_sem,simprocAttr,g6,hl,ht,af,e3]
         exact fin
       ·obtain⟨rfl,rfl⟩:=h87n (fun h=>g5 h.1)
        simp only[go_sem,simprocAttr,g5,hl,ht,af,e3]
        exact fin
      ·obtain⟨rfl,rfl⟩:=h86n (fun h=>g4 h.2)
       simp only[go_sem,simprocAttr,g4]
       by_cases g5:c<e
       ·simp only[go_sem,simprocAttr,g5]
        by_cases g6:e<b
        ·have h87:=h87 g5 g6
         simp only[go_sem,simprocAttr,g6,h87,hl,ht,af,e3]
         exact fin
        ·obtain⟨rfl,rfl⟩:=h87n (fun h=>g6 h.2)
         simp only[go_sem,simprocAttr,g6,hl,ht,af,e3]
         exact fin
       ·obtain⟨rfl,rfl⟩:=h87n (fun h=>g5 h.1)
        simp only[go_sem,simprocAttr,g5,hl,ht,af,e3]
        exact fin
     ·obtain⟨rfl,rfl⟩:=h86n (fun h=>g3 h.1)
      simp only[go_sem,simprocAttr,g3]
      by_cases g5:c<e
      ·simp only[go_sem,simprocAttr,g5]
       by_cases g6:e<b
       ·have h87:=h87 g5 g6
        simp only[go_sem,simprocAttr,g6,h87,hl,ht,af,e3]
        exact fin
       ·obtain⟨rfl,rfl⟩:=h87n (fun h=>g6 h.2)
        simp only[go_sem,simprocAttr,g6,hl,ht,af,e3]
        exact fin
      ·obtain⟨rfl,rfl⟩:=h87n (fun h=>g5 h.1)
       simp only[go_sem,simprocAttr,g5,hl,ht,af,e3]
       exact fin
    ·obtain⟨rfl,rfl⟩:=h179n (fun h=>g2 h.2)
     simp only[go_sem,simprocAttr,g2]
     by_cases g3:a<a+j
     ·simp only[go_sem,simprocAttr,g3]
      by_cases g4:a+j<c
      ·have h86:=h86 g3 g4
       simp only[go_sem,simprocAttr,g4,h86]
       by_cases g5:c<e
       ·simp only[go_sem,simprocAttr,g5]
        by_cases g6:e<b
        ·have h87:=h87 g5 g6
         simp only[go_sem,simprocAttr,g6,h87,hl,ht,af,e3]
         exact fin
        ·obtain⟨rfl,rfl⟩:=h87n (fun h=>g6 h.2)
         simp only[go_sem,simprocAttr,g6,hl,ht,af,e3]
         exact fin
       ·obtain⟨rfl,rfl⟩:=h87n (fun h=>g5 h.1)
        simp only[go_sem,simprocAttr,g5,hl,ht,af,e3]
        exact fin
      ·obtain⟨rfl,rfl⟩:=h86n (fun h=>g4 h.2)
       simp only[go_sem,simprocAttr,g4]
       by_cases g5:c<e
       ·simp only[go_sem,simprocAttr,g5]
        by_cases g6:e<b
        ·have h87:=h87 g5 g6
         simp only[go_sem,simprocAttr,g6,h87,hl,ht,af,e3]
         exact fin
        ·obtain⟨rfl,rfl⟩:=h87n (fun h=>g6 h.2)
         simp only[go_sem,simprocAttr,g6,hl,ht,af,e3]
         exact fin
       ·obtain⟨rfl,rfl⟩:=h87n (fun h=>g5 h.1)
        simp only[go_sem,simprocAttr,g5,hl,ht,af,e3]
        exact fin
     ·obtain⟨rfl,rfl⟩:=h86n (fun h=>g3 h.1)
      simp only[go_sem,simprocAttr,g3]
      by_cases g5:c<e
      ·simp only[go_sem,simprocAttr,g5]
       by_cases g6:e<b
       ·have h87:=h87 g5 g6
        simp only[go_sem,simprocAttr,g6,h87,hl,ht,af,e3]
        exact fin
       ·obtain⟨rfl,rfl⟩:=h87n (fun h=>g6 h.2)
        simp only[go_sem,simprocAttr,g6,hl,ht,af,e3]
        exact fin
      ·obtain⟨rfl,rfl⟩:=h87n (fun h=>g5 h.1)
       simp only[go_sem,simprocAttr,g5,hl,ht,af,e3]
       exact fin
   ·obtain⟨rfl,rfl⟩:=h179n (fun h=>g1 h.1)
    simp only[go_sem,simprocAttr,g1]
    by_cases g3:a<a+j
    ·simp only[go_sem,simprocAttr,g3]
     by_cases g4:a+j<c
     ·have h86:=h86 g3 g4
      simp only[go_sem,simprocAttr,g4,h86]
      by_cases g5:c<e
      ·simp only[go_sem,simprocAttr,g5]
       by_cases g6:e<b
       ·have h87:=h87 g5 g6
        simp only[go_sem,simprocAttr,g6,h87,hl,ht,af,e3]
        exact fin
       ·obtain⟨rfl,rfl⟩:=h87n (fun h=>g6 h.2)
        simp only[go_sem,simprocAttr,g6,hl,ht,af,e3]
        exact fin
      ·obtain⟨rfl,rfl⟩:=h87n (fun h=>g5 h.1)
       simp only[go_sem,simprocAttr,g5,hl,ht,af,e3]
       exact fin
     ·obtain⟨rfl,rfl⟩:=h86n (fun h=>g4 h.2)
      simp only[go_sem,simprocAttr,g4]
      by_cases g5:c<e
      ·simp only[go_sem,simprocAttr,g5]
       by_cases g6:e<b
       ·have h87:=h87 g5 g6
        simp only[go_sem,simprocAttr,g6,h87,hl,ht,af,e3]
        exact fin
       ·obtain⟨rfl,rfl⟩:=h87n (fun h=>g6 h.2)
        simp only[go_sem,simprocAttr,g6,hl,ht,af,e3]
        exact fin
      ·obtain⟨rfl,rfl⟩:=h87n (fun h=>g5 h.1)
       simp only[go_sem,simprocAttr,g5,hl,ht,af,e3]
       exact fin
    ·obtain⟨rfl,rfl⟩:=h86n (fun h=>g3 h.1)
     simp only[go_sem,simprocAttr,g3]
     by_cases g5:c<e
     ·simp only[go_sem,simprocAttr,g5]
      by_cases g6:e<b
      ·have h87:=h87 g5 g6
       simp only[go_sem,simprocAttr,g6,h87,hl,ht,af,e3]
       exact fin
      ·obtain⟨rfl,rfl⟩:=h87n (fun h=>g6 h.2)
       simp only[go_sem,simprocAttr,g6,hl,ht,af,e3]
       exact fin
     ·obtain⟨rfl,rfl⟩:=h87n (fun h=>g5 h.1)
      simp only[go_sem,simprocAttr,g5,hl,ht,af,e3]
      exact fin
theorem sL(bl:List aD)(fb v:Nat)(hfb:fb<bl.length)(key:Nat→Int)(k:Nat):∀d,td bl fb v key d k
 |0=>fun P A B S es0 n a m b hA hB _ _ _ _ _ _ _ _ _ hd=>by omega
 |d+1=>fun P A B S es0 n a m b hA hB hsA hsB hn ha hmm hb hM hm he0 hd=>by
  by_cases c1:A.length=1
  ·obtain⟨x,rfl⟩:=aaZ.1 c1
   obtain rfl:m=a+1:=by simpa using hmm
   have:=Kn bl fb v hfb key (k+2+d) P B S x es0 n a b hB hsB (by simpa using hn) ha hb hM (by simpa using hm) he0
   rw[show k+2+d+4=k+5+(d+1) by omega]at this
   simpa using this
  by_cases c2:B.length=1
  ·obtain⟨y,rfl⟩:=aaZ.1 c2
   obtain rfl:b=m+1:=by simpa using hb
   have:=JF bl fb v hfb key (k+2+d) P A S y es0 n a m (by omega) hsA (by simpa using hn) ha hmm hM (by simpa using hm) he0
   rw[show k+2+d+4=k+5+(d+1) by omega]at this
   simpa using this
  by_cases hcm:(a+b)/2<m
  ·exact J8 bl fb v hfb key d k (sL bl fb v hfb key k d) P A B S es0 n a m b _ (by omega) (by omega) hsA hsB hn ha hmm hb hM hm he0 hd rfl hcm
  ·exact Lu bl fb v hfb key d k (sL bl fb v hfb key k d) P A B S es0 n a m b _ (by omega) (by omega) hsA hsB hn ha hmm hb hM hm he0 hd rfl hcm
theorem YC(bl:List aD)(fb v:Nat)(hfb:fb<bl.length)(key:Nat→Int)(k:Nat)(M:List Nat)(es0:List (Nat×Nat))(n:Nat)(hn:n=M.length)(hM:n<40)(hm:∀x∈M,fy bl fb key x)(he0:cP bl.length es0) :
 ∃es',cP bl.length es'∧aa T (k+46) (.fn 79) [.bp fb v 0 n,acH n,.fn 43 []] (pH bl fb v M es0)=some (.ba [],pH bl fb v (Q.fk key M) es'):=by
 suffices h:∃r,aa T (k+46) (.fn 79) [.bp fb v 0 n,acH n,.fn 43 []] (pH bl fb v M es0)=some r∧∃es',cP bl.length es'∧r=(.ba [],pH bl fb v (Q.fk key M) es') by
  obtain⟨r,h1,es',h2,rfl⟩:=h
  exact⟨es',h2,h1⟩
 refine dt Xf (by rfl) ?_
 have hl:∀X,(bl.set fb X).length=bl.length:=fun X=>Zv
 have ht:∀X,(bl.set fb X).take bl.length=bl.set fb X:=fun X=>by rw[←hl X,aaj]
 have VD:(20:Int)=((20*0+20:Nat):Int):=rfl
 simp only[WG,go_sem,Int.reduceToNat,Nat.reduceAdd,Nat.reduceBEq,Nat.reduceLeDiff,Nat.reduceLT,Nat.reduceMul,Nat.reduceSub,Int.reduceEq,Int.reduceLT,Int.reduceLE,Int.reduceNeg,hl]
 refine cr (fun q s=>∃es',cP bl.length es'∧s=([(0,.bp fb v 0 n),(1,acH n),(2,.fn 43 []),(6,acH 20),(7,acH (20*q:Nat)),(8,acH (20*q+20:Nat))],pH bl fb v (Q.fk key (M.take (20*q))++M.drop (20*q)) es')∧20*q≤n) 1 ?_ ?_
 ·refine aX (bC rfl rfl (by simp only[go_sem,Int.reduceToNat,Nat.reduceAdd,Nat.reduceBEq,Nat.reduceLeDiff,Nat.reduceLT,Nat.reduceMul,Nat.reduceSub,Int.reduceEq,Int.reduceLT,Int.reduceLE,Int.reduceNeg]<;>rfl) (by simp[SV.refs,SV.refs.au];omega) (hl _) (aV _) (aV _)) ?_
  rintro s ⟨es',h,rfl⟩
  exact⟨es',h,by simp[Q.fk],by omega⟩
 ·rintro q s hq ⟨es,he,rfl,hP⟩
  have hX:(Q.fk key (M.take (20*q))++M.drop (20*q)).length=n:=by rw[Y9,Q.kI,Z8,ab4];omega
  have hmX:∀x∈Q.fk key (M.take (20*q))++M.drop (20*q),fy bl fb key x:=fun x hx=>by
   rcases Z1.1 hx with hx|hx
   ·exact hm x (abE ((Q.kB key _ x).1 hx))
   ·exact hm x (ab6 hx)
  have hiL:(Q.fk key (M.take (20*q))).length=20*q:=by rw[Q.kI,Z8];omega
  cases hc:decide (((20*q+20:Nat):Int)≤(n:Int))with
  |true=>
   have hc':20*q+20≤n:=by simp only[Ze]at hc;omega
   obtain rfl:q=0:=by omega
   have X0:Q.fk key (M.take (20*0))++M.drop (20*0)=M:=by simp[Q.fk]
   rw[X0]at hX hmX⊢
   obtain⟨es1,he1,h134⟩:=Kl bl fb v hfb key (k+41) M es 0 20 (by omega) (by omega) (by omega) hmX he
   have hsort:Q.jO key M 0 (20-(0+1))=Q.fk key (M.take 20)++M.drop 20:=by
    have:=Q.u5 key [] (M.take 20) (M.drop 20) 0 20 rfl (by simp;omega)
    simp only[ZZ,aaa]at this
    exact this
   rw[←hn,hsort]at h134
   have w1:bb ((20:Int)+20)=40:=by decide
   have hc2:decide ((20:Int)≤(n:Int))=true:=Zc (by omega)
   simp only[ace]at h134
   simp only[go_sem,Int.reduceToNat,Nat.reduceAdd,Nat.reduceBEq,Nat.reduceLeDiff,Nat.reduceLT,Nat.reduceMul,Nat.reduceSub,Int.reduceEq,Int.reduceLT,Int.reduceLE,Int.reduceNeg,hc2,h134,w1]
   refine⟨by first|trivial|omega,aX (bC rfl rfl (by simp only[go_sem,Int.reduceToNat,Nat.reduceAdd,Nat.reduceBEq,Nat.reduceLeDiff,Nat.reduceLT,Nat.reduceMul,Nat.reduceSub,Int.reduceEq,Int.reduceLT,Int.reduceLE,Int.reduceNeg]<;>rfl) (by simp[SV.refs,SV.refs.au];omega) (hl _) he1 (aV _)) ?_⟩
   rintro s ⟨es',h,rfl⟩
   exact⟨es',h,rfl,by omega⟩
  |false=>
   have hc':¬20*q+20≤n:=by simp only[Zi]at hc;omega
   obtain⟨es1,he1,h134⟩:=Kl bl fb v hfb key (k+41) (Q.fk key (M.take (20*q))++M.drop (20*q)) es (20*q) n (by omega) (by omega) (by omega) hmX he
   have hsort:Q.jO key (Q.fk key (M.take (20*q))++M.drop (20*q)) (20*q) (n-(20*q+1))=Q.fk key (M.take (20*q))++Q.fk key (M.drop (20*q)):=by
    have:=Q.u5 key (Q.fk key (M.take (20*q))) (M.drop (20*q)) [] (20*q) n hiL.symm (by rw[hiL,ab4];omega)
    simpa using this
   rw[hX,hsort]at h134
   obtain⟨Z,hZ⟩:∃Z,Q.fk key (M.take (20*q))++Q.fk key (M.drop (20*q))=Z:=⟨_,rfl⟩
   rw[hZ]at h134
   have hZ1:n≤20→Z=Q.fk key M:=fun h=>by
    rw[←hZ]
    rcases Zl 0 q with h0|h0
    ·have:M.length≤20*q:=by omega
     rw[ZM this,aaO this]
     simp[Q.fk]
    ·obtain rfl:q=0:=by omega
     simp[Q.fk]
   simp only[go_sem,Int.reduceToNat,Nat.reduceAdd,Nat.reduceBEq,Nat.reduceLeDiff,Nat.reduceLT,Nat.reduceMul,Nat.reduceSub,Int.reduceEq,Int.reduceLT,Int.reduceLE,Int.reduceNeg,hc,h134,hl]
   have hZ2:20<n→Z=Q.fk key (M.take 20)++Q.fk key (M.drop 20):=fun h=>by
    rw[←hZ]
    obtain rfl:q=1:=by omega
    rfl
   have hmZ:∀x∈Z,fy bl fb key x:=fun x hx=>by
    rw[←hZ]at hx
    rcases Z1.1 hx with hx|hx
    ·exact hm x (abE ((Q.kB key _ x).1 hx))
    ·exact hm x (ab6 ((Q.kB key _ x).1 hx))
   clear h134 hsort hiL hmX hX hP hc hc' hZ
   refine cr (fun q s=>∃es',cP bl.length es'∧s=([(0,.bp fb v 0 n),(1,acH n),(2,.fn 43 []),(6,acH (20*2 ^ q:Nat))],pH bl fb v (if q=0 then Z else Q.fk key M) es')) 1 ?_ ?_
   ·refine aX (bC rfl rfl (by simp only[go_sem,Int.reduceToNat,Nat.reduceAdd,Nat.reduceBEq,Nat.reduceLeDiff,Nat.reduceLT,Nat.reduceMul,Nat.reduceSub,Int.reduceEq,Int.reduceLT,Int.reduceLE,Int.reduceNeg]<;>rfl) (by simp[SV.refs,SV.refs.au];omega) (hl _) (aV _) (aV _)) ?_
    rintro s ⟨es',h,rfl⟩
    exact⟨es',h,rfl⟩
   ·rintro r s hr ⟨es2,he2,rfl⟩
    rcases Zl 0 r with h0|h0
    ·obtain rfl:r=1:=by omega
     have hc:decide (((20*2 ^ 1:Nat):Int)<(n:Int))=false:=Zf (by omega)
     have e0:=cd he1 he2
     rw[if_neg (by omega)]
     have hc2:decide ((40:Int)<(n:Int))=false:=Zf (by omega)
     simp only[go_sem,Int.reduceToNat,Nat.reduceAdd,Nat.reduceBEq,Nat.reduceLeDiff,Nat.reduceLT,Nat.reduceMul,Nat.reduceSub,Int.reduceEq,Int.reduceLT,Int.reduceLE,Int.reduceNeg,Nat.reducePow,hc2,hl,ht,af,cK e0]
     exact⟨_,cd he0 (ca _ e0),rfl⟩
    ·obtain rfl:r=0:=by omega
     rw[if_pos rfl]
     cases hc:decide ((20:Int)<(n:Int))with
     |false=>
      have hc':n≤20:=by simp only[Zi]at hc;omega
      have e0:=cd he1 he2
      rw[hZ1 hc']
      simp only[go_sem,Int.reduceToNat,Nat.reduceAdd,Nat.reduceBEq,Nat.reduceLeDiff,Nat.reduceLT,Nat.reduceMul,Nat.reduceSub,Int.reduceEq,Int.reduceLT,Int.reduceLE,Int.reduceNeg,Nat.reducePow,hc,hl,ht,af,cK e0]
      exact⟨_,cd he0 (ca _ e0),rfl⟩
     |true=>
      have hc':20<n:=by simp only[Ze]at hc;omega
      have w1:bb (2*(20:Int))=40:=by decide
      have hd40:decide ((40:Int)≤(n:Int))=false:=Zf (by omega)
      have w2:bb (0+(20:Int))=20:=by decide
      have w3:bb ((20:Int)*2)=40:=by decide
      simp only[go_sem,Int.reduceToNat,Nat.reduceAdd,Nat.reduceBEq,Nat.reduceLeDiff,Nat.reduceLT,Nat.reduceMul,Nat.reduceSub,Int.reduceEq,Int.reduceLT,Int.reduceLE,Int.reduceNeg,Nat.reducePow,hc,w1,hl]
      refine cr (fun q s=>∃es',cP bl.length es'∧s=([(0,.bp fb v 0 n),(1,acH n),(2,.fn 43 []),(6,acH 20),(7,acI),(8,acH 40)],pH bl fb v Z es')) 0 ?_ ?_
      ·refine aX (bC rfl rfl (by simp only[go_sem,Int.reduceToNat,Nat.reduceAdd,Nat.reduceBEq,Nat.reduceLeDiff,Nat.reduceLT,Nat.reduceMul,Nat.reduceSub,Int.reduceEq,Int.reduceLT,Int.reduceLE,Int.reduceNeg]<;>rfl) (by simp[SV.refs,SV.refs.au];omega) (hl _) (aV _) (aV _)) ?_
       rintro s ⟨es',h,rfl⟩
       exact⟨es',h,rfl⟩
      ·rintro t s ht0 ⟨es3,he3,rfl⟩
       have hZ:=hZ2 hc'
       have lZ1:(Q.fk key (M.take 20)).length=20:=by rw[Q.kI,Z8];omega
       have lZ2:(Q.fk key (M.drop 20)).length=n-20:=by rw[Q.kI,ab4];omega
       obtain⟨es4,he4,h135⟩:=sL bl fb v hfb key k 40 [] (Q.fk key (M.take 20)) (Q.fk key (M.drop 20)) [] (es2++es3) n 0 20 n (by omega) (by omega) (Q.o6 _ _) (Q.o6 _ _) (by simp[lZ1,lZ2];omega) rfl (by omega) (by omega) (by omega) (by simpa[←hZ]using hmZ) (cd he2 he3) (by omega)
       simp only[ZZ,ZW,←hZ,←Q.ks,aaa,ace,Zk,Nat.reduceAdd]at h135
       simp only[go_sem,Int.reduceToNat,Nat.reduceAdd,Nat.reduceBEq,Nat.reduceLeDiff,Nat.reduceLT,Nat.reduceMul,Nat.reduceSub,Int.reduceEq,Int.reduceLT,Int.reduceLE,Int.reduceNeg,hd40,w2,w3,hc,h135]
       refine⟨trivial,aX (bC rfl rfl (by simp only[go_sem,Int.reduceToNat,Nat.reduceAdd,Nat.reduceBEq,Nat.reduceLeDiff,Nat.reduceLT,Nat.reduceMul,Nat.reduceSub,Int.reduceEq,Int.reduceLT,Int.reduceLE,Int.reduceNeg]<;>rfl) (by simp[SV.refs,SV.refs.au];omega) (hl _) he4 (aV _)) ?_⟩
       rintro s ⟨es',h,rfl⟩
       exact⟨es',h,rfl⟩
end Go.Sh
