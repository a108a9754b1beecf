/- A part of the proof: texts ShX1. -/
import Derived.Test.YtlkjiffohmkidaaGreatB4
namespace Go.Sh
set_option linter.unusedSectionVars false
set_option linter.unnecessarySimpa false
set_option linter.unusedSimpArgs false
set_option linter.unusedVariables false
set_option maxRecDepth 100000
set_option maxHeartbeats 4000000
section
section
variable{C:Ctx}{rec:Rec}{f:FuncId}{nt:Nat}
structure eV(C:Ctx)(rec:Rec)(f:FuncId)(nt:Nat)(ops:Array Oper)(pl:List (ak×aU))(es:Nat→Env)(hs:Nat→ae)(out:Nat→SV)(Ns:Nat→Nat):Prop where
 c0:∀(i:Nat) o d,pl[i]?=some (o,d)→∃op,ops[i]?=some op∧fX C.P C.cU f nt ops op=some o
 hlen:pl.length=ops.size
 ko:Lj (aW ops.toList) ops.toList pl
 tr:Tr rec pl es hs out Ns
 n0:Ns 0=(hs 0).bl.length
variable{ops:Array Oper}{pl:List (ak×aU)}{es:Nat→Env}{hs:Nat→ae}{out:Nat→SV}{Ns:Nat→Nat}
theorem fK{i:Nat}(h:i<pl.length):∃o d,pl[i]?=some (o,d):=⟨pl[i].1,pl[i].2,by simp[h]⟩
abbrev aq(hs:Nat→ae)(i:Nat):Nat:=(hs i).bl.length
theorem eV.wr(R:eV C rec f nt ops pl es hs out Ns){i:Nat}{o:ak}{d:aU}{rd:List (bj×Nat)}(h:pl[i]?=some (o,d))(hk:d.kind=.wr rd) :
 ∃n a x,o.op=.store n a x∧mG (es i) o.g∧(ev (es i) x).refs≤Ns i∧yD (Ns i) d.ep (ev (es i) a)=true∧(∀q∈rd,qy (ev (es i) q.1) q.2 (ev (es i) a) n=true)∧
  df n (hs i) (ev (es i) x) (ev (es i) a)=some (hs (i+1))∧out i=.undef∧Ns (i+1)=Ns i:=by
 have hN:Ns (i+1)=Ns i:=by
  rw[R.tr.nx i o d h];unfold eQ;rw[hk]
 rcases R.tr.st i o d h with⟨hw,h1⟩|⟨_,h2,_,_⟩
 ·unfold bR at h1
  rw[hk]at h1
  simp only at h1
  unfold sC at h1
  split at h1
  ·rename_i n a x c0
   replace h1:=af h1
   obtain⟨h2,h1⟩:=h1
   simp only[NX,NY]at h2
   simp only[NP,N3]at h1
   obtain⟨H1,h3,h4,h5⟩:=h1
   subst h5
   exact⟨n,a,x,c0,hw,h2.1.1,h2.1.2,fun q hq=>N5.1 h2.2 q hq,h3,h4.symm,hN⟩
  ·cases h1
 ·unfold gP at h2
  rw[hk]at h2;cases h2
theorem eV.sk(R:eV C rec f nt ops pl es hs out Ns){i:Nat}{o:ak}{d:aU}(h:pl[i]?=some (o,d))(hw:cH d=true):aq hs (i+1)=aq hs i:=by
 obtain⟨rd,hk⟩:=cA.1 hw
 obtain⟨n,a,x,_,_,_,_,_,h1,_⟩:=R.wr h hk
 obtain⟨b,v,ii,oo,xs,y0,y1,_,_,_,_,_,_,_,h2,_⟩:=e8 h1
 have:=(gA h2).2.2.1
 show(hs (i+1)).bl.length=(hs i).bl.length
 rw[this,NZ]
theorem eV.vK(R:eV C rec f nt ops pl es hs out Ns){i:Nat}(hi:i<pl.length):(hs i).bl.length≤(hs (i+1)).bl.length:=by
 obtain⟨o,d,h⟩:=fK hi
 cases hw:cH d with
 |true=>exact PF (R.sk h hw).symm
 |false=>
 rcases R.tr.st i o d h with⟨_,h1⟩|⟨_,_,_,h1⟩
 ·unfold bR at h1
  split at h1
  ·rename_i hk
   rw[(kK (R.ko.zT i o d h hk).1 h1).1];exact NV _
  ·simp only[NS]at h1
   obtain⟨r,h2,h3⟩:=h1
   replace h3:=af h3
   obtain⟨h4,h5⟩:=h3
   cases h5
   simpa using h4
  ·simp only[NS]at h1
   obtain⟨r,h2,h3⟩:=h1
   replace h3:=af h3
   obtain⟨h4,h5⟩:=h3
   simp only[N1,N3]at h5
   rw[←h5.2]
   simp
  ·rename_i rd hk
   rw[cA.2 ⟨rd,hk⟩]at hw;cases hw
 ·rw[h1];exact NV _
theorem eV.mono(R:eV C rec f nt ops pl es hs out Ns){i:Nat}:∀{j:Nat},i≤j→j≤pl.length→(hs i).bl.length≤(hs j).bl.length:=by
 intro j
 induction j with
 |zero=>intro h _;have:i=0:=by omega
        subst this;exact NV _
 |succ j ih=>
  intro h hj
  by_cases e:i=j+1
  ·subst e;exact NV _
  ·exact O0 (ih (by omega) (by omega)) (R.vK (by omega))
theorem eV.kP(R:eV C rec f nt ops pl es hs out Ns){i:Nat}{o:ak}{d:aU}(h:pl[i]?=some (o,d))(hb:d.kind≠.fC)(hw:cH d=false) :
 ∃X,hs (i+1)={hs i with bl:=(hs i).bl++X}∧X.length=d.sy∧Ns (i+1)=Ns i:=by
 have hN:Ns (i+1)=Ns i:=by
  rw[R.tr.nx i o d h]
  unfold eQ
  split
  ·rename_i hk;exact absurd hk hb
  ·rfl
 rcases R.tr.st i o d h with⟨_,h1⟩|⟨_,h2,_,h1⟩
 ·unfold bR at h1
  split at h1
  ·rename_i hk
   obtain⟨g1,g2⟩:=R.ko.zT i o d h hk
   exact⟨[],by rw[(kK g1 h1).1];simp,by simp[g2],hN⟩
  ·rename_i hk;exact absurd hk hb
  ·simp only[NS]at h1
   obtain⟨r,h2,h3⟩:=h1
   replace h3:=af h3
   obtain⟨h4,h5⟩:=h3
   simp only[N1,N3]at h5
   simp only[NX,O1]at h4
   exact⟨_,h5.2.symm,by simp[h4.1],hN⟩
  ·rename_i rd hk
   rw[cA.2 ⟨rd,hk⟩]at hw;cases hw
 ·refine⟨[],by rw[h1];simp,?_,hN⟩
  unfold gP at h2
  split at h2
  ·have:=O1.1 h2;simp[this]
  ·cases h2
  ·rename_i hk hk2
   have:d.kind=.pure:=by cases hd:d.kind<;>simp_all
   simp[(R.ko.zT i o d h this).2]
theorem eV.gz(R:eV C rec f nt ops pl es hs out Ns){i:Nat}{o:ak}{d:aU}(h:pl[i]?=some (o,d))(hb:d.kind≠.fC):aq hs (i+1)=aq hs i+d.sy∧Ns (i+1)=Ns i:=by
 cases hw:cH d with
 |true=>
  obtain⟨rd,hk⟩:=cA.1 hw
  obtain⟨_,_,_,_,_,_,_,_,_,_,hN⟩:=R.wr h hk
  have:=R.ko.La i (NT.1 h).1 (by rw[cb h];exact hw)
  rw[cb h]at this
  exact⟨by rw[R.sk h hw,this,Ph],hN⟩
 |false=>
  obtain⟨X,h1,h2,h3⟩:=R.kP h hb hw
  exact⟨by unfold aq;rw[h1];simp[h2],h3⟩
theorem eV.kn(R:eV C rec f nt ops pl es hs out Ns){j:Nat}:∀(m:Nat),(∀k,j≤k→k<j+m→(dr pl k).kind≠.fC)→(∀k,j≤k→k<j+m→cH (dr pl k)=false)→j+m≤pl.length→
 ∃X,hs (j+m)={hs j with bl:=(hs j).bl++X}
 |0,_,_,_=>⟨[],by simp⟩
 |m+1,hb,hw,hl=>by
  obtain⟨X,h1⟩:=eV.kn R m (fun k hk hk'=>hb k hk (by omega)) (fun k hk hk'=>hw k hk (by omega)) (by omega)
  obtain⟨o,d,h⟩:=fK (pl:=pl) (i:=j+m) (by omega)
  obtain⟨Y,h3,_,h4⟩:=R.kP h (by have:=hb (j+m) (by omega) (by omega);rwa [cb h]at this) (by have:=hw (j+m) (by omega) (by omega);rwa [cb h]at this)
  refine⟨X++Y,?_⟩
  rw[←N9,h3,h1];simp
theorem eV.Cp(R:eV C rec f nt ops pl es hs out Ns){j k:Nat}(hjk:j≤k)(hk:k≤pl.length)(hb:∀m,j≤m→m<k→(dr pl m).kind≠.fC)(hw:∀m,j≤m→m<k→cH (dr pl m)=false) :
 ∃X,hs k={hs j with bl:=(hs j).bl++X}:=by
 have:=R.kn (j:=j) (k-j) (fun m h1 h2=>hb m h1 (by omega)) (fun m h1 h2=>hw m h1 (by omega)) (by omega)
 rwa [show j+(k-j)=k by omega]at this
theorem eV.HA(R:eV C rec f nt ops pl es hs out Ns){j k:Nat}(hjk:j≤k)(hk:k≤pl.length)(hb:∀m,j≤m→m<k→(dr pl m).kind≠.fC):Ns k=Ns j:=by
 have key:∀m,j+m≤k→Ns (j+m)=Ns j:=by
  intro m
  induction m with
  |zero=>intro _;rfl
  |succ m ih=>
   intro hm
   obtain⟨o,d,h⟩:=fK (pl:=pl) (i:=j+m) (by omega)
   rw[←N9,(R.gz h (by have:=hb (j+m) (by omega) (by omega);rwa [cb h]at this)).2]
   exact ih (by omega)
 have:=key (k-j) (by omega)
 rwa [show j+(k-j)=k by omega]at this
theorem eV.jf(R:eV C rec f nt ops pl es hs out Ns){j:Nat}(hj:(dr pl j).jf=0):∀(m:Nat),(∀k,j≤k→k<j+m→(dr pl k).kind≠.fC)→j+m<pl.length→
 (hs (j+m)).bl.length=(hs j).bl.length+(dr pl (j+m)).jf
 |0,_,_=>by simp[hj]
 |m+1,hb,hl=>by
  have h1:=eV.jf R hj m (fun k hk hk'=>hb k hk (by omega)) (by omega)
  obtain⟨o,d,h⟩:=fK (pl:=pl) (i:=j+m) (by omega)
  have hnb:=hb (j+m) (by omega) (by omega)
  have h3:(hs (j+m+1)).bl.length=(hs (j+m)).bl.length+d.sy:=(R.gz h (by rwa [cb h]at hnb)).1
  have h5:=R.ko.Az (j+m) (by omega)
  have h6:nL (dr pl (j+m))=false:=by
   cases hq:nL (dr pl (j+m))with
   |false=>rfl
   |true=>exact absurd (gE.1 hq) hnb
  rw[h6]at h5
  simp only[Oa,cb h]at h5
  rw[cb h]at h1
  rw[←N9,h3,h5]
  omega
theorem eV.ind{P:Nat→Prop}{i k:Nat}(hik:i≤k)(h0:P i)(hs:∀m,i≤m→m<k→P m→P (m+1)):P k:=by
 have key:∀m,i+m≤k→P (i+m):=by
  intro m
  induction m with
  |zero=>intro _;exact h0
  |succ m ih=>intro hm;exact hs (i+m) (by omega) (by omega) (ih (by omega))
 have:=key (k-i) (by omega)
 rwa [show i+(k-i)=k by omega]at this
theorem eV.shape(R:eV C rec f nt ops pl es hs out Ns){i k:Nat}(hik:i≤k)(hk:k≤pl.length)(hb:∀m,i≤m→m<k→(dr pl m).kind≠.fC):bL (hs i).bl ((hs k).bl.take (aq hs i)):=by
 refine eV.ind (P:=fun k=>bL (hs i).bl ((hs k).bl.take (aq hs i))) hik (by rw[OR (NV _)];exact .refl _) (fun m h1 h2 ih=>?_)
 obtain⟨o,d,h⟩:=fK (pl:=pl) (i:=m) (by omega)
 have hle:aq hs i≤aq hs m:=R.mono h1 (by omega)
 cases hw:cH d with
 |false=>
  obtain⟨X,h3,_⟩:=R.kP h (by have:=hb m h1 h2;rwa [cb h]at this) hw
  rw[h3]
  simp only
  rw[List.take_append_of_le_length hle];exact ih
 |true=>
  obtain⟨rd,hkd⟩:=cA.1 hw
  obtain⟨n,a,x,_,_,_,_,_,h4,_⟩:=R.wr h hkd
  obtain⟨b,v,ii,oo,xs,y0,y1,_,_,_,h5,_,_,h6,h7,_⟩:=e8 h4
  rw[(gA h7).2.2.1]
  exact ih.trans ((bL.set h5 h6).take _)
theorem eV.Fu(R:eV C rec f nt ops pl es hs out Ns){i k b:Nat}(hik:i≤k)(hk:k≤pl.length)(hb:∀m,i≤m→m<k→(dr pl m).kind≠.fC)(hbl:b<aq hs i)
 (ht:∀m o d n a x,i≤m→m<k→pl[m]?=some (o,d)→cH d=true→o.op=.store n a x→∀v j q,ev (es m) a≠.ptr b v j q):(hs k).bl[b]?=(hs i).bl[b]?:=by
 refine eV.ind (P:=fun k=>(hs k).bl[b]?=(hs i).bl[b]?) hik rfl (fun m h1 h2 ih=>?_)
 obtain⟨o,d,h⟩:=fK (pl:=pl) (i:=m) (by omega)
 have hle:aq hs i≤aq hs m:=R.mono h1 (by omega)
 cases hw:cH d with
 |false=>
  obtain⟨X,h3,_⟩:=R.kP h (by have:=hb m h1 h2;rwa [cb h]at this) hw
  rw[h3]
  simp only
  rw[On (OP hbl hle)];exact ih
 |true=>
  obtain⟨rd,hkd⟩:=cA.1 hw
  obtain⟨n,a,x,c0,_,_,_,_,h4,_⟩:=R.wr h hkd
  obtain⟨b',v,ii,oo,xs,y0,y1,hp,_,_,h5,_,_,h6,h7,_⟩:=e8 h4
  have hne:b'≠b:=fun e=>ht m o d n a x h1 h2 h hw c0 v ii oo (by rw[hp,e])
  rw[(gA h7).2.2.1,N7 hne];exact ih
theorem eV.K8(R:eV C rec f nt ops pl es hs out Ns){i k u:Nat}(hik:i≤k)(hk:k≤pl.length)(hu:∀m,i≤m→m<k→∀p,pl[m]?=some p→p.1.dst≠some u):get (es k) u=get (es i) u:=by
 refine eV.ind (P:=fun k=>get (es k) u=get (es i) u) hik rfl (fun m h1 h2 ih=>?_)
 obtain⟨o,d,h⟩:=fK (pl:=pl) (i:=m) (by omega)
 rw[R.tr.env m o d h]
 cases hd:o.dst with
 |none=>exact ih
 |some t=>
  have:t≠u:=fun e=>hu m h1 h2 _ h (by rw[hd,e])
  simp only[bB,get]
  have:(u==t)=false:=by simpa using(Ne.symm this)
  rw[this];exact ih
theorem eV.Fy(R:eV C rec f nt ops pl es hs out Ns){i k:Nat}{ag:Bool}{z:Nat}{p s:SV}(hik:i≤k)(hk:k≤pl.length)(hb:∀m,i≤m→m<k→(dr pl m).kind≠.fC)(h:cw ag z (hs i) p=some s)
 (ht:∀m o d n a x,i≤m→m<k→pl[m]?=some (o,d)→cH d=true→o.op=.store n a x→qy p (bif ag then z else 1) (ev (es m) a) n=true):cw ag z (hs k) p=some s:=by
 refine eV.ind (P:=fun k=>cw ag z (hs k) p=some s) hik h (fun m h1 h2 ih=>?_)
 obtain⟨o,d,hm⟩:=fK (pl:=pl) (i:=m) (by omega)
 cases hw:cH d with
 |false=>
  obtain⟨X,h3,_⟩:=R.kP hm (by have:=hb m h1 h2;rwa [cb hm]at this) hw
  refine jU ih (fun b v ii oo hp=>?_)
  subst hp
  obtain⟨x,hx,_⟩:=oW ih
  rw[h3]
  simp only
  rw[On (NT.1 hx).1]
 |true=>
  obtain⟨rd,hkd⟩:=cA.1 hw
  obtain⟨n,a,x,c0,_,_,_,_,h4,_⟩:=R.wr hm hkd
  exact uP ih h4 (ht m o d n a x h1 h2 hm hw c0)
def W(pl:List (ak×aU))(e0:Env)(out:Nat→SV)(ln:Nat→Nat)(S:Nat→Prop)(t:Nat)(s:SV)(m:Nat):Prop:=
 (∃j o d,pl[j]?=some (o,d)∧S j∧o.dst=some t∧(∀j' o' d',j<j'→pl[j']?=some (o',d')→S j'→o'.dst≠some t)∧s=out j∧m=ln (j+1))∨
 ((∀(j:Nat) o d,pl[j]?=some (o,d)→S j→o.dst≠some t)∧s=get e0 t∧m=ln 0)
theorem eV.sf(R:eV C rec f nt ops pl es hs out Ns)(t:Nat):∀i,i≤pl.length→∃m,W pl (es 0) out (aq hs) (· <i) t (get (es i) t) m∧m≤aq hs i
 |0,_=>⟨aq hs 0,.inr ⟨fun j o d _ h=>by simp at h,rfl,rfl⟩,NV _⟩
 |i+1,hi=>by
  obtain⟨m,h1,h2⟩:=eV.sf R t i (by omega)
  obtain⟨o,d,h⟩:=fK (pl:=pl) (i:=i) (by omega)
  rw[R.tr.env i o d h]
  have hm:=R.vK (i:=i) (by omega)
  cases hd:o.dst with
  |none=>
   refine⟨m,?_,O0 h2 hm⟩
   simp only[bB]
   rcases h1 with⟨j,o',d',g1,g2,g3,g4,g5,g6⟩|⟨g1,g2,g3⟩
   ·refine .inl ⟨j,o',d',g1,Nat.lt_succ_of_lt g2,g3,fun j' o2 d2 k1 k2 k3=>?_,g5,g6⟩
    by_cases e:j'=i
    ·subst e;rw[h]at k2;cases k2;rw[hd];simp
    ·exact g4 j' o2 d2 k1 k2 (by omega)
   ·refine .inr ⟨fun j o2 d2 k2 k3=>?_,g2,g3⟩
    by_cases e:j=i
    ·subst e;rw[h]at k2;cases k2;rw[hd];simp
    ·exact g1 j o2 d2 k2 (by omega)
  |some u=>
   simp only[bB,get]
   cases hu:(t==u)with
   |true=>
    have:t=u:=by simpa using hu
    subst this
    refine⟨aq hs (i+1),.inl ⟨i,o,d,h,Nat.lt_succ_self i,hd,fun j' o2 d2 k1 k2 k3=>?_,rfl,rfl⟩,NV _⟩
    exact absurd k3 (by omega)
   |false=>
    have hne:t≠u:=by simpa using hu
    refine⟨m,?_,O0 h2 hm⟩
    simp only[Oa]
    rcases h1 with⟨j,o',d',g1,g2,g3,g4,g5,g6⟩|⟨g1,g2,g3⟩
    ·refine .inl ⟨j,o',d',g1,Nat.lt_succ_of_lt g2,g3,fun j' o2 d2 k1 k2 k3=>?_,g5,g6⟩
     by_cases e:j'=i
     ·subst e;rw[h]at k2;cases k2;rw[hd];simpa using Ne.symm hne
     ·exact g4 j' o2 d2 k1 k2 (by omega)
    ·refine .inr ⟨fun j o2 d2 k2 k3=>?_,g2,g3⟩
     by_cases e:j=i
     ·subst e;rw[h]at k2;cases k2;rw[hd];simpa using Ne.symm hne
     ·exact g1 j o2 d2 k2 (by omega)
open Classical in
noncomputable def Gh (H:ae) (vis:Nat→Prop):ae:={H with bl:=H.bl.mapIdx fun b x=>if vis b then x else .dead}
theorem fH{H:ae}{vis:Nat→Prop}:(Gh H vis).bl.length=H.bl.length:=by simp[Gh]
theorem jx{H:ae}{vis:Nat→Prop}{b:Nat}{x:aj}(h:(Gh H vis).bl[b]?=some x)(hx:x.live=true):vis b∧H.bl[b]?=some x:=by
 unfold Gh at h
 simp only[QB,NP]at h
 obtain⟨y,h1,h2⟩:=h
 by_cases hv:vis b
 ·rw[if_pos hv]at h2;subst h2;exact⟨hv,h1⟩
 ·rw[if_neg hv]at h2;subst h2;cases hx
theorem fJ{H:ae}{vis:Nat→Prop}{b:Nat}{x:aj}(hv:vis b)(h:H.bl[b]?=some x):(Gh H vis).bl[b]?=some x:=by
 unfold Gh
 simp[h,hv]
theorem fc{ρ ρ':Map}(h:ρ.le ρ'){m n:Nat}(hmn:m≤n):(ρ.cut m).le (ρ'.cut n):=by
 intro b l hb
 unfold Map.cut at hb⊢
 split at hb
 ·rename_i hlt
  rw[if_pos (by omega)]
  exact h b l hb
 ·cases hb
theorem jd{ρ:Map}{N b:Nat}{l:Loc}(h:ρ.cut N b=some l):b<N∧ρ b=some l:=by
 unfold Map.cut at h
 split at h
 ·exact⟨by assumption,h⟩
 ·cases h
theorem ie{ρ:Map}{N b:Nat}(h:b<N):ρ.cut N b=ρ b:=by simp[Map.cut,h]
theorem HR.pad{ρ:Map}{F:Nat→Prop}{H H':ae}{w:World}(hr:HR C ρ F H w)(hb:∀(b:Nat) x,x.live=true→(H'.bl[b]?=some x↔H.bl[b]?=some x))(hl:H.bl.length≤H'.bl.length)(he:H'.bC=H.bC)(hro:H'.ro=H.ro) :
 HR C ρ F H' w∧Ext C ρ F H w ρ F H' w:=by
 have hown:∀b l,Own ρ H' b l→Own ρ H b l:=fun b l ⟨⟨x,h1,h2⟩,h3,h4⟩=>⟨⟨x,(hb b x h2).1 h1,h2⟩,h3,h4⟩
 refine⟨⟨fun b l h=>OP (hr.gY b l h) hl,fun b x h1 h2=>hr.live b x ((hb b x h2).1 h1) h2,fun b b' l l' h h'=>hr.apart b b' l l' (hown b l h) (hown b' l' h'),fun b l h=>hr.own b l (hown b l h),hr.fO⟩,
  ⟨fun b l h=>⟨l,h,.inl rfl⟩,fun _ h=>h,fun _ h=>.inl h,fun _ _ _=>rfl,NV _,fun b l h=>.inr ⟨l,hown b l h,rfl⟩,hro,fun p hp=>he▸hp,fun N hN hc h0 b x l hbN hx hxl hlx=>?_,fun B q h=>⟨q,h⟩,hl,⟨rfl,rfl⟩⟩,fun b l h=>.inl ⟨l,h⟩⟩
 have hx':=(hb b x hxl).1 hx
 by_cases hNl:N≤H.bl.length
 ·exact h0 hNl b x l hbN hx' hxl hlx
 ·obtain⟨l2,h2,h3⟩:=hr.live b x hx' hxl
  rw[hlx]at h2;cases h2
  exact h3.mono (fun _ _=>rfl) (fun _ h=>h) (fun b1 l1 h1=>⟨l1,by have:=hr.gY b1 l1 h1;rw[ie (by omega)];exact h1,.inl rfl⟩) (fun _=>rfl)
def gX(hs:Nat→ae)(S:Nat→Prop)(β γ b:Nat):Prop:=b<aq hs β∨∃k,S k∧β≤k∧k<γ∧aq hs k≤b∧b<aq hs (k+1)
structure J(C:Ctx)(nt:Nat)(ops:Array Oper)(pl:List (ak×aU))(es:Nat→Env)(hs:Nat→ae)(out:Nat→SV)(Ns:Nat→Nat)(B:iL)(S:Nat→Prop)(a:Act)(w:World)(ρ:Map)(F:Nat→Prop)(β μ γ:Nat):Prop where
 closed:∀(k:Nat) o,S k→ops.toList[k]?=some o→∀e∈o.after,Region.binds .any e=true→S e.on
 le:β≤μ
 xX:μ≤γ
 vO:γ≤pl.length
 nT:∀j,β≤j→j<γ→(dr pl j).kind≠.fC
 DU:γ=pl.length∨(dr pl γ).kind=.fC
 E5:μ=γ∨(cH (dr pl μ)=true∧¬S μ)
 qo:∀j,β≤j→j<μ→cH (dr pl j)=true→S j
 pre:∀j,j<β→(dr pl j).kind≠.pure→S j
 post:∀j,β≤j→S j→(dr pl j).kind≠.fC
 BT:Ns β=aq hs β
 va:β<pl.length→(dr pl β).jf=0
 JZ:B.H.bl.length≤aq hs β
 hr:HR C ρ F (Gh (hs μ) (gX hs S β μ)) w
 gY:∀b l,ρ b=some l→gX hs S β μ b
 Ib:∀(b:Nat) x l,b<aq hs β→(hs μ).bl[b]?=some x→x.live=true→ρ b=some l→BR C w F (ρ.cut (aq hs β)) l x
 J6:∀(k b:Nat) x l,S k→β≤k→k<μ→aq hs k≤b→b<aq hs (k+1)→(hs μ).bl[b]?=some x→x.live=true→ρ b=some l→BR C w F (ρ.cut (aq hs (k+1))) l x
 ext:Ext C B.ρ B.F B.H B.w ρ F (Gh (hs μ) (gX hs S β μ)) w
 eJ:∀t s m,W pl (es 0) out (aq hs) S t s m→VR w F (ρ.cut m) s (a.tmps.getD t undef)
 sz:nt≤a.tmps.size
 G7:Marks ρ F (Gh (hs μ) (gX hs S β μ)) w B.lo a.defers
variable{B:iL}{S:Nat→Prop}{a:Act}{w w':World}{ρ:Map}{F:Nat→Prop}{β μ γ:Nat}
theorem J.before(R:eV C rec f nt ops pl es hs out Ns)(j:J C nt ops pl es hs out Ns B S a w ρ F β μ γ){i:Nat}(hcl:∀o,ops.toList[i]?=some o→∀e∈o.after,Region.binds .any e=true→S e.on) :
 ∀k,((aW ops.toList).getD i 0).testBit k=true→S k:=fun k h=>iw (fun k o hk=>j.closed k o hk) i k hcl h
theorem J.behind(R:eV C rec f nt ops pl es hs out Ns)(j:J C nt ops pl es hs out Ns B S a w ρ F β μ γ){i:Nat}(hi:¬S i):∀k,S k→¬((aW ops.toList).getD k 0).testBit i=true:=fun k hk h=>
 hi (iw (fun k o hk=>j.closed k o hk) k i (fun o ho=>j.closed k o hk ho) h)
theorem J.Er(R:eV C rec f nt ops pl es hs out Ns)(j:J C nt ops pl es hs out Ns B S a w ρ F β μ γ){i:Nat}{o:ak}{d:aU}(hi:pl[i]?=some (o,d))(hS:¬S i)
 (hcl:∀o,ops.toList[i]?=some o→∀e∈o.after,Region.binds .any e=true→S e.on):∀t∈br o,VR w F (ρ.cut (aq hs i)) (get (es i) t) (a.tmps.getD t undef):=by
 intro t ht
 have hlt:=(NT.1 hi).1
 obtain⟨m,h1,h2⟩:=R.sf t i (by omega)
 have bf:=j.before R hcl
 have bh:=j.behind R hS
 refine(j.eJ t _ m ?_).mono (fun _ _=>rfl) (fun _ h=>h) (fc (Map.le_refl _) h2)
 rcases h1 with⟨k,o',d',g1,g2,g3,g4,g5,g6⟩|⟨g1,g2,g3⟩
 ·refine .inl ⟨k,o',d',g1,?_,g3,fun k' o2 d2 k1 k2 k3 hd=>?_,g5,g6⟩
  ·rcases R.ko.tmp k i _ _ g2 g1 hi with h|⟨h,_⟩
   ·exact bf k h
   ·exact absurd ht (h t g3).1
  ·by_cases e:k'<i
   ·exact g4 k' o2 d2 k1 k2 e hd
   ·have:k'≠i:=fun e=>hS (e▸k3)
    rcases R.ko.tmp i k' _ _ (by omega) hi k2 with h|⟨_,h⟩
    ·exact bh k' k3 h
    ·exact h t hd ht
 ·refine .inr ⟨fun k o2 d2 k2 k3 hd=>?_,g2,g3⟩
  by_cases e:k<i
  ·exact g1 k o2 d2 k2 e hd
  ·have:k≠i:=fun e=>hS (e▸k3)
   rcases R.ko.tmp i k _ _ (by omega) hi k2 with h|⟨_,h⟩
   ·exact bh k k3 h
   ·exact h t hd ht
theorem J.wj(R:eV C rec f nt ops pl es hs out Ns)(j:J C nt ops pl es hs out Ns B S a w ρ F β μ γ){i:Nat}{o:ak}{d:aU}(hi:pl[i]?=some (o,d))(hS:¬S i){ρ':Map}{F':Nat→Prop}{val:Value}
 (hk:cK F w w') (hF:∀B,F B→F' B) (hle:ρ.le ρ') (hv:VR w' F' (ρ'.cut (aq hs (i+1))) (out i) val) (hdst:∀d,o.dst=some d→d<nt) :
 ∀t s m,W pl (es 0) out (aq hs) (fun k=>S k∨k=i) t s m→VR w' F' (ρ'.cut m) s ((a.put o.dst val).tmps.getD t undef):=by
 intro t s m h
 have bh:=j.behind R hS
 by_cases hd:o.dst=some t
 ·have:s=out i∧m=aq hs (i+1):=by
   rcases h with⟨k,o',d',g1,g2,g3,g4,g5,g6⟩|⟨g1,g2,g3⟩
   ·rcases g2 with g2|g2
    ·exfalso
     rcases PH k i with hk'|hk'|hk'
     ·exact g4 i o d hk' hi (.inr rfl) hd
     ·exact hS (hk'▸g2)
     ·rcases R.ko.tmp i k _ _ hk' hi g1 with h|⟨h,_⟩
      ·exact bh k g2 h
      ·exact(h t hd).2 g3
    ·subst g2;exact⟨g5,g6⟩
   ·exact absurd hd (g1 i o d hi (.inr rfl))
  obtain⟨rfl,rfl⟩:=this
  have hlt:t<a.tmps.size:=OP (hdst t hd) j.sz
  rw[hd]
  simpa[Act.put,hlt]using hv
 ·have hput:(a.put o.dst val).tmps.getD t undef=a.tmps.getD t undef:=by
   cases hq:o.dst with
   |none=>rfl
   |some u=>
    have:u≠t:=fun e=>hd (by rw[hq,e])
    simp only[Act.put,O4,Oz this]
  rw[hput]
  refine(j.eJ t s m ?_).mono hk hF (fc hle (NV _))
  rcases h with⟨k,o',d',g1,g2,g3,g4,g5,g6⟩|⟨g1,g2,g3⟩
  ·rcases g2 with g2|g2
   ·exact .inl ⟨k,o',d',g1,g2,g3,fun k' o2 d2 k1 k2 k3=>g4 k' o2 d2 k1 k2 (.inl k3),g5,g6⟩
   ·subst g2;rw[hi]at g1;cases g1;exact absurd g3 hd
  ·exact .inr ⟨fun k o2 d2 k2 k3=>g1 k o2 d2 k2 (.inl k3),g2,g3⟩
theorem J.sub(R:eV C rec f nt ops pl es hs out Ns)(j:J C nt ops pl es hs out Ns B S a w ρ F β μ γ){i:Nat}(hi:i≤pl.length){V:ae}(hV:V.bl.length=aq hs i)
 (hl:∀(b:Nat) x,V.bl[b]?=some x→x.live=true→β≤i∧i≤μ∧gX hs S β μ b∧(hs μ).bl[b]?=some x):HR C (ρ.cut (aq hs i)) F V w:=by
 have hown:∀b l,Own (ρ.cut (aq hs i)) V b l→Own ρ (Gh (hs μ) (gX hs S β μ)) b l:=by
  intro b l ⟨⟨x,h1,h2⟩,h3,h4⟩
  obtain⟨_,_,g1,g2⟩:=hl b x h1 h2
  exact⟨⟨x,fJ g1 g2,h2⟩,(jd h3).2,h4⟩
 refine⟨fun b l h=>by rw[hV];exact(jd h).1,fun b x hb hx=>?_,fun b b' l l' h h'=>j.hr.apart b b' l l' (hown b l h) (hown b' l' h'),fun b l h=>j.hr.own b l (hown b l h),j.hr.fO⟩
 obtain⟨g0,g3,g1,g2⟩:=hl b x hb hx
 obtain⟨l,h1,_⟩:=j.hr.live b x (fJ g1 g2) hx
 have hbN:b<aq hs i:=by rw[←hV];exact(NT.1 hb).1
 refine⟨l,by rw[ie hbN];exact h1,?_⟩
 rcases g1 with g1|⟨k,k1,k2,k3,k4,k5⟩
 ·exact(j.Ib b x l g1 g2 hx h1).mono (fun _ _=>rfl) (fun _ h=>h) (fc (Map.le_refl _) (R.mono g0 hi)) (fun _=>rfl)
 ·have hki:k<i:=by
   rcases Oh k i with h|h
   ·exact h
   ·have h1:=R.mono h (by have:=j.vO;have:=j.xX;omega)
    exact absurd hbN (by show ¬b<(hs i).bl.length;have:(hs k).bl.length≤b:=k4;omega)
  exact(j.J6 k b x l k1 k2 k3 k4 k5 g2 hx h1).mono (fun _ _=>rfl) (fun _ h=>h) (fc (Map.le_refl _) (R.mono hki hi)) (fun _=>rfl)
theorem J.quiet(R:eV C rec f nt ops pl es hs out Ns)(j:J C nt ops pl es hs out Ns B S a w ρ F β μ γ){i:Nat}{o:ak}{d:aU}(hi:pl[i]?=some (o,d))(hS:¬S i)
 (hcl:∀o,ops.toList[i]?=some o→∀e∈o.after,Region.binds .any e=true→S e.on) (hnb:d.kind≠.fC) (hnw:cH d=false) {V V':ae} (hV:V.bl.length=aq hs i) (hVro:V.ro=aq hs i)
 (hV':V'.bl.length=aq hs (i+1)) (hesc:V'.bC=[]) (aV:∀b,aq hs i≤b→b<aq hs (i+1)→V'.bl[b]?=(hs μ).bl[b]?)
 (hcase:aq hs (i+1)=aq hs i∨(β≤i∧i<μ)) {val:Value} (hd:cN C (ρ.cut (aq hs i)) F V w (out i) V' val w') (hdst:∀d,o.dst=some d→d<nt) :
 ∃ρ' F',J C nt ops pl es hs out Ns B (fun k=>S k∨k=i) (a.put o.dst val) w' ρ' F' β μ γ:=by
 obtain⟨ρ2,F2,d1,d2,d3⟩:=hd
 have hlt:=(NT.1 hi).1
 have m1:aq hs i≤aq hs (i+1):=R.vK hlt
 have hfr:∀Bk,Bk<w.heap.size→w'.heap[Bk]?=w.heap[Bk]?:=fun Bk hB=>d3.frame Bk hB (fun b l ho hro=>by
  have:=(jd ho.2.1).1
  rw[hVro]at hro;omega)
 have hk:cK F w w':=fun Bk hB=>hfr Bk (j.hr.fO Bk hB)
 have hFF:∀B,F B→F2 B:=d3.fO
 have e1:∀b,b<aq hs i→ρ2 b=ρ b:=by
  intro b hb
  cases h:ρ b with
  |some l=>
   obtain⟨l',h1,h2⟩:=d3.map b l (by rw[ie hb];exact h)
   rcases h2 with rfl|⟨h2,_⟩
   ·exact h1
   ·rw[hVro]at h2;omega
  |none=>
   cases h':ρ2 b with
   |none=>rfl
   |some l'=>
    rcases d3.nd b l' h' with⟨l,h1⟩|h1
    ·rw[ie hb,h]at h1;cases h1
    ·rw[hV]at h1;omega
 have e2:∀b l,ρ2 b=some l→b<aq hs (i+1):=fun b l h=>by rw[←hV'];exact d2.gY b l h
 have hout:∀b,gX hs S β μ b→¬(aq hs i≤b∧b<aq hs (i+1)):=by
  rintro b hv ⟨h1,h2⟩
  rcases hcase with hc|⟨hc1,hc2⟩
  ·omega
  ·rcases hv with h|⟨k,k1,k2,k3,k4,k5⟩
   ·have:aq hs β≤aq hs i:=R.mono hc1 (by omega)
    omega
   ·rcases PH k i with h|h|h
    ·have:aq hs (k+1)≤aq hs i:=R.mono h (by omega)
     omega
    ·exact hS (h▸k1)
    ·have:aq hs (i+1)≤aq hs k:=R.mono h (by have:=j.vO;have:=j.xX;omega)
     omega
 let ρ':Map:=fun b=>if aq hs i≤b∧b<aq hs (i+1)then ρ2 b else ρ b
 have r1:∀b,aq hs i≤b→b<aq hs (i+1)→ρ' b=ρ2 b:=fun b h h'=>if_pos ⟨h,h'⟩
 have r2:∀b,¬(aq hs i≤b∧b<aq hs (i+1))→ρ' b=ρ b:=fun b h=>if_neg h
 have le1:ρ.le ρ':=fun b l h=>⟨l,by rw[r2 b (hout b (j.gY b l h))];exact h,.inl rfl⟩
 have le2:ρ2.le (ρ'.cut (aq hs (i+1))):=fun b l h=>by
  have hb:=e2 b l h
  refine⟨l,?_,.inl rfl⟩
  rw[ie hb]
  by_cases hb':aq hs i≤b
  ·rw[r1 b hb' hb];exact h
  ·rw[r2 b (fun h=>hb' h.1),←e1 b (by omega)];exact h
 have vis:∀b,gX hs (fun k=>S k∨k=i) β μ b→gX hs S β μ b∨((aq hs i≤b∧b<aq hs (i+1))∧β≤i∧i<μ):=by
  intro b h
  rcases h with h|⟨k,k1,k2,k3,k4,k5⟩
  ·exact .inl (.inl h)
  ·rcases k1 with k1|rfl
   ·exact .inl (.inr ⟨k,k1,k2,k3,k4,k5⟩)
   ·exact .inr ⟨⟨k4,k5⟩,k2,k3⟩
 have vis1:∀b,gX hs S β μ b→gX hs (fun k=>S k∨k=i) β μ b:=by
  intro b h
  rcases h with h|⟨k,k1,k2,k3,k4,k5⟩
  ·exact .inl h
  ·exact .inr ⟨k,.inl k1,k2,k3,k4,k5⟩
 have newlive:∀(b:Nat) x l,aq hs i≤b→b<aq hs (i+1)→(hs μ).bl[b]?=some x→x.live=true→ρ2 b=some l→Own ρ2 V' b l∨l.aL=true:=by
  intro b x l h1 h2 h3 h4 h5
  cases hv:l.aL with
  |true=>exact .inr rfl
  |false=>exact .inl ⟨⟨x,by rw[aV b h1 h2];exact h3,h4⟩,h5,hv⟩
 have newblk:∀b l,Own ρ2 V' b l→aq hs i≤b→w.heap.size≤l.bq:=by
  intro b l ho hb
  rcases d3.old b l ho with h|⟨l0,h,_⟩
  ·exact h
  ·have:=(jd h.2.1).1;omega
 have own':∀b l,Own ρ' (Gh (hs μ) (gX hs (fun k=>S k∨k=i) β μ)) b l→Own ρ (Gh (hs μ) (gX hs S β μ)) b l∨(Own ρ2 V' b l∧aq hs i≤b):=by
  intro b l ⟨⟨x,h1,h2⟩,h3,h4⟩
  obtain⟨g1,g2⟩:=jx h1 h2
  rcases vis b g1 with g1|⟨⟨g3,g4⟩,_⟩
  ·rw[r2 b (hout b g1)]at h3
   exact .inl ⟨⟨x,fJ g1 g2,h2⟩,h3,h4⟩
  ·rw[r1 b g3 g4]at h3
   exact .inr ⟨⟨⟨x,by rw[aV b g3 g4];exact g2,h2⟩,h3,h4⟩,g3⟩
 have oldsame:∀b l,Own ρ (Gh (hs μ) (gX hs S β μ)) b l→w'.heap[l.bq]?=w.heap[l.bq]?:=fun b l ho=>hfr _ (j.hr.own b l ho).2
 have hr':HR C ρ' F2 (Gh (hs μ) (gX hs (fun k=>S k∨k=i) β μ)) w':=by
  refine⟨fun b l h=>?_,fun b x hb hx=>?_,fun b b' l l' h h' he=>?_,fun b l ho=>?_,d2.fO⟩
  ·rw[fH]
   by_cases hb:aq hs i≤b∧b<aq hs (i+1)
   ·rcases hcase with hc|⟨hc1,hc2⟩
    ·omega
    ·have:aq hs (i+1)≤aq hs μ:=R.mono hc2 (O0 j.xX j.vO)
     exact OP hb.2 this
   ·rw[r2 b hb]at h
    have:=j.hr.gY b l h
    rwa [fH]at this
  ·obtain⟨g1,g2⟩:=jx hb hx
   rcases vis b g1 with g1|⟨⟨g3,g4⟩,_⟩
   ·obtain⟨l,h1,h2⟩:=j.hr.live b x (fJ g1 g2) hx
    exact⟨l,by rw[r2 b (hout b g1)];exact h1,h2.mono hk hFF le1 (fun hv=>oldsame b l ⟨⟨x,fJ g1 g2,hx⟩,h1,hv⟩)⟩
   ·obtain⟨l,h1,h2⟩:=d2.live b x (by rw[aV b g3 g4];exact g2) hx
    exact⟨l,by rw[r1 b g3 g4];exact h1,h2.mono (fun _ _=>rfl) (fun _ h=>h) (Map.le_trans le2 (Map.pK _ _)) (fun _=>rfl)⟩
  ·rcases own' b l h with o1|⟨o1,p1⟩<;>rcases own' b' l' h' with o2|⟨o2,p2⟩
   ·exact j.hr.apart b b' l l' o1 o2 he
   ·have:=(j.hr.own b l o1).2
    have:=newblk b' l' o2 p2
    omega
   ·have:=(j.hr.own b' l' o2).2
    have:=newblk b l o1 p1
    omega
   ·exact d2.apart b b' l l' o1 o2 he
  ·rcases own' b l ho with o1|⟨o1,p1⟩
   ·have h1:=j.hr.own b l o1
    refine⟨fun hF=>?_,OP h1.2 d3.size⟩
    rcases d3.new _ hF with h|h|⟨b0,l0,h2,h3,_⟩
    ·exact h1.1 h
    ·omega
    ·have:=(jd h2.2.1).1
     rw[hVro]at h3;omega
   ·exact d2.own b l o1
 have ext':Ext0 C ρ F (Gh (hs μ) (gX hs S β μ)) w ρ' F2 (Gh (hs μ) (gX hs (fun k=>S k∨k=i) β μ)) w':=by
  refine⟨fun b l h=>⟨l,by rw[r2 b (hout b (j.gY b l h))];exact h,.inl rfl⟩,hFF,fun Bk hB=>?_,fun Bk hB _=>hfr Bk hB,d3.size,fun b l ho=>?_,rfl,fun _ h=>h,fun N hN hc h0 b x l hbN hx hxl hl=>?_,d3.lp,by rw[fH,fH];exact NV _,d3.out⟩
  ·rcases d3.new Bk hB with h|h|⟨b0,l0,h2,h3,_⟩
   ·exact .inl h
   ·exact .inr (.inl h)
   ·have:=(jd h2.2.1).1
    rw[hVro]at h3;omega
  ·rcases own' b l ho with o1|⟨o1,p1⟩
   ·exact .inr ⟨l,o1,rfl⟩
   ·exact .inl (newblk b l o1 p1)
  ·obtain⟨g1,g2⟩:=jx hx hxl
   rcases vis b g1 with g1|⟨⟨g3,g4⟩,_⟩
   ·rw[r2 b (hout b g1)]at hl
    have:=h0 (by rw[fH]at hN ⊢;exact hN) b x l hbN (fJ g1 g2) hxl hl
    exact this.mono hk hFF (fc le1 (NV _)) (fun hv=>oldsame b l ⟨⟨x,fJ g1 g2,hxl⟩,hl,hv⟩)
   ·rw[r1 b g3 g4]at hl
    have hb':V'.bl[b]?=some x:=by rw[aV b g3 g4];exact g2
    by_cases hNl:aq hs (i+1)≤N
    ·obtain⟨l2,h2,h3⟩:=d2.live b x hb' hxl
     rw[hl]at h2;cases h2
     exact h3.mono (fun _ _=>rfl) (fun _ h=>h) (Map.le_trans le2 (fc (Map.le_refl _) hNl)) (fun _=>rfl)
    ·have:=d3.inv N (by rw[hV'];omega) (by rw[hesc];intro p hp;cases hp) (fun h=>by rw[hV]at h;omega) b x l hbN hb' hxl hl
     refine this.mono (fun _ _=>rfl) (fun _ h=>h) (fun b1 l1 h1=>?_) (fun _=>rfl)
     obtain⟨q1,q2⟩:=jd h1
     obtain⟨l3,q3,q4⟩:=le2 b1 l1 q2
     refine⟨l3,?_,q4⟩
     rw[ie q1]
     exact(jd q3).2
 have ext2:Ext C B.ρ B.F B.H B.w ρ' F2 (Gh (hs μ) (gX hs (fun k=>S k∨k=i) β μ)) w':=by
  refine⟨j.ext.toExt0.trans ext',fun b l h=>?_⟩
  by_cases hb:aq hs i≤b∧b<aq hs (i+1)
  ·rcases hcase with hc|⟨hc1,hc2⟩
   ·omega
   ·have h1:aq hs β≤aq hs i:=R.mono hc1 (by omega)
    have:=j.JZ
    exact .inr (by omega)
  ·rw[r2 b hb]at h
   exact j.ext.nd b l h
 refine⟨ρ',F2,⟨?_,j.le,j.xX,j.vO,j.nT,j.DU,j.E5.imp id (fun⟨q1,q2⟩=>⟨q1,fun h=>h.elim q2 (fun e=>by rw[e,cb hi,hnw]at q1;cases q1)⟩),fun k h1 h2 h3=>.inl (j.qo k h1 h2 h3),fun k hk1 hk2=>.inl (j.pre k hk1 hk2),?_,j.BT,j.va,j.JZ,hr',?_,?_,?_,ext2,?_,?_,?_⟩⟩
 ·intro k o' hk' ho' e he hb
  rcases hk' with hk'|rfl
  ·exact .inl (j.closed k o' hk' ho' e he hb)
  ·exact .inl (hcl o' ho' e he hb)
 ·intro k hk1 hk2
  rcases hk2 with hk2|rfl
  ·exact j.post k hk1 hk2
  ·rw[cb hi];exact hnb
 ·intro b l h
  by_cases hb:aq hs i≤b∧b<aq hs (i+1)
  ·rcases hcase with hc|⟨hc1,hc2⟩
   ·omega
   ·exact .inr ⟨i,.inr rfl,hc1,hc2,hb.1,hb.2⟩
  ·rw[r2 b hb]at h
   exact vis1 b (j.gY b l h)
 ·intro b x l hb hbx hx hl
  rw[r2 b (hout b (.inl hb))]at hl
  exact(j.Ib b x l hb hbx hx hl).mono hk hFF (fc le1 (NV _)) (fun hv=>oldsame b l ⟨⟨x,fJ (.inl hb) hbx,hx⟩,hl,hv⟩)
 ·intro k b x l k1 k2 k3 k4 k5 hbx hx hl
  by_cases hki:k=i
  ·subst hki
   rw[r1 b k4 k5]at hl
   obtain⟨l2,h2,h3⟩:=d2.live b x (by rw[aV b k4 k5];exact hbx) hx
   rw[hl]at h2;cases h2
   exact h3.mono (fun _ _=>rfl) (fun _ h=>h) le2 (fun _=>rfl)
  ·have k1':S k:=k1.resolve_right hki
   have hv:gX hs S β μ b:=.inr ⟨k,k1',k2,k3,k4,k5⟩
   rw[r2 b (hout b hv)]at hl
   exact(j.J6 k b x l k1' k2 k3 k4 k5 hbx hx hl).mono hk hFF (fc le1 (NV _)) (fun hv'=>oldsame b l ⟨⟨x,fJ hv hbx,hx⟩,hl,hv'⟩)
 ·exact j.wj R hi hS hk hFF le1 (d1.mono (fun _ _=>rfl) (fun _ h=>h) le2) hdst
 ·cases o.dst with
  |none=>exact j.sz
  |some u=>simpa[Act.put]using j.sz
 ·have:(a.put o.dst val).defers=a.defers:=by cases o.dst<;>rfl
  rw[this]
  exact j.G7.ext ext'
theorem J.full(R:eV C rec f nt ops pl es hs out Ns)(j:J C nt ops pl es hs out Ns B S a w ρ F β μ γ)(hall:∀k,k<γ→(dr pl k).kind≠.pure→S k):μ=γ∧Gh (hs μ) (gX hs S β μ)=hs μ:=by
 have hμ:μ=γ:=by
  rcases j.E5 with h|⟨h1,h2⟩
  ·exact h
  ·rcases Oh μ γ with h|h
   ·obtain⟨rd,hk⟩:=cA.1 h1
    exact absurd (hall μ h (by rw[hk];simp)) h2
   ·exact Nat.le_antisymm j.xX h
 refine⟨hμ,?_⟩
 have hv:∀b,b<aq hs μ→gX hs S β μ b:=by
  intro b hb
  by_cases h0:b<aq hs β
  ·exact .inl h0
  ·have key:∀m,β+m≤μ→b<aq hs (β+m)→∃k,β≤k∧k<μ∧aq hs k≤b∧b<aq hs (k+1):=by
    intro m
    induction m with
    |zero=>intro _ h;exact absurd h h0
    |succ m ih=>
     intro h1 h2
     by_cases h3:b<aq hs (β+m)
     ·exact ih (by omega) h3
     ·exact⟨β+m,by omega,by omega,by omega,h2⟩
   obtain⟨k,k1,k2,k3,k4⟩:=key (μ-β) (by have:=j.le;omega) (by rwa [show β+(μ-β)=μ by have:=j.le;omega])
   refine .inr ⟨k,hall k (by omega) (fun hp=>?_),k1,k2,k3,k4⟩
   obtain⟨o,d,h⟩:=fK (pl:=pl) (i:=k) (by have:=j.vO;omega)
   rw[cb h]at hp
   have hl:=(R.gz h (by rw[hp];simp)).1
   rw[(R.ko.zT k o d h hp).2]at hl
   omega
 have:(Gh (hs μ) (gX hs S β μ)).bl=(hs μ).bl:=by
  apply Pk
  intro b
  cases hb:(hs μ).bl[b]? with
  |none=>
   rw[List.getElem?_eq_none_iff]at hb⊢
   rw[fH];exact hb
  |some x=>exact fJ (hv b (NT.1 hb).1) hb
 unfold Gh at this⊢
 simp only at this
 rw[this]
theorem qY(pl:List (ak×aU)):∀(m β:Nat),β+m=pl.length→∃γ,β≤γ∧γ≤pl.length∧(∀j,β≤j→j<γ→(dr pl j).kind≠.fC)∧(γ=pl.length∨(dr pl γ).kind=.fC)
 |0,β,h=>⟨β,NV _,by omega,fun j h1 h2=>by omega,.inl (by omega)⟩
 |m+1,β,h=>by
  by_cases hb:(dr pl β).kind=.fC
  ·exact⟨β,NV _,by omega,fun j h1 h2=>by omega,.inr hb⟩
  ·obtain⟨γ,h1,h2,h3,h4⟩:=qY pl m (β+1) (by omega)
   refine⟨γ,by omega,h2,fun j k1 k2=>?_,h4⟩
   by_cases e:j=β
   ·subst e;exact hb
   ·exact h3 j (by omega) k2
theorem pO(pl:List (ak×aU))(γ:Nat):∀(m β:Nat),β+m=γ→∃μ,β≤μ∧μ≤γ∧(∀j,β≤j→j<μ→cH (dr pl j)=false)∧(μ=γ∨cH (dr pl μ)=true)
 |0,β,h=>⟨β,NV _,by omega,fun j h1 h2=>by omega,.inl (by omega)⟩
 |m+1,β,h=>by
  cases hb:cH (dr pl β)with
  |true=>exact⟨β,NV _,by omega,fun j h1 h2=>by omega,.inr hb⟩
  |false=>
   obtain⟨μ,h1,h2,h3,h4⟩:=pO pl γ m (β+1) (by omega)
   refine⟨μ,by omega,h2,fun j k1 k2=>?_,h4⟩
   by_cases e:j=β
   ·subst e;exact hb
   ·exact h3 j (by omega) k2
theorem J.begin(R:eV C rec f nt ops pl es hs out Ns){B:iL}{S:Nat→Prop}{a:Act}{w:World}{ρ:Map}{F:Nat→Prop}{β:Nat}(hβ:β≤pl.length)
 (closed:∀(k:Nat) o,S k→ops.toList[k]?=some o→∀e∈o.after,Region.binds .any e=true→S e.on) (pre:∀j,j<β→(dr pl j).kind≠.pure→S j) (post:∀j,β≤j→S j→(dr pl j).kind=.pure)
 (BT:Ns β=aq hs β) (va:β<pl.length→(dr pl β).jf=0) (hr:HR C ρ F (hs β) w) (ext:Ext C B.ρ B.F B.H B.w ρ F (hs β) w) (eJ:∀t s m,W pl (es 0) out (aq hs) S t s m→VR w F (ρ.cut m) s (a.tmps.getD t undef))
 (sz:nt≤a.tmps.size) (mk:Marks ρ F (hs β) w B.lo a.defers):∃μ γ,J C nt ops pl es hs out Ns B S a w ρ F β μ γ:=by
 obtain⟨γ,h1,h2,h3,h4⟩:=qY pl (pl.length-β) β (by omega)
 obtain⟨μ,n1,n2,n3,n4⟩:=pO pl γ (γ-β) β (by omega)
 obtain⟨X,g1⟩:=R.Cp n1 (by omega) (fun j q1 q2=>h3 j q1 (by omega)) n3
 have novis:∀k,S k→β≤k→k<μ→aq hs (k+1)=aq hs k:=by
  intro k k1 k2 k3
  obtain⟨o,d,h⟩:=fK (pl:=pl) (i:=k) (by omega)
  have hp:=post k k2 k1
  rw[cb h]at hp
  have hl:=(R.gz h (by rw[hp];simp)).1
  rw[(R.ko.zT k o d h hp).2]at hl
  omega
 have hv:∀b,gX hs S β μ b→b<aq hs β:=by
  intro b h
  rcases h with h|⟨k,k1,k2,k3,k4,k5⟩
  ·exact h
  ·have:=novis k k1 k2 k3;omega
 have hb:∀(b:Nat) x,x.live=true→((Gh (hs μ) (gX hs S β μ)).bl[b]?=some x↔(hs β).bl[b]?=some x):=by
  intro b x hx
  constructor
  ·intro h
   obtain⟨q1,q2⟩:=jx h hx
   rw[g1]at q2
   rwa [On (hv b q1)]at q2
  ·intro h
   have hlt:=(NT.1 h).1
   refine fJ (.inl hlt) ?_
   rw[g1]
   simp only
   rw[On hlt];exact h
 have hlen:(hs β).bl.length≤(Gh (hs μ) (gX hs S β μ)).bl.length:=by rw[fH];exact R.mono n1 (by omega)
 obtain⟨p1,p2⟩:=hr.pad hb hlen (by simp[Gh,g1]) (by simp[Gh,g1])
 refine⟨μ,γ,⟨closed,n1,n2,h2,h3,h4,n4.imp id (fun hw=>⟨hw,fun hS=>by
  have:=post μ n1 hS
  obtain⟨rd,hk⟩:=cA.1 hw
  rw[hk]at this;cases this⟩),fun j k1 k2 k3=>(by rw[n3 j k1 k2]at k3;cases k3),pre,fun j k1 k2=>by rw[post j k1 k2];simp,BT,va,ext.ln,p1,fun b l h=>.inl (hr.gY b l h),fun b x l hb' hbx hx hl=>?_,fun k b x l k1 k2 k3 k4 k5=>?_,ext.trans p2,eJ,sz,mk.ext p2.toExt0⟩⟩
 ·rw[g1]at hbx
  simp only at hbx
  rw[On hb']at hbx
  obtain⟨l2,q2,q3⟩:=hr.live b x hbx hx
  rw[hl]at q2;cases q2
  exact q3.mono (fun _ _=>rfl) (fun _ h=>h) (fun b1 l1 h=>⟨l1,by rw[ie (hr.gY b1 l1 h)];exact h,.inl rfl⟩) (fun _=>rfl)
 ·have:=novis k k1 k2 k3;omega
theorem J.fC(R:eV C rec f nt ops pl es hs out Ns)(j:J C nt ops pl es hs out Ns B S a w ρ F β μ γ){i:Nat}{o:ak}{d:aU}(hi:pl[i]?=some (o,d))(hS:¬S i)
 (hcl:∀o,ops.toList[i]?=some o→∀e∈o.after,Region.binds .any e=true→S e.on) (hb:d.kind=.fC) (hdst:∀d,o.dst=some d→d<nt) :
 HR C ρ F (hs i) w∧∀val w',cN C ρ F (hs i) w (out i) (hs (i+1)) val w'→∃ρ' F' β' μ' γ',J C nt ops pl es hs out Ns B (fun k=>S k∨k=i) (a.put o.dst val) w' ρ' F' β' μ' γ':=by
 have hlt:=(NT.1 hi).1
 have bf:=j.before R hcl
 have bh:=j.behind R hS
 have hdi:(dr pl i).kind=.fC:=by rw[cb hi];exact hb
 have lt:=sq R.ko.yY
 have h1:β≤i:=by
  rcases Oh i β with h|h
  ·exact absurd (j.pre i h (by rw[hdi];simp)) hS
  ·exact h
 have hall:∀k,k<i→(dr pl k).kind≠.pure→S k:=by
  intro k hk hp
  rcases R.ko.fC i k hlt (by omega) hdi hp with h|h|h
  ·omega
  ·have:=lt k i h;omega
  ·exact bf k h
 have h2:i=γ:=by
  rcases PH i γ with h|h|h
  ·exact absurd hdi (j.nT i h1 h)
  ·exact h
  ·rcases j.DU with h'|h'
   ·omega
   ·exact absurd h' (j.post γ (O0 j.le j.xX) (hall γ h (by rw[h'];simp)))
 subst h2
 obtain⟨hμ,hG⟩:=j.full R hall
 replace hμ:=hμ.symm
 subst hμ
 have hr:=j.hr
 rw[hG]at hr
 refine⟨hr,fun val w' hd=>?_⟩
 obtain⟨ρ2,F2,d1,d2,d3⟩:=hd
 have hext:=j.ext
 rw[hG]at hext
 have hmk:=j.G7
 rw[hG]at hmk
 obtain⟨μ',γ',h⟩:=J.begin R (B:=B) (S:=fun k=>S k∨k=i) (a:=a.put o.dst val) (w:=w') (ρ:=ρ2) (F:=F2) (β:=i+1) (by omega)
  (fun k o' hk' ho' e he hbd=>by
   rcases hk' with hk'|rfl
   ·exact .inl (j.closed k o' hk' ho' e he hbd)
   ·exact .inl (hcl o' ho' e he hbd))
  (fun k hk hp=>by
   by_cases e:k=i
   ·exact .inr e
   ·exact .inl (hall k (by omega) hp))
  (fun k hk hSk=>by
   have hSk:S k:=hSk.resolve_right (by omega)
   apply PC
   intro hp
   have hkl:k<pl.length:=by
    rcases Oh k pl.length with h|h
    ·exact h
    ·exact absurd (by unfold dr;rw[Oq h];rfl) hp
   rcases R.ko.fC i k hlt hkl hdi hp with h|h|h
   ·omega
   ·exact bh k hSk h
   ·have:=lt i k h;omega)
  (by rw[R.tr.nx i o d hi];unfold eQ;rw[hb])
  (fun h=>by
   rw[R.ko.Az i h,gE.2 hdi];rfl)
  d2 (hext.trans d3)
  (j.wj R hi hS (d3.keeps hr) d3.fO d3.le (d1.mono (fun _ _=>rfl) (fun _ h=>h) (fun b l h=>⟨l,by rw[ie (d2.gY b l h)];exact h,.inl rfl⟩)) hdst)
  (by cases o.dst with
   |none=>exact j.sz
   |some u=>simpa[Act.put]using j.sz)
  (by
   have:(a.put o.dst val).defers=a.defers:=by cases o.dst<;>rfl
   rw[this]
   exact hmk.ext d3.toExt0)
 exact⟨ρ2,F2,_,μ',γ',h⟩
theorem BK{H:ae}{vis:Nat→Prop}{b:Nat}(hv:vis b):(Gh H vis).bl[b]?=H.bl[b]?:=by
 unfold Gh
 cases h:H.bl[b]? with
 |none=>simp[h]
 |some x=>simp[h,hv]
open Classical in
theorem xM{H H':ae}{vis:Nat→Prop}{b r:Nat}{y:aj}(hv:vis b)(h:bT H b y r=some H'):bT (Gh H vis) b y r=some (Gh H' vis):=by
 unfold bT at h⊢
 replace h:=af h
 obtain⟨h1,h2⟩:=h
 have h3:(decide ((Gh H vis).ro≤b)&&decide (b<(Gh H vis).bl.length))=true:=by rw[fH];exact h1
 rw[h3]
 cases h2
 simp only[N6,N1]
 have:(Gh H vis).bl.set b y=(H.bl.set b y).mapIdx (fun b x=>if vis b then x else aj.dead):=by
  apply Pk
  intro c
  by_cases e:c=b
  ·subst e
   simp only[PY,fH,QB,NZ]
   by_cases hl:c<H.bl.length
   ·simp[hl,hv]
   ·simp[hl]
  ·rw[N7 (Ne.symm e),QB,N7 (Ne.symm e)]
   unfold Gh
   rw[QB]
 rw[this]
 rfl
theorem xt{H H':ae}{vis:Nat→Prop}{n b v i o:Nat}{x:SV}(hv:vis b)(h:df n H x (.ptr b v i o)=some H'):df n (Gh H vis) x (.ptr b v i o)=some (Gh H' vis):=by
 have hg:az (Gh H vis) b=az H b:=BK hv
 unfold df at h⊢
 simp only[NS]at h⊢
 obtain⟨xs,h1,h⟩:=h
 refine⟨xs,h1,?_⟩
 rw[hg]
 replace h:=af h
 obtain⟨h2,h⟩:=h
 rw[h2]
 simp only[N6]
 split at h
 ·replace h:=af h
  rw[h.1];exact xM hv h.2
 ·replace h:=af h
  obtain⟨h3,h⟩:=h
  rw[h3]
  simp only[N6]
  split at h
  ·replace h:=af h
   rw[h.1];exact xM hv h.2
  ·cases h
 ·cases h
theorem J.place(R:eV C rec f nt ops pl es hs out Ns)(j:J C nt ops pl es hs out Ns B S a w ρ F β μ γ){i:Nat}{o:ak}{d:aU}(hi:pl[i]?=some (o,d))(hS:¬S i)
 (hcl:∀o,ops.toList[i]?=some o→∀e∈o.after,Region.binds .any e=true→S e.on) (hp:d.kind≠.pure) (hb:d.kind≠.fC):β≤i∧i<γ∧(cH d=true→i=μ)∧(cH d=false→i<μ):=by
 have hlt:=(NT.1 hi).1
 have bf:=j.before R hcl
 have bh:=j.behind R hS
 have lt:=sq R.ko.yY
 have hdi:dr pl i=d:=cb hi
 have hβ:β≤i:=by
  rcases Oh i β with h|h
  ·exact absurd (j.pre i h (by rw[hdi];exact hp)) hS
  ·exact h
 have hγ:i<γ:=by
  rcases Oh i γ with h|h
  ·exact h
  ·exfalso
   rcases j.DU with h'|h'
   ·omega
   ·have hne:γ≠i:=fun e=>by rw[e,hdi]at h';exact hb h'
    rcases R.ko.fC γ i (by omega) hlt h' (by rw[hdi];exact hp)with h1|h1|h1
    ·exact hne h1
    ·exact absurd h' (j.post γ (O0 j.le j.xX) (bf γ h1))
    ·have:=lt γ i h1;omega
 refine⟨hβ,hγ,fun hw=>?_,fun hw=>?_⟩
 ·rcases PH i μ with h|h|h
  ·exact absurd (j.qo i hβ h (by rw[hdi];exact hw)) hS
  ·exact h
  ·rcases j.E5 with h'|⟨h1,h2⟩
   ·omega
   ·exact absurd (bf μ (R.ko.JC μ i (by omega) hlt h1 h (by rw[hdi];exact hp))) h2
 ·rcases PH i μ with h|h|h
  ·exact h
  ·rcases j.E5 with h'|⟨h1,h2⟩
   ·omega
   ·rw[←h,hdi,hw]at h1;cases h1
  ·rcases j.E5 with h'|⟨h1,h2⟩
   ·omega
   ·exact absurd (bf μ (R.ko.JC μ i (by omega) hlt h1 h (by rw[hdi];exact hp))) h2
theorem eV.E6(R:eV C rec f nt ops pl es hs out Ns){β i b:Nat}(hβ:β≤i)(hi:i≤pl.length)(hb:∀m,β≤m→m<i→(dr pl m).kind≠.fC)(h0:¬b<aq hs β)(h:b<aq hs i) :
 ∃k,β≤k∧k<i∧aq hs k≤b∧b<aq hs (k+1)∧(dr pl k).kind=.kn∧b<aq hs k+(dr pl k).sy:=by
 have key:∀m,β+m≤i→b<aq hs (β+m)→∃k,β≤k∧k<i∧aq hs k≤b∧b<aq hs (k+1):=by
  intro m
  induction m with
  |zero=>intro _ h;exact absurd h h0
  |succ m ih=>
   intro h1 h2
   by_cases h3:b<aq hs (β+m)
   ·exact ih (by omega) h3
   ·exact⟨β+m,by omega,by omega,by omega,h2⟩
 obtain⟨k,k1,k2,k3,k4⟩:=key (i-β) (by omega) (by rwa [show β+(i-β)=i by omega])
 obtain⟨ok,dk,hk⟩:=fK (pl:=pl) (i:=k) (by omega)
 have hnbk:dk.kind≠.fC:=by have:=hb k k1 k2;rwa [cb hk]at this
 have hl:=(R.gz hk hnbk).1
 refine⟨k,k1,k2,k3,k4,?_,by rw[cb hk];omega⟩
 rw[cb hk]
 cases hkk:dk.kind with
 |fC=>exact absurd hkk hnbk
 |pure=>have:=(R.ko.zT k ok dk hk hkk).2;omega
 |wr rd=>
  have:=R.ko.La k (by omega) (by rw[cb hk];exact cA.2 ⟨rd,hkk⟩)
  rw[cb hk]at this;omega
 |kn=>rfl
theorem J.seen(R:eV C rec f nt ops pl es hs out Ns)(j:J C nt ops pl es hs out Ns B S a w ρ F β μ γ){i b:Nat}{o:ak}{d:aU}(hi:pl[i]?=some (o,d))(hS:¬S i)
 (hcl:∀o,ops.toList[i]?=some o→∀e∈o.after,Region.binds .any e=true→S e.on) (hd:d.kind=.kn∨cH d=true) (hβ:β≤i) (hiμ:i≤μ) (hb:b<aq hs i) (hh:∀m∈d.ep,b≠Ns i+m):gX hs S β μ b∧gX hs S β i b:=by
 have hlt:=(NT.1 hi).1
 have bf:=j.before R hcl
 have hnb:∀g,β≤g→g<i→(dr pl g).kind≠.fC:=fun g h1 h2=>j.nT g h1 (by have:=j.xX;omega)
 by_cases h0:b<aq hs β
 ·exact⟨.inl h0,.inl h0⟩
 ·obtain⟨k,k1,k2,k3,k4,k5,k6⟩:=R.E6 hβ (by omega) hnb h0 hb
  have hSk:S k:=by
   rcases R.ko.ep i hlt (by rw[cb hi];exact hd) k k2 k5 with⟨m,m1,m2,m3⟩|h|h
   ·exact absurd m3 (hnb m (by omega) m2)
   ·exact bf k h
   ·exfalso
    have hoff:=R.jf (j.va (by omega)) (k-β) (fun m h1 h2=>hnb m h1 (by omega)) (by omega)
    rw[show β+(k-β)=k by omega]at hoff
    have hNs:Ns i=aq hs β:=by rw[R.HA hβ (by omega) hnb,j.BT]
    have hoff':aq hs k=aq hs β+(dr pl k).jf:=hoff
    have:=h (b-aq hs k) (by omega)
    rw[cb hi]at this
    exact hh _ this (by rw[hNs];omega)
  exact⟨.inr ⟨k,hSk,k1,by omega,k3,k4⟩,.inr ⟨k,hSk,k1,k2,k3,k4⟩⟩
theorem J.wr(R:eV C rec f nt ops pl es hs out Ns)(j:J C nt ops pl es hs out Ns B S a w ρ F β μ γ){i:Nat}{o:ak}{d:aU}{rd:List (bj×Nat)}(hi:pl[i]?=some (o,d))(hS:¬S i)
 (hcl:∀o,ops.toList[i]?=some o→∀e∈o.after,Region.binds .any e=true→S e.on) (hk:d.kind=.wr rd) (hdst:∀d,o.dst=some d→d<nt) :
 ∃n p x V V',o.op=.store n p x∧mG (es i) o.g∧HR C ρ F V w∧df n V (ev (es i) x) (ev (es i) p)=some V'∧
  ∀w',HR C ρ F V' w'→Ext C ρ F V w ρ F V' w'→tO C ρ F V V' w w' (ev (es i) x).refs→∃μ',J C nt ops pl es hs out Ns B (fun k=>S k∨k=i) (a.put o.dst undef) w' ρ F β μ' γ:=by
 have hlt:=(NT.1 hi).1
 have hw:cH d=true:=cA.2 ⟨rd,hk⟩
 have bf:=j.before R hcl
 have bh:=j.behind R hS
 obtain⟨hβ,hγ,hμ,_⟩:=j.place R hi hS hcl (by rw[hk];simp) (by rw[hk];simp)
 have hμ:=hμ hw
 subst hμ
 obtain⟨n,p,x,c0,hwt,hrefs,htgt,_,hst,hout,hN⟩:=R.wr hi hk
 have hNs:Ns i=aq hs β:=by rw[R.HA hβ (by omega) (fun m h1 h2=>j.nT m h1 (by omega)),j.BT]
 rw[hNs]at hrefs
 obtain⟨b,v,ii,oo,xs,y0,y1,hp,hxs,hxn,hb0,hl0,hl1,hsh,hset0,_⟩:=e8 hst
 have hbl:b<aq hs i:=(NT.1 hb0).1
 have hvis:gX hs S β i b:=(j.seen R hi hS hcl (.inr hw) hβ (NV _) hbl (fun m hm e=>by
  rw[hp]at htgt
  simp only[yD]at htgt
  have:=N5.1 htgt m hm
  simp only[Ot,Pr]at this
  exact this e.symm)).2
 have hstV:df n (Gh (hs i) (gX hs S β i)) (ev (es i) x) (ev (es i) p)=some (Gh (hs (i+1)) (gX hs S β i)):=by
  rw[hp]at hst ⊢;exact xt hvis hst
 refine⟨n,p,x,_,_,c0,hwt,j.hr,hstV,fun w' q1 q2 q3=>?_⟩
 have hln:aq hs (i+1)=aq hs i:=R.sk hi hw
 obtain⟨μ,n1,n2,n3,n4⟩:=pO pl γ (γ-(i+1)) (i+1) (by omega)
 obtain⟨X,g1⟩:=R.Cp n1 (by have:=j.vO;omega) (fun m h1 h2=>j.nT m (by omega) (by omega)) n3
 have late:∀k,S k→i<k→k<pl.length→(dr pl k).kind=.pure:=by
  intro k h1 h2 h3
  apply PC
  intro hp'
  exact bh k h1 (R.ko.JC i k hlt h3 (by rw[cb hi];exact hw) h2 hp')
 have nob:∀k,k<μ→(S k∨k=i)→β≤k→i≤k→aq hs (k+1)=aq hs k:=by
  intro k k0 k1 k2 k3
  rcases Oh i k with h|h
  ·have hkl:k<pl.length:=by have:=j.vO;omega
   have hp':=late k (k1.resolve_right (by omega)) h hkl
   obtain⟨ok,dk,hk'⟩:=fK hkl
   rw[cb hk']at hp'
   have:=(R.gz hk' (by rw[hp'];simp)).1
   rw[(R.ko.zT k ok dk hk' hp').2]at this
   omega
  ·have:k=i:=by omega
   subst this;exact hln
 have vis2:∀b,gX hs (fun k=>S k∨k=i) β μ b→gX hs S β i b:=by
  intro b h
  rcases h with h|⟨k,k1,k2,k3,k4,k5⟩
  ·exact .inl h
  ·rcases Oh k i with h|h
   ·exact .inr ⟨k,k1.resolve_right (by omega),k2,h,k4,k5⟩
   ·have:=nob k k3 k1 k2 h;omega
 have vis1:∀b,gX hs S β i b→gX hs (fun k=>S k∨k=i) β μ b:=by
  intro b h
  rcases h with h|⟨k,k1,k2,k3,k4,k5⟩
  ·exact .inl h
  ·exact .inr ⟨k,.inl k1,k2,by omega,k4,k5⟩
 have visl:∀b,gX hs S β i b→b<aq hs (i+1):=by
  intro b h
  rw[hln]
  rcases h with h|⟨k,k1,k2,k3,k4,k5⟩
  ·exact OP h (R.mono hβ (by omega))
  ·exact OP k5 (R.mono k3 (by omega))
 have hat:∀b,b<aq hs (i+1)→(hs μ).bl[b]?=(hs (i+1)).bl[b]?:=fun b hb=>by
  rw[g1]
  simp only
  rw[On hb]
 obtain⟨p1,p2⟩:=q1.pad (H':=Gh (hs μ) (gX hs (fun k=>S k∨k=i) β μ)) (fun b x hx=>by
  constructor
  ·intro h
   obtain⟨u1,u2⟩:=jx h hx
   have:=vis2 b u1
   rw[hat b (visl b this)]at u2
   exact fJ this u2
  ·intro h
   obtain⟨u1,u2⟩:=jx h hx
   exact fJ (vis1 b u1) (by rw[hat b (visl b u1)];exact u2)) (by rw[fH,fH];exact R.mono n1 (by have:=j.vO;omega)) (by simp[Gh,g1]) (by simp[Gh,g1])
 have q2':=q2.trans p2
 have hold:∀(b:Nat) y,gX hs S β i b→(hs μ).bl[b]?=some y→y.live=true→∃z,(hs i).bl[b]?=some z∧z.live=true∧(Gh (hs i) (gX hs S β i)).bl[b]?=some z∧(Gh (hs (i+1)) (gX hs S β i)).bl[b]?=some y:=by
  intro b y hv hy hyl
  rw[hat b (visl b hv)]at hy
  have hsh2:bL (hs i).bl (hs (i+1)).bl:=by rw[(gA hset0).2.2.1];exact bL.set hb0 hsh
  rcases hsh2.get b with⟨_,h⟩|⟨z,y',h1,h2,h3⟩
  ·rw[h]at hy;cases hy
  ·rw[h2]at hy;cases hy
   exact⟨z,h1,by rw[qh h3];exact hyl,fJ hv h1,fJ hv h2⟩
 refine⟨μ,⟨fun k o' hk' ho' e he hbd=>?_,by omega,n2,j.vO,j.nT,j.DU,n4.imp id (fun h=>⟨h,fun hs'=>?_⟩),fun k h1 h2 h3=>?_,fun k h1 h2=>.inl (j.pre k h1 h2),fun k h1 h2=>?_,j.BT,j.va,j.JZ,p1,fun b l h=>vis1 b (j.gY b l h),
  fun b y l hb hy hyl hl=>?_,fun k b y l k1 k2 k3 k4 k5 hy hyl hl=>?_,j.ext.trans q2',?_,?_,?_⟩⟩
 ·rcases hk' with hk'|rfl
  ·exact .inl (j.closed k o' hk' ho' e he hbd)
  ·exact .inl (hcl o' ho' e he hbd)
 ·rcases hs' with h1|h1
  ·have hμl:μ<pl.length:=by
    rcases Oh μ pl.length with h2|h2
    ·exact h2
    ·unfold dr at h;rw[Oq h2]at h;cases h
   have:=late μ h1 (by omega) hμl
   obtain⟨rd',h'⟩:=cA.1 h
   rw[h']at this;cases this
  ·omega
 ·rcases PH k i with h|h|h
  ·exact .inl (j.qo k h1 h h3)
  ·exact .inr h
  ·rw[n3 k h h2]at h3;cases h3
 ·rcases h2 with h2|rfl
  ·exact j.post k h1 h2
  ·rw[cb hi,hk];simp
 ·obtain⟨z,z1,z2,z3,z4⟩:=hold b y (.inl hb) hy hyl
  exact q3 (aq hs β) hrefs b z y l z3 z2 z4 hl (j.Ib b z l hb z1 z2 hl)
 ·rcases Oh k i with h|h
  ·have hSk:S k:=k1.resolve_right (by omega)
   obtain⟨z,z1,z2,z3,z4⟩:=hold b y (.inr ⟨k,hSk,k2,h,k4,k5⟩) hy hyl
   have hle:aq hs β≤aq hs (k+1):=R.mono (by omega) (by omega)
   exact q3 (aq hs (k+1)) (O0 hrefs hle) b z y l z3 z2 z4 hl (j.J6 k b z l hSk k2 h k4 k5 z1 z2 hl)
  ·have:=nob k k3 k1 k2 h;omega
 ·exact j.wj R hi hS (q2.keeps j.hr) (fun _ h=>h) (Map.le_refl _) (by rw[hout];exact .undef _) hdst
 ·cases o.dst with
  |none=>exact j.sz
  |some u=>simpa[Act.put]using j.sz
 ·have:(a.put o.dst undef).defers=a.defers:=by cases o.dst<;>rfl
  rw[this]
  exact j.G7.ext q2'.toExt0
theorem lO(N:Nat):∀(ds:List Nat) (l:List aj),(cy N ds l).length=l.length
 |[],_=>rfl
 |d::ds,l=>by
  have:=lO N ds (l.set (N+d) .dead)
  unfold cy at this⊢
  simpa using this
theorem j9(N:Nat):∀(ds:List Nat) (l:List aj) (b:Nat) (x:aj),(cy N ds l)[b]?=some x→x.live=true→l[b]?=some x∧∀d∈ds,b≠N+d
 |[],l,b,x,h,_=>⟨h,by simp⟩
 |d::ds,l,b,x,h,hx=>by
  obtain⟨h1,h2⟩:=j9 N ds (l.set (N+d) .dead) b x (by unfold cy at h ⊢;simpa using h) hx
  have hne:b≠N+d:=by
   intro e
   rw[←e]at h1
   have hlt:=(NT.1 h1).1
   simp at hlt
   simp[hlt]at h1
   subst h1;cases hx
  rw[N7 (Ne.symm hne)]at h1
  exact⟨h1,fun d' hd'=>by
   rcases O9.1 hd' with rfl|hd'
   ·exact hne
   ·exact h2 d' hd'⟩
theorem nM(N:Nat):∀(ds:List Nat) (l:List aj) (b:Nat),(∀d∈ds,b≠N+d)→(cy N ds l)[b]?=l[b]?
 |[],_,_,_=>rfl
 |d::ds,l,b,h=>by
  have:=nM N ds (l.set (N+d) .dead) b (fun d' hd'=>h d' (OW _ hd'))
  unfold cy at this⊢
  rw[Q7,this,N7 (Ne.symm (h d (Oi ..)))]
theorem mE{o:ak}{e:Env}{tmps:Array Value}{F:Nat→Prop}{ρ:Map}{w:World}(h:∀t∈br o,VR w F ρ (get e t) (tmps.getD t undef)):ER w F ρ (eo (br o) e) tmps:=by
 intro t
 rw[gO]
 cases hm:(br o).contains t with
 |false=>exact .undef _
 |true=>exact h t (by simpa using hm)
theorem jW{o:ak}{e:Env}{H:ae}:ai rec (eo (br o) e) H o.op=ai rec e H o.op:=
 lX (fun t ht=>by rw[gO];simp[ht])
theorem J.step(hrec:eP C rec)(R:eV C rec f nt ops pl es hs out Ns)(j:J C nt ops pl es hs out Ns B S a w ρ F β μ γ){i:Nat}(hi:i<pl.length)(hS:¬S i)
 (hcl:∀o,ops.toList[i]?=some o→∀e∈o.after,Region.binds .any e=true→S e.on) {ro:Option Nat} {n:Nat} {Q:Exit→Act→World→Prop} {K:Act→World→Prop}
 (hK:∀a' w' ρ' F' β' μ' γ',J C nt ops pl es hs out Ns B (fun k=>S k∨k=i) a' w' ρ' F' β' μ' γ'→K a' w'):wpOpIn (WF ro) n C.P ops Q i K a w:=by
 obtain⟨o,d,ho⟩:=fK hi
 obtain⟨op,c0,hco⟩:=R.c0 i o d ho
 unfold wpOpIn
 simp only[c0]
 unfold fX at hco
 replace hco:=dV hco
 obtain⟨hdst,hco⟩:=hco
 have hdst':∀d,op.dst=some d→d<nt:=fun d hd=>by rw[hd]at hdst;simpa using hdst
 have hslots:=j.Er R ho hS hcl
 have go:∀(hd:op.dst=o.dst) (hopo:o.op=pY (lk C.cU f op.dst) ((lQ C.P op.op).getD .bad)),bR rec (Ns i) d (es i) (hs i) o.op=some (out i,hs (i+1))→op.wpIn (WF ro) n C.P a w K Q:=by
  intro hd hopo hst
  unfold bR at hst
  split at hst
  ·rename_i hk
   obtain⟨g1,g2⟩:=R.ko.zT i o d ho hk
   obtain⟨g3,g4⟩:=kK g1 hst
   have hr:=j.sub R (i:=i) (V:={bl:=List.replicate (aq hs i) .dead,bC:=[],ro:=aq hs i}) (by omega) (by simp) (fun b x hb hx=>by
    simp only[Qc]at hb
    split at hb
    ·cases hb;cases hx
    ·cases hb)
   have hs1:=g4 {bl:=List.replicate (aq hs i) .dead,bC:=[],ro:=aq hs i}
   rw[←jW]at hs1
   refine gF hrec hopo hs1 hr (mE hslots) (fun val w' hdn=>?_)
   have hln:aq hs (i+1)=aq hs i:=by unfold aq;rw[g3]
   obtain⟨ρ',F',h⟩:=j.quiet R ho hS hcl (by rw[hk];simp) (by unfold cH;rw[hk]) (by simp) rfl (by simp[hln]) rfl (fun b h1 h2=>by omega) (.inl hln) hdn (fun d h=>hdst' d (by rw[hd];exact h))
   rw[hd]
   exact hK _ _ _ _ _ _ _ h
  ·rename_i hk
   simp only[NS]at hst
   obtain⟨r,h1,h2⟩:=hst
   replace h2:=af h2
   obtain⟨_,h2⟩:=h2
   cases h2
   obtain⟨hr,hfin⟩:=j.fC R ho hS hcl hk (fun d h=>hdst' d (by rw[hd];exact h))
   rw[←jW]at h1
   refine gF hrec hopo h1 hr (mE (fun t ht=>(hslots t ht).mono (fun _ _=>rfl) (fun _ h=>h) (Map.pK _ _))) (fun val w' hdn=>?_)
   obtain⟨ρ',F',β',μ',γ',h⟩:=hfin val w' hdn
   rw[hd]
   exact hK _ _ _ _ _ _ _ h
  ·rename_i hk
   simp only[NS]at hst
   obtain⟨r,h1,h2⟩:=hst
   replace h2:=af h2
   obtain⟨h3,h2⟩:=h2
   simp only[NX,O1,List.isEmpty_iff]at h3
   obtain⟨h3,h4⟩:=h3
   simp only[N1,N3]at h2
   obtain⟨h5,h6⟩:=h2
   obtain⟨s,V'⟩:=r
   simp only at h1 h3 h4 h5 h6
   subst h5
   have hdi:(dr pl i).kind=.kn:=by rw[cb ho];exact hk
   have hnw:cH d=false:=by unfold cH;rw[hk]
   obtain⟨hβ,hγ,_,hμ⟩:=j.place R ho hS hcl (by rw[hk];simp) (by rw[hk];simp)
   have hμ:=hμ hnw
   have bh:=j.behind R hS
   have hlM:=j.xX
   have hlN:=j.vO
   have hnb:∀g,β≤g→g<μ→(dr pl g).kind≠.fC:=fun g h1 h2=>j.nT g h1 (by omega)
   have hln:aq hs (i+1)=aq hs i+d.sy:=by
    unfold aq;rw[←h6];simp;omega
   have hsz:aq hs i≤aq hs μ:=R.mono (by omega) (by omega)
   have hnow:∃V1',ai rec (es i) {bl:=cy (Ns i) d.ep ((hs μ).bl.take (aq hs i)),bC:=[],ro:=aq hs i} o.op=some (out i,V1')∧V1'.bl.length=aq hs (i+1)∧V1'.bC=[]∧
    ∀b,aq hs i≤b→b<aq hs (i+1)→V1'.bl[b]?=(hs (i+1)).bl[b]?:=by
    have hbl1:∀V0:List aj,V0.length=aq hs i→∀b,aq hs i≤b→V'.bl[b]?=(hs (i+1)).bl[b]?:=fun V0 _ b h1=>by
     rw[←h6]
     simp only
     rw[Ol h1,Ou]
     congr 1
     have:aq hs i=(hs i).bl.length:=rfl
     omega
    by_cases hno:∀m,i<m→m<μ→cH (dr pl m)=false
    ·obtain⟨X,hX⟩:=R.Cp (show i≤μ by omega) (by omega) (fun m h1 h2=>hnb m (by omega) h2) (fun m h1 h2=>by
      rcases Oh i m with h|h
      ·exact hno m h h2
      ·have:m=i:=by omega
       subst this;rw[cb ho];exact hnw)
     have:(hs μ).bl.take (aq hs i)=(hs i).bl:=by
      rw[hX]
      simp only
      exact List.take_left' rfl
     rw[this]
     exact⟨V',h1,by rw[h3,hln],h4,fun b h1 _=>hbl1 (hs i).bl rfl b h1⟩
    ·have hind:∀m,i<m→m<μ→cH (dr pl m)=true→lD o.op=true∨lJ pl i m o.op (dr pl m)=true:=fun m m1 m2 m3=>by
      rcases R.ko.ind i m (o,d) (by omega) m1 m3 hdi ho with⟨g,g1,g2,g3⟩|h|h
      ·exact absurd g3 (hnb g (by omega) (by omega))
      ·exact absurd h (bh m (j.qo m (by omega) m2 m3))
      ·exact h
     have hsh:bL (cy (Ns i) d.ep (hs i).bl) (cy (Ns i) d.ep ((hs μ).bl.take (aq hs i))):=
      (R.shape (show i≤μ by omega) (by omega) (fun m h1 h2=>hnb m (by omega) h2)).ep _ _
     have hlen0:(cy (Ns i) d.ep (hs i).bl).length=aq hs i:=lO _ _ _
     cases hbo:lD o.op with
     |true=>
      obtain⟨X,x1,x2⟩:=wv hbo (V0:={bl:=cy (Ns i) d.ep (hs i).bl,bC:=[],ro:=(hs i).bl.length})
       (V1:={bl:=cy (Ns i) d.ep ((hs μ).bl.take (aq hs i)),bC:=[],ro:=aq hs i}) hsh h1
      refine⟨_,x2,?_,rfl,fun b b1 b2=>?_⟩
      ·have:V'.bl.length=(cy (Ns i) d.ep (hs i).bl).length+X.length:=by rw[x1];simp
       simp only[NO]
       rw[←hsh.len]
       have hli:aq hs i=(hs i).bl.length:=rfl
       omega
      ·rw[←hbl1 (hs i).bl rfl b b1,x1]
       simp only
       rw[Ol (by rw[←hsh.len];omega),Ol (by omega),hsh.len]
     |false=>
      have hrd:∀m,i<m→m<μ→cH (dr pl m)=true→lJ pl i m o.op (dr pl m)=true:=fun m m1 m2 m3=>by
       rcases hind m m1 m2 m3 with h|h
       ·rw[hbo]at h;cases h
       ·exact h
      have⟨m0,m1,m2,m3⟩:∃m,i<m∧m<μ∧cH (dr pl m)=true:=by
       apply PC
       intro hn
       exact hno (fun m m1 m2=>by
        cases hw:cH (dr pl m)with
        |false=>rfl
        |true=>exact absurd ⟨m,m1,m2,hw⟩ hn)
      obtain⟨ag,z,u,rd0,c0,_,_,_⟩:=mr (hrd m0 m1 m2 m3)
      rw[c0]at h1
      have h1':(cw ag z {bl:=cy (Ns i) d.ep (hs i).bl,bC:=[],ro:=(hs i).bl.length} (get (es i) u)).map (fun v=>(v,({bl:=cy (Ns i) d.ep (hs i).bl,bC:=[],ro:=(hs i).bl.length}:ae)))=some (out i,V'):=h1
      simp only[NP,N3]at h1'
      obtain⟨s',l1,e1,l2⟩:=h1'
      rw[e1]at l1
      have hnal:aq hs (i+1)=aq hs i:=by
       have:V'.bl.length=aq hs i:=by rw[←l2];exact hlen0
       have hli:aq hs i=(hs i).bl.length:=rfl
       omega
      have hidden:∀b v ii oo,get (es i) u=.ptr b v ii oo→(∃x,(hs i).bl[b]?=some x)∧∀m∈d.ep,b≠Ns i+m:=fun b v ii oo hp=>by
       rw[hp]at l1
       obtain⟨x,q1,q2⟩:=oW l1
       obtain⟨q3,q4⟩:=j9 _ _ _ _ _ q1 q2
       exact⟨⟨x,q3⟩,q4⟩
      have l3:cw ag z (hs i) (get (es i) u)=some (out i):=jU l1 (fun b v ii oo hp=>by
       obtain⟨_,q⟩:=hidden b v ii oo hp
       exact nM _ _ (hs i).bl _ q)
      have l4:cw ag z (hs μ) (get (es i) u)=some (out i):=R.Fy (show i≤μ by omega) (by omega) (fun m h1 h2=>hnb m (by omega) h2) l3 (fun m om dm n a' x h1 h2 hm hwm hopm=>by
       have him:i<m:=by
        rcases Oh i m with h|h
        ·exact h
        ·have:m=i:=by omega
         subst this
         rw[ho]at hm;cases hm
         rw[hnw]at hwm;cases hwm
       obtain⟨ag',z',u',rd,hop',hkd,hmem,hslot⟩:=mr (hrd m him h2 (by rw[cb hm];exact hwm))
       rw[c0]at hop'
       cases hop'
       rw[cb hm]at hkd
       obtain⟨n',a2,x2,ho2,_,_,_,hdj,_⟩:=R.wr hm hkd
       rw[hopm]at ho2
       cases ho2
       have:=hdj _ hmem
       simp only[ev]at this
       rw[R.K8 (show i≤m by omega) (by omega) hslot]at this
       exact this)
      refine⟨{bl:=cy (Ns i) d.ep ((hs μ).bl.take (aq hs i)),bC:=[],ro:=aq hs i},?_,by simp only;rw[←hsh.len,hlen0,hnal],rfl,fun b b1 b2=>by omega⟩
      rw[c0]
      show(cw ag z {bl:=cy (Ns i) d.ep ((hs μ).bl.take (aq hs i)),bC:=[],ro:=aq hs i} (get (es i) u)).map _=_
      rw[jU l4 (H':={bl:=cy (Ns i) d.ep ((hs μ).bl.take (aq hs i)),bC:=[],ro:=aq hs i}) (fun b v ii oo hp=>by
       obtain⟨⟨x,q0⟩,q⟩:=hidden b v ii oo hp
       have hblt:b<aq hs i:=(NT.1 q0).1
       simp only
       rw[nM _ _ _ _ q,Ob,if_pos hblt])]
      rfl
   obtain⟨V1',r1,r2,r3,r4⟩:=hnow
   have hlive:∀(b:Nat) x,(cy (Ns i) d.ep ((hs μ).bl.take (aq hs i)))[b]?=some x→x.live=true→β≤i∧i≤μ∧gX hs S β μ b∧(hs μ).bl[b]?=some x:=by
    intro b x hb hx
    obtain⟨u1,u2⟩:=j9 _ _ _ _ _ hb hx
    rw[Ob]at u1
    split at u1
    ·rename_i hblt
     exact⟨hβ,by omega,(j.seen R ho hS hcl (.inl hk) hβ (by omega) hblt u2).1,u1⟩
    ·cases u1
   have hVl:(cy (Ns i) d.ep ((hs μ).bl.take (aq hs i))).length=aq hs i:=by
    rw[lO,PW];exact Pb hsz
   have hr:=j.sub R (i:=i) (V:={bl:=cy (Ns i) d.ep ((hs μ).bl.take (aq hs i)),bC:=[],ro:=aq hs i}) (by omega) hVl hlive
   rw[←jW]at r1
   refine gF hrec hopo r1 hr (mE hslots) (fun val w' hdn=>?_)
   obtain⟨ρ',F',h⟩:=j.quiet R ho hS hcl (by rw[hk];simp) hnw hVl rfl r2 r3 (fun b b1 b2=>by
    rw[r4 b b1 b2]
    symm
    refine R.Fu (show i+1≤μ by omega) (by omega) (fun m h1 h2=>hnb m (by omega) h2) b2 (fun m om dm n a' x m1 m2 hm hwm hopm v jj q hp=>?_)
    have hSm:S m:=j.qo m (by omega) m2 (by rw[cb hm];exact hwm)
    obtain⟨rd,hkd⟩:=cA.1 hwm
    obtain⟨n',a2,x2,ho2,_,_,htgt,_,_⟩:=R.wr hm hkd
    rw[hopm]at ho2
    cases ho2
    rw[hp]at htgt
    rcases R.ko.ep m (by omega) (.inr (by rw[cb hm];exact hwm)) i (by omega) hdi with⟨g,g1,g2,g3⟩|h|h
    ·exact hnb g (by omega) (by omega) g3
    ·exact bh m hSm h
    ·have hoff:=R.jf (j.va (by omega)) (i-β) (fun m h1 h2=>hnb m h1 (by omega)) (by omega)
     rw[show β+(i-β)=i by omega]at hoff
     have hoff':aq hs i=aq hs β+(dr pl i).jf:=hoff
     have:=h (b-aq hs i) (by rw[cb ho];omega)
     rw[cb hm]at this
     simp only[yD]at htgt
     have:=N5.1 htgt _ this
     have hNs:Ns m=aq hs β:=by rw[R.HA (show β≤m by omega) (by omega) (fun g g1 g2=>hnb g g1 (by omega)),j.BT]
     simp only[Ot,Pr]at this
     rw[hNs]at this
     omega) (.inr ⟨hβ,hμ⟩) hdn (fun d h=>hdst' d (by rw[hd];exact h))
   rw[hd]
   exact hK _ _ _ _ _ _ _ h
  ·rename_i rd hk
   obtain⟨n',p,x,V,V',hop',hwt,hrV,hsV,hfin⟩:=j.wr R ho hS hcl hk (fun d h=>hdst' d (by rw[hd];exact h))
   have hev:∀y∈[p,x],ev (eo (br o) (es i)) y=ev (es i) y:=fun y hy=>by
    cases y with
    |c v=>rfl
    |t u=>
     have hm:u∈br o:=by
      unfold br
      rw[hop']
      refine Pj _ ?_
      unfold br.f
      exact List.mem_filterMap.2 ⟨.t u,hy,rfl⟩
     simp only[ev,gO]
     simp[hm]
   rw[←hev p (by simp),←hev x (by simp)]at hsV
   refine vl hopo hop' hsV hrV (mE (fun t ht=>(hslots t ht).mono (fun _ _=>rfl) (fun _ h=>h) (Map.pK _ _))) (fun w' z1 z2 z3=>?_)
   obtain⟨μ',h⟩:=hfin w' z1 z2 (by rw[hev x (by simp)]at z3;exact z3)
   rw[hd]
   exact hK _ _ _ _ _ _ _ h
 have pass:∀(hd:op.dst=o.dst),gP d=true→out i=.gJ→hs (i+1)=hs i→K (a.put op.dst undef) w:=by
  intro hd hsk ho' hh
  have hln:aq hs (i+1)=aq hs i:=by unfold aq;rw[hh]
  by_cases hk:d.kind=.fC
  ·obtain⟨hr,hfin⟩:=j.fC R ho hS hcl hk (fun d h=>hdst' d (by rw[hd];exact h))
   obtain⟨ρ',F',β',μ',γ',h⟩:=hfin undef w (by rw[ho',hh];exact cN.same hr .gJ)
   rw[hd]
   exact hK _ _ _ _ _ _ _ h
  ·have hr:=j.sub R (i:=i) (V:={bl:=List.replicate (aq hs i) .dead,bC:=[],ro:=aq hs i}) (by omega) (by simp) (fun b x hb hx=>by
    simp only[Qc]at hb
    split at hb
    ·cases hb;cases hx
    ·cases hb)
   obtain⟨ρ',F',h⟩:=j.quiet R ho hS hcl hk (by cases hw:cH d with
    |false=>rfl
    |true=>obtain⟨rd,hk'⟩:=cA.1 hw;unfold gP at hsk;rw[hk']at hsk;cases hsk) (val:=undef) (V:={bl:=List.replicate (aq hs i) .dead,bC:=[],ro:=aq hs i}) (V':={bl:=List.replicate (aq hs i) .dead,bC:=[],ro:=aq hs i}) (by simp) rfl (by simp[hln]) rfl (fun b h1 h2=>by omega) (.inl hln)
    (by rw[ho'];exact cN.same hr .gJ) (fun d h=>hdst' d (by rw[hd];exact h))
   rw[hd]
   exact hK _ _ _ _ _ _ _ h
 have hgt:∀t b,(∃w,o.g=some (t,w))→get (es i) t=.bool b→a.tmps.getD t undef=.bool b:=by
  rintro t b ⟨w,hg⟩ hb
  have hm:t∈br o:=by unfold br;rw[hg];simp
  have:=hslots t hm
  rw[hb]at this
  exact dC this
 have hgs:∀t,(∃w,o.g=some (t,w))→get (es i) t=.gJ→a.tmps.getD t undef=undef:=by
  rintro t ⟨w,hg⟩ hb
  have hm:t∈br o:=by unfold br;rw[hg];simp
  have:=hslots t hm
  rw[hb]at this
  exact sd this
 split at hco
 ·rename_i hg
  cases hco
  have hw:Region.wanted op (yielded ops a.tmps)=true:=by simp[Region.wanted,hg]
  rw[hw,if_pos rfl]
  rcases R.tr.st i _ d ho with⟨_,h⟩|⟨⟨t,w,h,_⟩,_⟩
  ·exact go rfl rfl h
  ·cases h
 ·rename_i j' want hg
  split at hco
  ·rename_i t ht
   cases hco
   rcases R.tr.st i _ d ho with⟨h,h'⟩|⟨⟨t',w',h,hb⟩,hsk,ho',hh⟩
   ·rcases h with h|⟨t',w',h,hb⟩
    ·cases h
    ·cases h
     have htv:=hgt t want ⟨want,rfl⟩ hb
     have hy:yielded ops a.tmps j'=some want:=by simp only[yielded,ht,OV,jA htv]
     have hw:Region.wanted op (yielded ops a.tmps)=true:=by simp only[Region.wanted,hg,hy];simp
     rw[hw,if_pos rfl]
     exact go rfl rfl h'
   ·cases h
    have hw:¬Region.wanted op (yielded ops a.tmps)=true:=by
     rcases hb with hb|hb
     ·have htv:=hgt t (!want) ⟨want,rfl⟩ hb
      have hy:yielded ops a.tmps j'=some (!want):=by simp only[yielded,ht,OV,jA htv]
      simp only[Region.wanted,hg,hy];cases want<;>simp
     ·have htv:=hgs t ⟨want,rfl⟩ hb
      simp only[Region.wanted,hg,ml ht htv];simp
    rw[if_neg hw]
    exact⟨fun _ _=>trivial,pass rfl hsk ho' hh⟩
  ·cases hco
def Au(listed:Array Bool):Nat:=listed.toList.count false
theorem uS(hrec:eP C rec)(R:eV C rec f nt ops pl es hs out Ns){B:iL}{ro:Option Nat}{n:Nat}{Q:Exit→Act→World→Prop}
 (hQ:∀a w,Rel C nt B (es pl.length) (hs pl.length) a w→Q .normal a w) :
 ∀(fuel:Nat) (listed:Array Bool) (a:Act) (w:World),listed.size=ops.size→Au listed≤fuel→(∃ρ F β μ γ,J C nt ops pl es hs out Ns B (fun k=>listed.getD k false=true) a w ρ F β μ γ)→wpAnyIn (WF ro) n C.P .any ops Q fuel listed a w:=by
 have hlast:∀(listed:Array Bool) (a:Act) (w:World),listed.size=ops.size→(∃ρ F β μ γ,J C nt ops pl es hs out Ns B (fun k=>listed.getD k false=true) a w ρ F β μ γ)→Region.ready .any ops listed=[]→Q .normal a w:=by
  intro listed a w hsz ⟨ρ,F,β,μ,γ,j⟩ hnil
  have hall:∀k,k<pl.length→listed.getD k false=true:=by
   intro k
   induction k using Nat.strongRecOn with
   |_ k ih=>
    intro hk
    apply PC
    intro hn
    have hks:k<listed.size:=by rw[hsz,←R.hlen];exact hk
    have hmem:k∈Region.ready .any ops listed:=by
     rw[mem_ready]
     obtain⟨o,d,ho⟩:=fK hk
     obtain⟨op,c0,_⟩:=R.c0 k o d ho
     refine⟨by simpa[hks]using hn,op,c0,fun e he hb=>?_⟩
     exact ih e.on (R.ko.yY k op (by simpa using c0) e he hb) (by have:=R.ko.yY k op (by simpa using c0) e he hb;omega)
    rw[hnil]at hmem
    cases hmem
  have hγ:γ=pl.length:=by
   rcases j.DU with h|h
   ·exact h
   ·by_cases hlt:γ<pl.length
    ·exact absurd h (j.post γ (O0 j.le j.xX) (hall γ hlt))
    ·have:=j.vO;omega
  subst hγ
  obtain⟨hμ,hG⟩:=j.full R (fun k hk _=>hall k hk)
  subst hμ
  refine hQ a w ⟨ρ,F,hG▸j.hr,fun t=>?_,hG▸j.ext,j.sz,hG▸j.G7⟩
  obtain⟨m,h1,h2⟩:=R.sf t pl.length (NV _)
  refine(j.eJ t _ m ?_).mono (fun _ _=>rfl) (fun _ h=>h) (Map.pK _ _)
  rcases h1 with⟨k,o',d',g1,g2,g3,g4,g5,g6⟩|⟨g1,g2,g3⟩
  ·exact .inl ⟨k,o',d',g1,hall k g2,g3,fun j' o2 d2 k1 k2 k3=>g4 j' o2 d2 k1 k2 (NT.1 k2).1,g5,g6⟩
  ·exact .inr ⟨fun j o d h _=>g1 j o d h (NT.1 h).1,g2,g3⟩
 intro fuel
 induction fuel with
 |zero=>
  intro listed a w hsz hu hj
  have hnil:Region.ready .any ops listed=[]:=by
   apply List.eq_nil_iff_forall_not_mem.2
   intro k hk
   have h1:=(mem_ready.1 hk).1
   have hks:k<listed.size:=by
    rcases Oh k listed.size with h|h
    ·exact h
    ·simp[P3 h]at h1
   have:false∈listed.toList:=by
    simp[hks]at h1
    rw[←h1];simp
   have:=List.count_pos_iff.2 this
   unfold Au at hu
   omega
  exact⟨hnil,hlast listed a w hsz hj hnil⟩
 |succ fuel ih=>
  intro listed a w hsz hu hj
  refine⟨hlast listed a w hsz hj,fun i hi=>?_⟩
  obtain⟨h1,o,ho,hafter⟩:=mem_ready.1 hi
  have hks:i<listed.size:=by
   rcases Oh i listed.size with h|h
   ·exact h
   ·simp[P3 h]at h1
  have hfl:listed[i]=false:=by simpa[hks]using h1
  obtain⟨ρ,F,β,μ,γ,j⟩:=hj
  refine j.step hrec R (by rw[R.hlen];omega) (by simp[hks,hfl]) (fun o' ho' e he hb=>?_) (fun a' w' ρ' F' β' μ' γ' j'=>ih _ a' w' (by simpa using hsz) ?_ ⟨ρ',F',β',μ',γ',?_⟩)
  ·have:ops.toList[i]?=some o:=by simpa using ho
   rw[this]at ho';cases ho'
   exact hafter e he hb
  ·unfold Au at hu⊢
   rw[Array.toList_setIfInBounds,List.count_set (by simpa using hks)]
   have hq:listed.toList[i]'(by simpa using hks)=false:=by simpa using hfl
   rw[hq]
   simp only[O8,if_true]
   have:((true==false)=true)=False:=by simp
   simp only[this,if_false]
   omega
  ·have:(fun k=>(listed.setIfInBounds i true).getD k false=true)=(fun k=>listed.getD k false=true∨k=i):=by
    funext k
    by_cases e:i=k
    ·subst e;simp[hks]
    ·simp[Oz e,Ne.symm e]
   rw[this];exact j'
theorem xC(hmix:C.P.follows .mixedOrders=true)(hrec:eP C rec){id:Nat}{ops:Array Oper}{l:List ak}{d:List (ak×aU)}(hl:bc (ops.toList.map (fX C.P C.cU f nt ops))=some l){g:FuncId}(hd:sA C.cU g ops.toList l=some d) :
 fm C rec nt (.region id ops true) (.drawn d):=by
 intro ro n B Q R k r e H a w hro hrun hk hrel
 simp only[run]at hrun
 obtain⟨es,hs,out,Ns,h1,h2,h3,h4,h5⟩:=trace d _ _ _ hrun
 obtain⟨g1,g2⟩:=cY hl
 have hmk:∃u,d=lR C.cU g (aW ops.toList) l u∧jC (aW ops.toList) ops.toList d=true:=by
  unfold sA at hd
  dsimp only at hd
  cases h1:jC (aW ops.toList) ops.toList (lR C.cU g (aW ops.toList) l true)with
  |true=>
   rw[h1]at hd
   simp only[N6,N1]at hd
   exact⟨true,hd.symm,hd▸h1⟩
  |false=>
   rw[h1]at hd
   simp only[Oa]at hd
   replace hd:=af hd
   obtain⟨h2,hd⟩:=hd
   simp only[N1]at hd
   exact⟨false,hd.symm,hd▸h2⟩
 obtain⟨u,hdu,hok⟩:=hmk
 have hlen:d.length=l.length:=by rw[hdu];simp[lR]
 have hfst:∀(i:Nat) o dd,d[i]?=some (o,dd)→l[i]?=some o:=by
  intro i o dd hi
  rw[hdu]at hi
  unfold lR at hi
  simp only[Py,NP,List.getElem?_zipIdx]at hi
  obtain⟨p,⟨q,hq,rfl⟩,hp⟩:=hi
  cases hp
  exact hq
 have RG:eV C rec f nt ops d es hs out Ns:=by
  refine⟨fun i o dd hi=>?_,by rw[hlen,g1];simp,pt hok,h4,by rw[h3,h2]⟩
  have hli:=hfst i o dd hi
  have hlt:=(NT.1 hli).1
  have hops:ops.toList[i]?=some ops.toList[i]:=N4 (by omega)
  exact⟨_,by simpa using hops,g2 i _ _ hops hli⟩
 refine wpIn_region_any hmix ?_
 obtain⟨ρ,F,q1,q2,q3,q4,q5⟩:=hrel
 obtain⟨z1,z2⟩:=q1.same (w':={w with drawn:=w.drawn+1}) (NV _) (fun _ _=>rfl)
 refine uS hrec RG (B:=B) (fun a' w' hr'=>hk .normal _ _ a' w' h5 hr') ops.size _ a _ (by simp) ?_ ?_
 ·unfold Au;simp
 ·have hS:(fun k=>(Array.replicate ops.size false).getD k false=true)=(fun _=>False):=by
   funext k
   by_cases hk:k<ops.size<;>simp[hk]
  rw[hS]
  subst h1;subst h2
  obtain⟨μ,γ,hj⟩:=J.begin RG (B:=B) (S:=fun _=>False) (a:=a) (w:={w with drawn:=w.drawn+1}) (ρ:=ρ) (F:=F) (β:=0) (PO _) (fun _ _ h=>h.elim) (fun _ h=>by omega) (fun _ _ h=>h.elim) h3 (fun h=>RG.ko.Ge h) z1 (q3.trans z2)
   (fun t s m hW=>by
    rcases hW with⟨_,_,_,_,h,_⟩|⟨_,rfl,rfl⟩
    ·exact h.elim
    ·exact(z2.er q1 q2 t).mono (fun _ _=>rfl) (fun _ h=>h) (fun b l h=>⟨l,by rw[ie (q1.gY b l h)];exact h,.inl rfl⟩))
   q4 (q5.ext z2.toExt0)
  exact⟨ρ,F,0,μ,γ,hj⟩
end
end
end Go.Sh
