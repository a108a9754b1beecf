/- A part of the proof: texts Ktfna. -/
import Derived.Test.YtlkjiffohmkidaaGreatB15
namespace Go.Sh
set_option linter.unusedSectionVars false
set_option linter.unnecessarySimpa false
set_option linter.unusedSimpArgs false
set_option linter.unusedVariables false
set_option maxRecDepth 100000
set_option maxHeartbeats 4000000
namespace F
def pQ(B j:Nat):List Nat:=(List.range j).filter fun(i:Nat)=>!B.testBit i
theorem Cb(B j:Nat):nI (pQ B j)=lf B j:=rfl
theorem xj{B j i:Nat}(h:i∈pQ B j):i<j∧B.testBit i=false:=by
 unfold pQ at h
 rw[Pf,Of,Ot]at h
 exact h
theorem tK(B j:Nat):(pQ B j).length≤j:=by
 have:=tV B j
 rw[←Cb,Oe]at this;exact this
theorem Bt{B j s t i:Nat}(hst:s<t)(hs:(pQ B j)[s]?=some i)(ht:(pQ B j)[t]?=some i):False:=by
 have hn:(pQ B j).Nodup:=List.Nodup.sublist List.filter_sublist QX
 have:=(List.getElem?_inj (NT.1 hs).1 hn).1 (hs.trans ht.symm)
 omega
def cn(B:Nat):Nat→Nat
 |0=>0
 |j+1=>cn B j+(bif B.testBit j then 0 else 1)
theorem nZ(B:Nat):∀j,(lf B j).length=cn B j
 |0=>rfl
 |j+1=>by rw[qJ,NO,nZ B j,cn];cases B.testBit j<;>rfl
theorem vA(B:Nat):∀j,cn B j≤j
 |0=>NV _
 |j+1=>by have:=vA B j;rw[cn];cases B.testBit j<;>simp only[N6,Oa]<;>omega
theorem tc(B:Nat){i:Nat}:∀j,j≤i→cn (B|||2 ^ i) j=cn B j
 |0,_=>rfl
 |j+1,h=>by rw[cn,cn,tc B j (by omega),mg,NQ (show ¬i=j by omega),Q5]
theorem Aa{B i:Nat}(hb:B.testBit i=false):∀j,i<j→cn (B|||2 ^ i) j+1=cn B j
 |0,h=>by omega
 |j+1,h=>by
  rw[cn,cn,mg]
  by_cases e:i=j
  ·subst e
   rw[tc B i (NV _),hb,NN rfl];rfl
  ·have:=Aa hb j (by omega)
   rw[NQ e,Q5];omega
theorem Em{B:Nat}:∀{j},cn B j=0→∀t,t<j→B.testBit t=true
 |0,_,t,ht=>by omega
 |j+1,h,t,ht=>by
  rw[cn]at h
  by_cases e:t=j
  ·subst e
   cases hb:B.testBit t with
   |true=>rfl
   |false=>rw[hb,Oa]at h;omega
  ·exact Em (j:=j) (by omega) t (by omega)
theorem FL{B:Nat}:∀{j},cn B j=j→∀t,t<j→B.testBit t=false
 |0,_,t,ht=>by omega
 |j+1,h,t,ht=>by
  have hle:=vA B j
  rw[cn]at h
  have hb:B.testBit j=false:=by
   cases hb:B.testBit j with
   |false=>rfl
   |true=>rw[hb,N6]at h;omega
  rw[hb,Oa]at h
  by_cases e:t=j
  ·subst e;exact hb
  ·exact FL (j:=j) (by omega) t (by omega)
theorem vz{B c j:Nat}(hB:B<2 ^ c)(hj:c≤j):B.testBit j=false:=QN (OP hB (Pg (by decide) hj))
theorem mK{B c:Nat}(hB:B<2 ^ c):cn B c=0↔B=2 ^ c-1:=by
 constructor
 ·intro h
  apply Qa
  intro j
  rw[Nat.testBit_two_pow_sub_one]
  by_cases hj:j<c
  ·rw[Em h j hj,NN hj]
  ·rw[vz hB (by omega),NQ hj]
 ·intro h
  have key:∀j,j≤c→cn B j=0:=by
   intro j
   induction j with
   |zero=>intro _;rfl
   |succ j ih=>
    intro hj
    rw[cn,ih (by omega),gS h (by omega)];rfl
  exact key c (NV _)
theorem x7{B c:Nat}(hB:B<2 ^ c)(h:cn B c=c):B=0:=by
 apply Qa
 intro j
 rw[Qe]
 by_cases hj:j<c
 ·exact FL h j hj
 ·exact vz hB (by omega)
theorem vG:∀c,cn 0 c=c
 |0=>rfl
 |c+1=>by rw[cn,vG c,Qe];rfl
def oe(B c:Nat):Nat:=bif decide (B=2 ^ c-1)then 1 else 0
def HI(hp:List SV)(D:ByteArray)(m c B tt:Nat)(bl:List aj):Prop:=
 bl[0]?=some (.box hp)∧bl[2]?=some (tL 1 tt)∧((B=0∧bl[1]?=some (.map []))∨(B≠0∧∃G la,3≤G∧bl[1]?=some (.map [(Ru 9,.ptr G 0 0 0)])∧bl[G]?=some (.box (vj D m c la B))))
theorem HI.app{hp:List SV}{D:ByteArray}{m c B tt:Nat}{bl:List aj}(h:HI hp D m c B tt bl)(l:List aj):HI hp D m c B tt (bl++l):=by
 obtain⟨h0,h2,h1⟩:=h
 refine⟨bD h0 l,bD h2 l,?_⟩
 rcases h1 with⟨e,h1⟩|⟨e,G,la,hG,h1,h3⟩
 ·exact .inl ⟨e,bD h1 l⟩
 ·exact .inr ⟨e,G,la,hG,bD h1 l,bD h3 l⟩
theorem Nh{hp:List SV}{D:ByteArray}{m c K B tt:Nat}{bl:List aj}(hF:Fit c D.size m K)(h:HI hp D m c B tt bl)(hB:B<2 ^ c){i s:Nat}(hi:i<c)(hts:tt≤s)(hs:s≤1000)(n:Nat) :
 ∃bl' es',(∀es,ab T (n+3) (.n8 35) [.ptr 2 0 0 0,Ru s,.agg (fo D m c i)] ⟨bl,es,0⟩=some (yT D c B i,⟨bl',es++es',0⟩))∧HI hp D m c (B|||2 ^ i) s bl':=by
 obtain⟨h0,h2,h1⟩:=h
 have hne:B|||2 ^ i≠0:=by
  intro e
  have:=congrArg (fun x=>Nat.testBit x i) e
  simp only[mg,Qe]at this
  simp at this
 rcases h1 with⟨e,h1⟩|⟨e,G,la,hG,h1,h3⟩
 ·subst e
  have hlt:=(NT.1 h2).1
  refine⟨_,_,fun es=>EY n bl es 0 2 1 tt s i c K m D hF hi h2 h1 hts hs (by omega) (by omega) (by omega),?_,?_,?_⟩
  ·apply bD;rw[N7 (by omega),N7 (by omega),h0]
  ·apply bD;rw[N7 (by omega),Pd hlt]
  ·refine .inr ⟨hne,bl.length+3,s,by omega,?_,?_⟩
   ·apply bD;rw[Pd (by rw[NZ];omega)]
   ·rw[Ol (by simp),NZ,NZ,QM];rfl
 ·have hlt:=(NT.1 h2).1
  have hltG:=(NT.1 h3).1
  refine⟨_,[],fun es=>by rw[OS];exact FA n bl es 0 2 1 G tt s i c K m la B D hF hi h2 h1 h3 hB hts hs (by omega) (by omega) (by omega) (by omega) (by omega),?_,?_,?_⟩
  ·apply bD;rw[N7 (by omega),N7 (by omega),h0]
  ·apply bD;rw[N7 (by omega),Pd hlt]
  ·refine .inr ⟨hne,G,s,hG,?_,?_⟩
   ·apply bD;rw[N7 (by omega),N7 (by omega),h1]
   ·apply bD;rw[Pd (by rw[NZ];omega)]
theorem wy{A:Type}{v:Option A}{a:A}(h:post v (fun o=>o=a)):v=some a:=by
 obtain⟨o,h1,rfl⟩:=h;exact h1
theorem dt{p:dj}{N:Nat}{H0:ae}{s' s:Env×ae}{I:Env×ae→Prop}(h:eF p N H0 s'=some s)(hi:I s):te p N H0 s' I:=⟨s,h,hi⟩
end F
end Go.Sh
