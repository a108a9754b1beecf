/- A part of the proof: texts Ktfnd. -/
import Derived.Test.YtlkjiffohmkidaaGreatB18
namespace Go.Sh
set_option linter.unusedSectionVars false
set_option linter.unnecessarySimpa false
set_option linter.unusedSimpArgs false
set_option linter.unusedVariables false
set_option maxRecDepth 100000
set_option maxHeartbeats 4000000
namespace F
theorem Bn(bs:List Bool)(h:0<bs.length):0<(fv bs).size:=by rw[dq];unfold nb;omega
theorem Cv(P:List ByteArray)(c l:Int)(a b:ByteArray)(p r m:Int):0<(ld P c l a b p r m).length:=by
 unfold ld fk mh
 simp only[NO]
 cases decide (c=0)<;>simp only[N6,Oa,NO,aa]<;>omega
theorem s5(P:List ByteArray)(f1:Bool)(c l:Int)(a b:ByteArray)(p r m0:Int)(X:ByteArray)(mo:Int)(Y:List By)(f2:Bool)(hq:∀q∈P,q.size≤9223372036854775807)(hY:∀y∈Y,∀x∈y.1,x≤255) :
 ab T 61 (.fn 5) [.aB 1 (fx P) f1,.agg [Ru c,Ru l,.str a,.str b,Ru p,Ru r,Ru m0,.str X,Ru mo],.aB 1 (FX Y) f2] av=some (.bool true,av):=by
 refine aw e5 (by rfl) ?_
 have h6:=s6
 by_cases g1:P.length≤8
 rotate_left
 ·have d1:decide ((8:Int)<(P.length:Int))=true:=NN (by omega)
  simp only[c5,av,go_sem,simprocAttr,h6,Oe,d1]
 have d1:decide ((8:Int)<(P.length:Int))=false:=NQ (by omega)
 by_cases g2:X.size≤600
 rotate_left
 ·have d2:decide ((600:Int)<(X.size:Int))=true:=NN (by omega)
  simp only[c5,av,go_sem,simprocAttr,h6,Oe,d1,d2]
 have d2:decide ((600:Int)<(X.size:Int))=false:=NQ (by omega)
 by_cases g3:20≤mo
 rotate_left
 ·have d3:decide (mo<20)=true:=NN (by omega)
  simp only[c5,av,go_sem,simprocAttr,h6,Oe,d1,d2,d3]
 have d3:decide (mo<20)=false:=NQ (by omega)
 by_cases g4:mo≤100
 rotate_left
 ·have d4:decide (100<mo)=true:=NN (by omega)
  simp only[c5,av,go_sem,simprocAttr,h6,Oe,d1,d2,d3,d4]
 have d4:decide (100<mo)=false:=NQ (by omega)
 by_cases g5:Y.length≤8
 rotate_left
 ·have d5:decide ((8:Int)<(Y.length:Int))=true:=NN (by omega)
  simp only[c5,av,go_sem,simprocAttr,h6,Oe,d1,d2,d3,d4,d5]
 have d5:decide ((8:Int)<(Y.length:Int))=false:=NQ (by omega)
 by_cases g6:a.size≤20
 rotate_left
 ·have d6:decide ((20:Int)<(a.size:Int))=true:=NN (by omega)
  simp only[c5,av,go_sem,simprocAttr,h6,Oe,d1,d2,d3,d4,d5,d6]
 have d6:decide ((20:Int)<(a.size:Int))=false:=NQ (by omega)
 by_cases g7:b.size≤20
 rotate_left
 ·have d7:decide ((20:Int)<(b.size:Int))=true:=NN (by omega)
  simp only[c5,av,go_sem,simprocAttr,h6,Oe,d1,d2,d3,d4,d5,d6,d7]
 have d7:decide ((20:Int)<(b.size:Int))=false:=NQ (by omega)
 have h28:=fun H=>El 59 H P 1 f1 (.inl rfl) (by omega)
 have h27:=fun H=>MR 53 H P false c l a b p r X.size (by omega) hq
 unfold JX at h27
 cases hOK:th P&&uv c l a b p r X.size with
 |false=>
  rw[hOK]at h27
  simp only[c5,av,go_sem,simprocAttr,h6,Oe,d1,d2,d3,d4,d5,d6,d7,h28,h27]
 |true=>
  rw[hOK]at h27
  rw[NX]at hOK
  obtain⟨m,rfl⟩:∃m:Nat,mo=(m:Int):=⟨mo.toNat,by omega⟩
  obtain⟨D,hD⟩:∃D,fv (ld P c l a b p r X.size)++X=D:=⟨_,rfl⟩
  have hsz:=Bn _ (Cv P c l a b p r X.size)
  have hsz2:(fv (ld P c l a b p r X.size)).size≤25:=by
   obtain⟨_,_,ha,hb,_⟩:=kG hOK.2
   rw[dq]
   have:=pP P c l a b p r X.size ha hb 6
   unfold ld nb;omega
  have hDs:D.size=(fv (ld P c l a b p r X.size)).size+X.size:=by rw[←hD,Pv]
  have hcc:(D.size+m-1)/m≤32:=by
   have:(D.size+m-1)/m<33:=by
    rw[Nat.div_lt_iff_lt_mul (by omega)]
    omega
   omega
  have hF:=A6 (z:=D.size) (m:=m) (by omega) (by omega) (by omega) (by omega) hcc
  obtain⟨cc,hcd⟩:∃cc,(D.size+m-1)/m=cc:=⟨_,rfl⟩
  rw[hcd]at hF
  obtain⟨K,hK⟩:∃K,(cc-1)*m=K:=⟨_,rfl⟩
  rw[hK]at hF
  have hw:Lw P c l a b p r X D m cc K:=⟨hOK.1,hq,hOK.2,g2,hD.symm,hF,by omega⟩
  have hc1:=hF.c1;have hc2:=hF.c2
  have dsz:decide ((fv (ld P c l a b p r X.size)).size+X.size≤4611686018427387904)=true:=NN (by omega)
  have h29:=fun H=>M3 59 H D m cc K hF hcd
  have h30:=fun bl es ro=>Ni 59 bl es ro
  have h31:∀H,ab T 60 (.fn 31) [Ru cc,Rv] H=some (.ax [.aB 1 (iS (lf 0 cc)) false,Rv],H):=fun H=>LY 59 H cc 0 hc1 hc2 (Qs (by decide))
  refine wy ?_
  simp only[c5,av,go_sem,simprocAttr,h6,Oe,d1,d2,d3,d4,d5,d6,d7,h28,h27,dsz,hD,h29,h30,h31,kX,PA]
  refine nR (fun j s=>∃bl' es' B' tt',B'<2 ^ cc∧HI (yM c l a b p r X m) D m cc B' tt' bl'∧tt'≤j∧s=([(0,.aB 1 (fx P) f1),(4,.ptr 0 0 0 0),(9,.aB 5 (pD D m cc cc) false),(11,.ptr 2 0 0 0),(13,.aB 1 (iS (lf B' cc)) false),(14,Ru (oe B' cc:Nat)),(125,.aB 1 (FX Y) f2),(126,Ru Y.length),(127,Ru j)],⟨bl',es',0⟩)) Y.length ?_ ?_
  ·have ht0:oe 0 cc=0:=by
    unfold oe
    rw[NQ (show ¬0=2 ^ cc-1 by have:2 ^ 1≤2 ^ cc:=Pg (by decide) hc1;omega)];rfl
   exact dt (cM rfl rfl) ⟨_,_,0,0,Qs (by decide),⟨rfl,rfl,.inl ⟨rfl,rfl⟩⟩,NV _,by rw[ht0];rfl⟩
  ·rintro j s hj ⟨bl1,es1,B1,tt1,hB1,hH1,ht1,rfl⟩
   rcases Oh j Y.length with hlt|hge
   ·obtain⟨y,hy⟩:∃y,Y[j]?=some y:=⟨Y[j],N4 hlt⟩
    have hx:decide ((j:Int)<(Y.length:Int))=true:=NN (by omega)
    have h0:decide ((0:Int)≤(j:Int))=true:=NN (by omega)
    have hs1:bX ((j:Int)+1)=((j+1:Nat):Int):=by rw[an (by omega) (by omega)];omega
    have hrow:(FX Y)[j]?=some [.aB 1 (wP y.1) y.2]:=by simp[FX,hy]
    have h32:∀H,ab T 60 (.fn 32) [.aB 5 (pD D m cc cc) false,.aB 1 (iS (lf B1 cc)) false] H=some (.ax [.aB 1 (qf D m cc (pQ B1 cc) (pQ B1 cc).length) false,.bool true],H):=fun H=>Mw 51 H D m cc K (pQ B1 cc) false false hF (by omega) (fun i hi=>(xj hi).1) (O0 (tK B1 cc) hc2)
    simp only[go_sem,simprocAttr,hx,h0,hrow,h32,Oe,PA,N0,kf,nZ]
    refine JF hw (B0:=B1) hB1 hH1 ht1 (by omega) rfl (fun bl2 es2 B2 tt2 hB2 hsub hH2 ht2=>?_)
    cases hz:decide (((cn B2 cc:Nat):Int)=(cc:Int))with
    |true=>
     have e2:B2=0:=x7 hB2 (by have:=PQ hz;omega)
     have e1:B1=0:=by
      apply Qa
      intro t
      rw[Qe]
      cases hb:B1.testBit t with
      |false=>rfl
      |true=>have:=hsub t hb;rw[e2,Qe]at this;cases this
     subst e1 e2
     simp only[go_sem,simprocAttr,hz,hs1,kX,Oe,PA]
     exact⟨hlt,dt (cM rfl rfl) ⟨bl2,_,0,tt2,hB2,hH2,by omega,rfl⟩⟩
    |false=>
     have hne:B2≠0:=fun e=>by subst e;rw[vG,NN rfl]at hz;cases hz
     obtain⟨k0,k2,k1⟩:=hH2
     rcases k1 with⟨e,_⟩|⟨_,G,la,hG,k1,k3⟩
     ·exact absurd e hne
     have h37:=fun es=>Mn 59 bl2 es 0 2 1 G tt2 m cc la B2 D k2 k1 k3
     have h31b:∀H,ab T 60 (.fn 31) [Ru cc,Ru B2] H=some (.ax [.aB 1 (iS (lf B2 cc)) false,Rv],H):=fun H=>LY 59 H cc B2 hc1 hc2 hB2
     simp only[go_sem,simprocAttr,hz,hs1,h37,h31b,kX,Oe,PA,kf,nZ,zR]
     exact⟨hlt,dt (cM rfl rfl) ⟨bl2,_,B2,tt2,hB2,⟨k0,k2,.inr ⟨hne,G,la,hG,k1,k3⟩⟩,by omega,rfl⟩⟩
   ·obtain rfl:j=Y.length:=by omega
    have hx:decide ((Y.length:Int)<(Y.length:Int))=false:=NQ (by omega)
    have hcf:=mK hB1
    by_cases hfu:B1=2 ^ cc-1
    ·have e1:oe B1 cc=1:=by unfold oe;rw[NN hfu];rfl
     have e2:=hcf.2 hfu
     simp only[go_sem,simprocAttr,hx,e1,e2,kf,nZ]
     try rfl
    ·have e1:oe B1 cc=0:=by unfold oe;rw[NQ hfu];rfl
     have e2:decide (((cn B1 cc:Nat):Int)=0)=false:=NQ (fun e=>hfu (hcf.1 (by omega)))
     simp only[go_sem,simprocAttr,hx,e1,e2,kf,nZ]
     try rfl
end F
end Go.Sh
