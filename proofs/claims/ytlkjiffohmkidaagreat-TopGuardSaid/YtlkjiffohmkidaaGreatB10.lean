/- A part of the proof: texts Ktgn. -/
import Derived.Test.YtlkjiffohmkidaaGreatB9
namespace Go.Sh
set_option linter.unusedSectionVars false
set_option linter.unnecessarySimpa false
set_option linter.unusedSimpArgs false
set_option linter.unusedVariables false
set_option maxRecDepth 100000
set_option maxHeartbeats 4000000
namespace K
theorem uT{P:List Int}(h:gF P=true){i:Nat}(h0:1≤i)(hi:i<P.length):∃p:Nat,P[i]?=some (p:Int)∧p<P.length:=by
 have h1:=kF h hi
 obtain⟨f,hf⟩:∃f,P.length=f+1:=⟨P.length-1,by omega⟩
 obtain⟨v,hv⟩:=iy hi
 have hg:P.getD ((i:Nat):Int).toNat 0=v:=by rw[EA,DY,hv];rfl
 rw[hf,eI,hg,DR (show ¬((i:Nat):Int)=0 by omega)]at h1
 simp only[Dw]at h1
 cases h2:(decide (v<0)||decide ((P.length:Int)≤v))with
 |true=>rw[h2]at h1;cases h1
 |false=>
  simp only[Bool.or_eq_false_iff,Di]at h2
  exact⟨v.toNat,by rw[hv];congr 1;omega,by omega⟩
abbrev Gm:=List Sy×List Int×Int
def dY:Sy:=⟨0,0,0,0⟩
def pn(P:List Int)(keep:Int)(G:Gm)(x:Sp):Gm:=
 let nd:=x.1.toNat
 let p:=(P.getD nd 0).toNat
 let a:=G.1.getD nd dY
 let b:=G.1.getD p dY
 (G.1.set nd (toY (mr x.2.2 a b x.2.1)),G.2.1.set nd (if kO G.2.1 keep p x.2.1 (if x.2.2 then a else b)then x.2.1 else -1),x.2.1)
def dp(P:List Int)(keep:Int)(S:List Sp)(L:List Sy):Nat→Gm
 |0=>(L,List.replicate L.length (-1),0)
 |i+1=>match S[i]? with
  |some x=>pn P keep (dp P keep S L i) x
  |none=>dp P keep S L i
theorem toY_st(ak:Bool)(a b:Sy)(s:Int):mr ak a b s=mu (toY (mr ak a b s)):=by
 obtain⟨y,hy⟩:=ph ak a b s
 rw[hy]
 rfl
theorem ud(L:List Sy)(i:Nat)(y:Sy):(eb L).set i (mu y)=eb (L.set i y):=by simp[eb,List.map_set]
theorem s3(L:List Sy)(fl:Bool)(P:List Int)(fp:Bool)(S:List Sp)(fs:Bool)(keep:Int):aI T 61 (.fn 3) [.agg [.aP 4 (eb L) fl,.aP 1 (iS P) fp],.aP 3 (vj S) fs,FV keep] aB=some (.bool true,aB):=by
 refine aJ e3 (by rfl) ?_
 simp only[c3,aB,ar,ao,ax,av,aj,ai,al,ah,aO,aF,aN,aG,aE,aD,au,aH,aq,aw,af,ay,a9,ba,C9,C8,Da,go_sem,simprocAttr,s6]
 with_reducible refine cw (fun a1=>?_) (fun a1=>?_)<;>simp only[ar,ao,ax,av,aj,ai,al,ah,aO,aF,aN,aG,aE,aD,au,aH,aq,aw,af,ay,a9,ba,C9,C8,Da,go_sem,simprocAttr,a1]
 with_reducible refine cw (fun a2=>?_) (fun a2=>?_)<;>simp only[ar,ao,ax,av,aj,ai,al,ah,aO,aF,aN,aG,aE,aD,au,aH,aq,aw,af,ay,a9,ba,C9,C8,Da,go_sem,simprocAttr,a2]
 with_reducible refine cw (fun a3=>?_) (fun a3=>?_)<;>simp only[ar,ao,ax,av,aj,ai,al,ah,aO,aF,aN,aG,aE,aD,au,aH,aq,aw,af,ay,a9,ba,C9,C8,Da,go_sem,simprocAttr,a3]
 with_reducible refine cw (fun a4=>?_) (fun a4=>?_)<;>simp only[ar,ao,ax,av,aj,ai,al,ah,aO,aF,aN,aG,aE,aD,au,aH,aq,aw,af,ay,a9,ba,C9,C8,Da,go_sem,simprocAttr,a4]
 with_reducible refine cw (fun a5=>?_) (fun a5=>?_)<;>simp only[ar,ao,ax,av,aj,ai,al,ah,aO,aF,aN,aG,aE,aD,au,aH,aq,aw,af,ay,a9,ba,C9,C8,Da,go_sem,simprocAttr,a5]
 with_reducible refine cw (fun a6=>?_) (fun a6=>?_)<;>simp only[ar,ao,ax,av,aj,ai,al,ah,aO,aF,aN,aG,aE,aD,au,aH,aq,aw,af,ay,a9,ba,C9,C8,Da,go_sem,simprocAttr,a6]
 have b1:=Dv a1
 have b2:=Dv a2
 have b3:=D4 a3
 have b4:=Dv a4
 have b5:=Dv a5
 have b6:=Dv a6
 have hPL:P.length=L.length:=by omega
 have h8:=fun H=>s8 59 H P fp (by omega)
 have h7:=fun H=>s7 59 H P false (by omega) (by omega)
 unfold n8 at h7
 cases hd:gF P with
 |false=>
  rw[hd]at h7
  simp only[ar,ao,ax,av,aj,ai,al,ah,aO,aF,aN,aG,aE,aD,au,aH,aq,aw,af,ay,a9,ba,C9,C8,Da,go_sem,simprocAttr,h8,h7]
 |true=>
  rw[hd,←w8]at h7
  have hDl:(nS (dL P)).length=L.length:=by rw[fK,fF,hPL]
  have h9:=fun bl es ro=>BM 57 L.length true (by omega) (by omega) bl es ro
  have h10:=fun H=>Bq 59 H L fl (by omega) (by omega)
  simp only[ar,ao,ax,av,aj,ai,al,ah,aO,aF,aN,aG,aE,aD,au,aH,aq,aw,af,ay,a9,ba,C9,C8,Da,go_sem,simprocAttr,h8,h7,hDl,decide_true,h9,h10]
  refine dt (fun i=>([(3,.ptr 0 0 0 0),(5,.ptr 1 0 0 0),(7,FV L.length),(8,.aP 1 (iS (nS (dL P))) true),(10,.ptr 3 0 0 0),(11,.aP 4 (eb (dp P keep S L i).1) false),(12,.fn 11 [.ptr 3 0 0 0,.ptr 1 0 0 0]),(13,FV (dp P keep S L i).2.2),(79,.aP 3 (vj S) fs),(80,FV S.length),(81,FV i)],
   ⟨[.box [.aP 4 (eb L) fl,.aP 1 (iS P) fp],.box [FV keep],.arr 0 1 (iS (dp P keep S L i).2.1) true,.box [.bt 2 0 0 L.length]],[],0⟩))
   (fun i=>Inv P (dp P keep S L i).1 (dp P keep S L i).2.1 keep (dp P keep S L i).2.2∧0≤(dp P keep S L i).2.2∧(dp P keep S L i).2.2≤10000) S.length ?_ ?_ ?_
  ·simp only[ar,ao,ax,av,aj,ai,al,ah,aO,aF,aN,aG,aE,aD,au,aH,aq,aw,af,ay,a9,ba,C9,C8,Da,go_sem,simprocAttr,dp]<;>rfl
  ·refine⟨⟨hPL.symm,by simp[dp,hPL],fun i hi a r l ha hr hl l0=>?_⟩,Int.le_refl 0,by simp[dp]⟩
   simp only[dp,EJ]at hl
   split at hl
   ·cases hl;omega
   ·cases hl
  ·intro i hi hI
   obtain⟨hI,hI0,hI1⟩:=hI
   rcases DG i S.length with hil|hge
   ·have hwi:=gp hil (D3 (show S.length≤40 by omega) (by decide))
    obtain⟨x,hx⟩:=iy hil
    obtain⟨nd,s,ak⟩:=x
    have hg1:dp P keep S L (i+1)=pn P keep (dp P keep S L i) (nd,s,ak):=by rw[dp,hx]
    obtain⟨G,hG⟩:∃G,dp P keep S L i=G:=⟨_,rfl⟩
    obtain⟨L1,M1,s1⟩:=G
    rw[hG]at hI hI0 hI1 hg1⊢
    simp only at hI hI0 hI1
    simp only[ar,ao,ax,av,aj,ai,al,ah,aO,aF,aN,aG,aE,aD,au,aH,aq,aw,af,ay,a9,ba,C9,C8,Da,go_sem,simprocAttr,hil,hx]
    with_reducible refine gB (fun d1=>?_) (fun d1=>?_)
    ·simp only[ar,ao,ax,av,aj,ai,al,ah,aO,aF,aN,aG,aE,aD,au,aH,aq,aw,af,ay,a9,ba,C9,C8,Da,go_sem,simprocAttr,d1]
    simp only[ar,ao,ax,av,aj,ai,al,ah,aO,aF,aN,aG,aE,aD,au,aH,aq,aw,af,ay,a9,ba,C9,C8,Da,go_sem,simprocAttr,d1]
    with_reducible refine gB (fun d2=>?_) (fun d2=>?_)
    ·simp only[ar,ao,ax,av,aj,ai,al,ah,aO,aF,aN,aG,aE,aD,au,aH,aq,aw,af,ay,a9,ba,C9,C8,Da,go_sem,simprocAttr,d2]
    simp only[ar,ao,ax,av,aj,ai,al,ah,aO,aF,aN,aG,aE,aD,au,aH,aq,aw,af,ay,a9,ba,C9,C8,Da,go_sem,simprocAttr,d2]
    with_reducible refine gB (fun d3=>?_) (fun d3=>?_)
    ·simp only[ar,ao,ax,av,aj,ai,al,ah,aO,aF,aN,aG,aE,aD,au,aH,aq,aw,af,ay,a9,ba,C9,C8,Da,go_sem,simprocAttr,d3]
    simp only[ar,ao,ax,av,aj,ai,al,ah,aO,aF,aN,aG,aE,aD,au,aH,aq,aw,af,ay,a9,ba,C9,C8,Da,go_sem,simprocAttr,d3]
    with_reducible refine gB (fun d4=>?_) (fun d4=>?_)
    ·simp only[ar,ao,ax,av,aj,ai,al,ah,aO,aF,aN,aG,aE,aD,au,aH,aq,aw,af,ay,a9,ba,C9,C8,Da,go_sem,simprocAttr,d4]
    have q1:=Dv d1
    have q2:=Dv d2
    have q3:=Dv d3
    have q4:=Dv d4
    obtain⟨k,rfl⟩:∃k:Nat,nd=k:=⟨nd.toNat,by omega⟩
    have hkl:k<P.length:=by omega
    have hk1:1≤k:=by omega
    obtain⟨p,hp,hpl⟩:=uT hd hk1 hkl
    have e1:decide ((p:Int)<0)=false:=DR (by omega)
    have e2:decide ((L.length:Int)≤(p:Int))=false:=DR (by omega)
    have hL1:L1.length=P.length:=hI.hL
    have hM1:M1.length=P.length:=hI.hM
    obtain⟨a,ha⟩:=iy (l:=L1) (i:=k) (by omega)
    obtain⟨b,hb⟩:=iy (l:=L1) (i:=p) (by omega)
    have hgS:pn P keep (L1,M1,s1) ((k:Int),s,ak)=(L1.set k (toY (mr ak a b s)),M1.set k (if kO M1 keep p s (if ak then a else b)then s else -1),s):=by
     simp only[pn,EA,DY,hp,ha,hb,EE]
    rw[hgS]at hg1
    have hkL:k<L1.length:=by omega
    have hpL:p<L1.length:=by omega
    have hkM:k<(iS M1).length:=by simp[iS];omega
    have hkM2:k<(iS (M1.set k (-1))).length:=by simp[iS];omega
    have hkM3:k<M1.length:=by omega
    have hkLL:k<L.length:=by omega
    obtain⟨m1,hm1⟩:=iy hkM3
    have hm2:(M1.set k (-1))[k]?=some (-1):=EN hkM3
    obtain⟨c,hc⟩:∃c,(if ak then a else b)=c:=⟨_,rfl⟩
    have h12:=fun H=>xy 54 H c.o c.d s
    have h11:=fun es ro=>Ba 59 3 2 1 0 ⟨[.box [.aP 4 (eb L) fl,.aP 1 (iS P) fp],.box [FV keep],.arr 0 1 (iS M1) true,.box [.bt 2 0 0 L.length],.box [FV k,FV s,.bool ak]],es,ro⟩ M1 true keep p s (by rw[hM1,hPL];rfl) rfl rfl (by omega)
    have h10':=fun H=>Bq 59 H L1 false (by omega) (by omega)
    have h13:=fun H=>BY 51 H L1 false P false true k s ak p a b hL1 (by omega) (by omega) hd hk1 hkl hp hpl ha hb
    have hf:nM M1 keep p s=false∨(nM M1 keep p s=true∧decide (gO c.o c.d s=0)=false)∨(nM M1 keep p s=true∧decide (gO c.o c.d s=0)=true∧decide (0<cL c.o c.d s)=false)∨(nM M1 keep p s=true∧decide (gO c.o c.d s=0)=true∧decide (0<cL c.o c.d s)=true):=by
     cases nM M1 keep p s<;>cases decide (gO c.o c.d s=0)<;>cases decide (0<cL c.o c.d s)<;>simp
    have hDl32:∀d∈dL P,d≤32:=fun d hd'=>by
     simp only[dL,EI,Dn]at hd'
     obtain⟨w,hw,rfl⟩:=hd'
     have:=qE hd hw
     omega
    have ws:cY (s+1)=s+1:=aX (by omega) (by omega)
    unfold vg at h13
    cases r1:L1.any (fun a=>!rf a)with
    |true=>
     rw[r1]at h13
     cases ak with
     |false=>
      simp only[if_true,Dp,if_false]at hc
      subst hc
      rcases hf with f1|⟨f1,f2⟩|⟨f1,f2,f3⟩|⟨f1,f2,f3⟩
      ·rw[f1]at h11
       simp only[ar,ao,ax,av,aj,ai,al,ah,aO,aF,aN,aG,aE,aD,au,aH,aq,aw,af,ay,a9,ba,C9,C8,Da,go_sem,simprocAttr,d4,hkl,hp,e1,e2,hkL,hpL,ha,hb,h12,h11,h8,h10',h13,f1]
      ·rw[f1]at h11
       simp only[ar,ao,ax,av,aj,ai,al,ah,aO,aF,aN,aG,aE,aD,au,aH,aq,aw,af,ay,a9,ba,C9,C8,Da,go_sem,simprocAttr,d4,hkl,hp,e1,e2,hkL,hpL,ha,hb,h12,h11,h8,h10',h13,f1,f2]
      ·rw[f1]at h11
       simp only[ar,ao,ax,av,aj,ai,al,ah,aO,aF,aN,aG,aE,aD,au,aH,aq,aw,af,ay,a9,ba,C9,C8,Da,go_sem,simprocAttr,d4,hkl,hp,e1,e2,hkL,hpL,ha,hb,h12,h11,h8,h10',h13,f1,f2,f3]
      ·rw[f1]at h11
       simp only[ar,ao,ax,av,aj,ai,al,ah,aO,aF,aN,aG,aE,aD,au,aH,aq,aw,af,ay,a9,ba,C9,C8,Da,go_sem,simprocAttr,d4,hkl,hp,e1,e2,hkL,hpL,ha,hb,h12,h11,h8,h10',h13,f1,f2,f3]
     |true=>
      simp only[if_true,Dp,if_false]at hc
      subst hc
      rcases hf with f1|⟨f1,f2⟩|⟨f1,f2,f3⟩|⟨f1,f2,f3⟩
      ·rw[f1]at h11
       simp only[ar,ao,ax,av,aj,ai,al,ah,aO,aF,aN,aG,aE,aD,au,aH,aq,aw,af,ay,a9,ba,C9,C8,Da,go_sem,simprocAttr,d4,hkl,hp,e1,e2,hkL,hpL,ha,hb,h12,h11,h8,h10',h13,f1]
      ·rw[f1]at h11
       simp only[ar,ao,ax,av,aj,ai,al,ah,aO,aF,aN,aG,aE,aD,au,aH,aq,aw,af,ay,a9,ba,C9,C8,Da,go_sem,simprocAttr,d4,hkl,hp,e1,e2,hkL,hpL,ha,hb,h12,h11,h8,h10',h13,f1,f2]
      ·rw[f1]at h11
       simp only[ar,ao,ax,av,aj,ai,al,ah,aO,aF,aN,aG,aE,aD,au,aH,aq,aw,af,ay,a9,ba,C9,C8,Da,go_sem,simprocAttr,d4,hkl,hp,e1,e2,hkL,hpL,ha,hb,h12,h11,h8,h10',h13,f1,f2,f3]
      ·rw[f1]at h11
       simp only[ar,ao,ax,av,aj,ai,al,ah,aO,aF,aN,aG,aE,aD,au,aH,aq,aw,af,ay,a9,ba,C9,C8,Da,go_sem,simprocAttr,d4,hkl,hp,e1,e2,hkL,hpL,ha,hb,h12,h11,h8,h10',h13,f1,f2,f3]
    |false=>
     rw[r1]at h13
     cases r2:decide (v5 ak a b s=0)with
     |false=>
      rw[r2]at h13
      cases ak with
      |false=>
       simp only[if_true,Dp,if_false]at hc
       subst hc
       rcases hf with f1|⟨f1,f2⟩|⟨f1,f2,f3⟩|⟨f1,f2,f3⟩
       ·rw[f1]at h11
        simp only[ar,ao,ax,av,aj,ai,al,ah,aO,aF,aN,aG,aE,aD,au,aH,aq,aw,af,ay,a9,ba,C9,C8,Da,go_sem,simprocAttr,d4,hkl,hp,e1,e2,hkL,hpL,ha,hb,h12,h11,h8,h10',h13,f1,r2]
       ·rw[f1]at h11
        simp only[ar,ao,ax,av,aj,ai,al,ah,aO,aF,aN,aG,aE,aD,au,aH,aq,aw,af,ay,a9,ba,C9,C8,Da,go_sem,simprocAttr,d4,hkl,hp,e1,e2,hkL,hpL,ha,hb,h12,h11,h8,h10',h13,f1,f2,r2]
       ·rw[f1]at h11
        simp only[ar,ao,ax,av,aj,ai,al,ah,aO,aF,aN,aG,aE,aD,au,aH,aq,aw,af,ay,a9,ba,C9,C8,Da,go_sem,simprocAttr,d4,hkl,hp,e1,e2,hkL,hpL,ha,hb,h12,h11,h8,h10',h13,f1,f2,f3,r2]
       ·rw[f1]at h11
        simp only[ar,ao,ax,av,aj,ai,al,ah,aO,aF,aN,aG,aE,aD,au,aH,aq,aw,af,ay,a9,ba,C9,C8,Da,go_sem,simprocAttr,d4,hkl,hp,e1,e2,hkL,hpL,ha,hb,h12,h11,h8,h10',h13,f1,f2,f3,r2]
      |true=>
       simp only[if_true,Dp,if_false]at hc
       subst hc
       rcases hf with f1|⟨f1,f2⟩|⟨f1,f2,f3⟩|⟨f1,f2,f3⟩
       ·rw[f1]at h11
        simp only[ar,ao,ax,av,aj,ai,al,ah,aO,aF,aN,aG,aE,aD,au,aH,aq,aw,af,ay,a9,ba,C9,C8,Da,go_sem,simprocAttr,d4,hkl,hp,e1,e2,hkL,hpL,ha,hb,h12,h11,h8,h10',h13,f1,r2]
       ·rw[f1]at h11
        simp only[ar,ao,ax,av,aj,ai,al,ah,aO,aF,aN,aG,aE,aD,au,aH,aq,aw,af,ay,a9,ba,C9,C8,Da,go_sem,simprocAttr,d4,hkl,hp,e1,e2,hkL,hpL,ha,hb,h12,h11,h8,h10',h13,f1,f2,r2]
       ·rw[f1]at h11
        simp only[ar,ao,ax,av,aj,ai,al,ah,aO,aF,aN,aG,aE,aD,au,aH,aq,aw,af,ay,a9,ba,C9,C8,Da,go_sem,simprocAttr,d4,hkl,hp,e1,e2,hkL,hpL,ha,hb,h12,h11,h8,h10',h13,f1,f2,f3,r2]
       ·rw[f1]at h11
        simp only[ar,ao,ax,av,aj,ai,al,ah,aO,aF,aN,aG,aE,aD,au,aH,aq,aw,af,ay,a9,ba,C9,C8,Da,go_sem,simprocAttr,d4,hkl,hp,e1,e2,hkL,hpL,ha,hb,h12,h11,h8,h10',h13,f1,f2,f3,r2]
     |true=>
      have hS1:=hI.step hd (by omega) (by omega) (by omega) (by omega) hI0 hk1 hkl hp ha hb (D4 r2) (toY_st ak a b s) (fun x hx=>by
       have h:=(List.any_eq_false.1 r1) x hx
       cases hq:rf x with
       |true=>rfl
       |false=>simp[hq]at h)
      rw[r2,toY_st ak a b s,ud]at h13
      have hln2:(L1.set k (toY (mr ak a b s))).length=L.length:=by simp[hL1,hPL]
      rw[hc]at hg1 hS1
      cases ak with
      |false=>
       simp only[if_true,Dp,if_false]at hc
       subst hc
       rcases hf with f1|⟨f1,f2⟩|⟨f1,f2,f3⟩|⟨f1,f2,f3⟩
       ·rw[f1]at h11
        rw[show kO M1 keep p s _=false from by simp only[kO,f1,Eo,Eb,DH,Ed]]at hg1 hS1
        simp only[Dp,if_false]at hg1 hS1
        have h14:=fun es ro=>uq 51 3 2 1 0 ⟨[.box [.aP 4 (eb L) fl,.aP 1 (iS P) fp],.box [FV keep],.arr 0 1 (iS (M1.set k (-1))) true,.box [.bt 2 0 0 L.length],.box [FV k,FV s,.bool false]],es,ro⟩ (L1.set k (toY (mr false a b s))) false (dL P) true (M1.set k (-1)) true (s+1) keep (by rw[DZ,hM1,hPL];rfl) rfl rfl (by simp[hL1,hM1]) (by simp[fF,hL1]) (by simp[hL1];omega) hDl32 (by omega) (by omega) (fun x y=>hS1.1.pass hd (by omega) (by omega) (by omega) (by omega) (by omega) hS1.2 x y)
        simp only[ar,ao,ax,av,aj,ai,al,ah,aO,aF,aN,aG,aE,aD,au,aH,aq,aw,af,ay,a9,ba,C9,C8,Da,go_sem,simprocAttr,d4,hkl,hp,e1,e2,hkL,hpL,ha,hb,h12,h11,h8,h10',h13,f1,hln2,hkLL,hkM,hkM2,hkM3,hm1,hm2,fA,E0,ws,h14,hwi]
        exact⟨by first|trivial|omega,by simp only[hg1]<;>rfl,by rw[hg1];exact⟨hS1.1,show(0:Int)≤s by omega,show s≤10000 by omega⟩⟩
       ·rw[f1]at h11
        rw[show kO M1 keep p s _=false from by simp only[kO,f1,f2,Eo,Eb,DH,Ed]]at hg1 hS1
        simp only[Dp,if_false]at hg1 hS1
        have h14:=fun es ro=>uq 51 3 2 1 0 ⟨[.box [.aP 4 (eb L) fl,.aP 1 (iS P) fp],.box [FV keep],.arr 0 1 (iS (M1.set k (-1))) true,.box [.bt 2 0 0 L.length],.box [FV k,FV s,.bool false]],es,ro⟩ (L1.set k (toY (mr false a b s))) false (dL P) true (M1.set k (-1)) true (s+1) keep (by rw[DZ,hM1,hPL];rfl) rfl rfl (by simp[hL1,hM1]) (by simp[fF,hL1]) (by simp[hL1];omega) hDl32 (by omega) (by omega) (fun x y=>hS1.1.pass hd (by omega) (by omega) (by omega) (by omega) (by omega) hS1.2 x y)
        simp only[ar,ao,ax,av,aj,ai,al,ah,aO,aF,aN,aG,aE,aD,au,aH,aq,aw,af,ay,a9,ba,C9,C8,Da,go_sem,simprocAttr,d4,hkl,hp,e1,e2,hkL,hpL,ha,hb,h12,h11,h8,h10',h13,f1,f2,hln2,hkLL,hkM,hkM2,hkM3,hm1,hm2,fA,E0,ws,h14,hwi]
        exact⟨by first|trivial|omega,by simp only[hg1]<;>rfl,by rw[hg1];exact⟨hS1.1,show(0:Int)≤s by omega,show s≤10000 by omega⟩⟩
       ·rw[f1]at h11
        rw[show kO M1 keep p s _=false from by simp only[kO,f1,f2,f3,Eo,Eb,DH,Ed]]at hg1 hS1
        simp only[Dp,if_false]at hg1 hS1
        have h14:=fun es ro=>uq 51 3 2 1 0 ⟨[.box [.aP 4 (eb L) fl,.aP 1 (iS P) fp],.box [FV keep],.arr 0 1 (iS (M1.set k (-1))) true,.box [.bt 2 0 0 L.length],.box [FV k,FV s,.bool false]],es,ro⟩ (L1.set k (toY (mr false a b s))) false (dL P) true (M1.set k (-1)) true (s+1) keep (by rw[DZ,hM1,hPL];rfl) rfl rfl (by simp[hL1,hM1]) (by simp[fF,hL1]) (by simp[hL1];omega) hDl32 (by omega) (by omega) (fun x y=>hS1.1.pass hd (by omega) (by omega) (by omega) (by omega) (by omega) hS1.2 x y)
        simp only[ar,ao,ax,av,aj,ai,al,ah,aO,aF,aN,aG,aE,aD,au,aH,aq,aw,af,ay,a9,ba,C9,C8,Da,go_sem,simprocAttr,d4,hkl,hp,e1,e2,hkL,hpL,ha,hb,h12,h11,h8,h10',h13,f1,f2,f3,hln2,hkLL,hkM,hkM2,hkM3,hm1,hm2,fA,E0,ws,h14,hwi]
        exact⟨by first|trivial|omega,by simp only[hg1]<;>rfl,by rw[hg1];exact⟨hS1.1,show(0:Int)≤s by omega,show s≤10000 by omega⟩⟩
       ·rw[f1]at h11
        rw[show kO M1 keep p s _=true from by simp only[kO,f1,f2,f3,Eo,Eb,DH,Ed]]at hg1 hS1
        simp only[if_true]at hg1 hS1
        have h14:=fun es ro=>uq 51 3 2 1 0 ⟨[.box [.aP 4 (eb L) fl,.aP 1 (iS P) fp],.box [FV keep],.arr 0 1 (iS (M1.set k s)) true,.box [.bt 2 0 0 L.length],.box [FV k,FV s,.bool false]],es,ro⟩ (L1.set k (toY (mr false a b s))) false (dL P) true (M1.set k s) true (s+1) keep (by rw[DZ,hM1,hPL];rfl) rfl rfl (by simp[hL1,hM1]) (by simp[fF,hL1]) (by simp[hL1];omega) hDl32 (by omega) (by omega) (fun x y=>hS1.1.pass hd (by omega) (by omega) (by omega) (by omega) (by omega) hS1.2 x y)
        simp only[ar,ao,ax,av,aj,ai,al,ah,aO,aF,aN,aG,aE,aD,au,aH,aq,aw,af,ay,a9,ba,C9,C8,Da,go_sem,simprocAttr,d4,hkl,hp,e1,e2,hkL,hpL,ha,hb,h12,h11,h8,h10',h13,f1,f2,f3,hln2,hkLL,hkM,hkM2,hkM3,hm1,hm2,fA,E0,ws,h14,hwi]
        exact⟨by first|trivial|omega,by simp only[hg1]<;>rfl,by rw[hg1];exact⟨hS1.1,show(0:Int)≤s by omega,show s≤10000 by omega⟩⟩
      |true=>
       simp only[if_true,Dp,if_false]at hc
       subst hc
       rcases hf with f1|⟨f1,f2⟩|⟨f1,f2,f3⟩|⟨f1,f2,f3⟩
       ·rw[f1]at h11
        rw[show kO M1 keep p s _=false from by simp only[kO,f1,Eo,Eb,DH,Ed]]at hg1 hS1
        simp only[Dp,if_false]at hg1 hS1
        have h14:=fun es ro=>uq 51 3 2 1 0 ⟨[.box [.aP 4 (eb L) fl,.aP 1 (iS P) fp],.box [FV keep],.arr 0 1 (iS (M1.set k (-1))) true,.box [.bt 2 0 0 L.length],.box [FV k,FV s,.bool true]],es,ro⟩ (L1.set k (toY (mr true a b s))) false (dL P) true (M1.set k (-1)) true (s+1) keep (by rw[DZ,hM1,hPL];rfl) rfl rfl (by simp[hL1,hM1]) (by simp[fF,hL1]) (by simp[hL1];omega) hDl32 (by omega) (by omega) (fun x y=>hS1.1.pass hd (by omega) (by omega) (by omega) (by omega) (by omega) hS1.2 x y)
        simp only[ar,ao,ax,av,aj,ai,al,ah,aO,aF,aN,aG,aE,aD,au,aH,aq,aw,af,ay,a9,ba,C9,C8,Da,go_sem,simprocAttr,d4,hkl,hp,e1,e2,hkL,hpL,ha,hb,h12,h11,h8,h10',h13,f1,hln2,hkLL,hkM,hkM2,hkM3,hm1,hm2,fA,E0,ws,h14,hwi]
        exact⟨by first|trivial|omega,by simp only[hg1]<;>rfl,by rw[hg1];exact⟨hS1.1,show(0:Int)≤s by omega,show s≤10000 by omega⟩⟩
       ·rw[f1]at h11
        rw[show kO M1 keep p s _=false from by simp only[kO,f1,f2,Eo,Eb,DH,Ed]]at hg1 hS1
        simp only[Dp,if_false]at hg1 hS1
        have h14:=fun es ro=>uq 51 3 2 1 0 ⟨[.box [.aP 4 (eb L) fl,.aP 1 (iS P) fp],.box [FV keep],.arr 0 1 (iS (M1.set k (-1))) true,.box [.bt 2 0 0 L.length],.box [FV k,FV s,.bool true]],es,ro⟩ (L1.set k (toY (mr true a b s))) false (dL P) true (M1.set k (-1)) true (s+1) keep (by rw[DZ,hM1,hPL];rfl) rfl rfl (by simp[hL1,hM1]) (by simp[fF,hL1]) (by simp[hL1];omega) hDl32 (by omega) (by omega) (fun x y=>hS1.1.pass hd (by omega) (by omega) (by omega) (by omega) (by omega) hS1.2 x y)
        simp only[ar,ao,ax,av,aj,ai,al,ah,aO,aF,aN,aG,aE,aD,au,aH,aq,aw,af,ay,a9,ba,C9,C8,Da,go_sem,simprocAttr,d4,hkl,hp,e1,e2,hkL,hpL,ha,hb,h12,h11,h8,h10',h13,f1,f2,hln2,hkLL,hkM,hkM2,hkM3,hm1,hm2,fA,E0,ws,h14,hwi]
        exact⟨by first|trivial|omega,by simp only[hg1]<;>rfl,by rw[hg1];exact⟨hS1.1,show(0:Int)≤s by omega,show s≤10000 by omega⟩⟩
       ·rw[f1]at h11
        rw[show kO M1 keep p s _=false from by simp only[kO,f1,f2,f3,Eo,Eb,DH,Ed]]at hg1 hS1
        simp only[Dp,if_false]at hg1 hS1
        have h14:=fun es ro=>uq 51 3 2 1 0 ⟨[.box [.aP 4 (eb L) fl,.aP 1 (iS P) fp],.box [FV keep],.arr 0 1 (iS (M1.set k (-1))) true,.box [.bt 2 0 0 L.length],.box [FV k,FV s,.bool true]],es,ro⟩ (L1.set k (toY (mr true a b s))) false (dL P) true (M1.set k (-1)) true (s+1) keep (by rw[DZ,hM1,hPL];rfl) rfl rfl (by simp[hL1,hM1]) (by simp[fF,hL1]) (by simp[hL1];omega) hDl32 (by omega) (by omega) (fun x y=>hS1.1.pass hd (by omega) (by omega) (by omega) (by omega) (by omega) hS1.2 x y)
        simp only[ar,ao,ax,av,aj,ai,al,ah,aO,aF,aN,aG,aE,aD,au,aH,aq,aw,af,ay,a9,ba,C9,C8,Da,go_sem,simprocAttr,d4,hkl,hp,e1,e2,hkL,hpL,ha,hb,h12,h11,h8,h10',h13,f1,f2,f3,hln2,hkLL,hkM,hkM2,hkM3,hm1,hm2,fA,E0,ws,h14,hwi]
        exact⟨by first|trivial|omega,by simp only[hg1]<;>rfl,by rw[hg1];exact⟨hS1.1,show(0:Int)≤s by omega,show s≤10000 by omega⟩⟩
       ·rw[f1]at h11
        rw[show kO M1 keep p s _=true from by simp only[kO,f1,f2,f3,Eo,Eb,DH,Ed]]at hg1 hS1
        simp only[if_true]at hg1 hS1
        have h14:=fun es ro=>uq 51 3 2 1 0 ⟨[.box [.aP 4 (eb L) fl,.aP 1 (iS P) fp],.box [FV keep],.arr 0 1 (iS (M1.set k s)) true,.box [.bt 2 0 0 L.length],.box [FV k,FV s,.bool true]],es,ro⟩ (L1.set k (toY (mr true a b s))) false (dL P) true (M1.set k s) true (s+1) keep (by rw[DZ,hM1,hPL];rfl) rfl rfl (by simp[hL1,hM1]) (by simp[fF,hL1]) (by simp[hL1];omega) hDl32 (by omega) (by omega) (fun x y=>hS1.1.pass hd (by omega) (by omega) (by omega) (by omega) (by omega) hS1.2 x y)
        simp only[ar,ao,ax,av,aj,ai,al,ah,aO,aF,aN,aG,aE,aD,au,aH,aq,aw,af,ay,a9,ba,C9,C8,Da,go_sem,simprocAttr,d4,hkl,hp,e1,e2,hkL,hpL,ha,hb,h12,h11,h8,h10',h13,f1,f2,f3,hln2,hkLL,hkM,hkM2,hkM3,hm1,hm2,fA,E0,ws,h14,hwi]
        exact⟨by first|trivial|omega,by simp only[hg1]<;>rfl,by rw[hg1];exact⟨hS1.1,show(0:Int)≤s by omega,show s≤10000 by omega⟩⟩
   ·obtain rfl:i=S.length:=by omega
    have hil:¬S.length<S.length:=by omega
    simp only[ar,ao,ax,av,aj,ai,al,ah,aO,aF,aN,aG,aE,aD,au,aH,aq,aw,af,ay,a9,ba,C9,C8,Da,go_sem,simprocAttr,hil]
end K
end Go.Sh
