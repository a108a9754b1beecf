/- Part of the proof of FieldSlotsSaid: texts K19a, K19o, K19rs. -/
import Derived.Test.YtcfgikdpokjhpaaGreatB13
import Derived.Test.YtcfgikdpokjhpaaGreatB7
import Derived.Test.YtcfgikdpokjhpaaGreatB11
namespace Go.Sh
set_option linter.unusedSectionVars false
set_option linter.unnecessarySimpa false
set_option linter.unusedSimpArgs false
set_option linter.unusedVariables false
set_option maxRecDepth 100000
set_option maxHeartbeats 4000000
theorem Z7(H:ae):aa T 60 (.fn 10) [] H=some (.bool true,H):=by
 have h1:=Ob
 have h2:=LO
 have h3:=MY
 have h4:=Mj
 simp only[Db,C2,Gi,Ig,abV,abM]at h1 h2 h3 h4
 refine ab MO (by rfl) ?_
 simp only[Xx,ah,go_sem,simprocAttr,h1,h2,h3,h4]
theorem E2{es:List DT}{cs:List SV}(h:cC (.str::es) cs):∃b r,cs=.str b::r∧b.size≤maxLen∧cC es r:=by
 obtain⟨c,r,rfl,h1,h2⟩:=mg h
 obtain⟨b,rfl,hb⟩:=BL h1
 exact⟨b,r,rfl,hb,h2⟩
abbrev MG(f:Fi)(s:Int)(A:List Ac)(fl:Bool):List SV:=[.ay 2 (G.cW f.N) f.f1,.ay 1 (G.cM f.P) f.f2,.ay 5 (G.ey f.W) f.f3,aew f.ex,aew f.no,aew f.th,
 .ay 7 (U.c0 f.S) f.g1,.ay 6 (U.cZ f.F) f.g2,.ay 2 (G.cW f.K) f.h1,aew f.v,aew f.a,aew f.b,.ay 1 (iS f.C) f.h2,aew s,.ay 14 (qK A) fl]
abbrev WK:List DT:=[.int .i64,.int .i64,.int .i64,.int .i64,.int .i64,.int .i64,.int .i64,.int .i64,.int .i64,.int .i64,.int .i64,.int .i64,.int .i64,.str]
abbrev T9:List DT:=[.ay [.int .i64,.int .i64],.ay [.int .i64],.ay [.int .i64,.int .i64,.int .i64,.int .i64,.int .i64],.int .i64,.int .i64,.int .i64,
 .ay [.int .i64,.int .i64,.int .i64,.ay [.int .i64],.int .i64,.int .i64,.int .i64],.ay [.int .i64,.int .i64,.int .i64,.int .i64,.int .i64,.int .i64],
 .ay [.int .i64,.int .i64],.int .i64,.int .i64,.int .i64,.ay [.int .i64],.int .i64,.ay WK]
abbrev N0:Bool×List DT:=(true,T9)
theorem n9:∀{L:List (List SV)},(∀q∈L,cC [.int .i64,.int .i64] q)→∃N,L=G.cW N
 |[],_=>⟨[],rfl⟩
 |r::L,h=>by
  obtain⟨N,rfl⟩:=n9 (L:=L) (fun q hq=>h q (by simp[hq]))
  have h0:=h r (by simp)
  obtain⟨a,_,rfl,_,h0⟩:=aU h0
  obtain⟨b,_,rfl,_,h0⟩:=aU h0
  cases ch h0
  exact⟨(a,b)::N,rfl⟩
theorem jR:∀{L:List (List SV)},(∀q∈L,cC [.int .i64] q)→∃N,L=G.cM N
 |[],_=>⟨[],rfl⟩
 |r::L,h=>by
  obtain⟨N,rfl⟩:=jR (L:=L) (fun q hq=>h q (by simp[hq]))
  have h0:=h r (by simp)
  obtain⟨a,_,rfl,_,h0⟩:=aU h0
  cases ch h0
  exact⟨a::N,rfl⟩
theorem kK:∀{L:List (List SV)},(∀q∈L,cC [.int .i64] q)→∃N,L=iS N
 |[],_=>⟨[],rfl⟩
 |r::L,h=>by
  obtain⟨N,rfl⟩:=kK (L:=L) (fun q hq=>h q (by simp[hq]))
  have h0:=h r (by simp)
  obtain⟨a,_,rfl,_,h0⟩:=aU h0
  cases ch h0
  exact⟨a::N,rfl⟩
theorem pL:∀{L:List (List SV)},(∀q∈L,cC [.int .i64,.int .i64,.int .i64,.int .i64,.int .i64] q)→∃N,L=G.ey N
 |[],_=>⟨[],rfl⟩
 |r::L,h=>by
  obtain⟨N,rfl⟩:=pL (L:=L) (fun q hq=>h q (by simp[hq]))
  have h0:=h r (by simp)
  obtain⟨a,_,rfl,_,h0⟩:=aU h0
  obtain⟨b,_,rfl,_,h0⟩:=aU h0
  obtain⟨c,_,rfl,_,h0⟩:=aU h0
  obtain⟨d,_,rfl,_,h0⟩:=aU h0
  obtain⟨f,_,rfl,_,h0⟩:=aU h0
  cases ch h0
  exact⟨⟨a,b,c,d,f⟩::N,rfl⟩
theorem pQ:∀{L:List (List SV)},(∀q∈L,cC [.int .i64,.int .i64,.int .i64,.ay [.int .i64],.int .i64,.int .i64,.int .i64] q)→∃S,L=U.c0 S∧∀s∈S,s.C.length≤maxLen
 |[],_=>⟨[],rfl,fun s h=>by cases h⟩
 |r::L,h=>by
  obtain⟨N,rfl,hN⟩:=pQ (L:=L) (fun q hq=>h q (by simp[hq]))
  have k:=h r (by simp)
  obtain⟨a,_,rfl,_,k⟩:=aU k
  obtain⟨b,_,rfl,_,k⟩:=aU k
  obtain⟨p,_,rfl,_,k⟩:=aU k
  obtain⟨L1,f1,_,rfl,m1,a1,k⟩:=dC k
  obtain⟨fU,_,rfl,_,k⟩:=aU k
  obtain⟨fr,_,rfl,_,k⟩:=aU k
  obtain⟨to,_,rfl,_,k⟩:=aU k
  cases ch k
  obtain⟨C,rfl⟩:=kK a1
  exact⟨⟨a,b,p,C,f1,fU,fr,to⟩::N,rfl,fun t ht=>by
   rcases abK.1 ht with rfl|ht
   ·simpa[iS]using m1
   ·exact hN t ht⟩
theorem qn:∀{L:List (List SV)},(∀q∈L,cC [.int .i64,.int .i64,.int .i64,.int .i64,.int .i64,.int .i64] q)→∃S,L=U.cZ S
 |[],_=>⟨[],rfl⟩
 |r::L,h=>by
  obtain⟨N,rfl⟩:=qn (L:=L) (fun q hq=>h q (by simp[hq]))
  have k:=h r (by simp)
  obtain⟨a,_,rfl,_,k⟩:=aU k
  obtain⟨b,_,rfl,_,k⟩:=aU k
  obtain⟨c,_,rfl,_,k⟩:=aU k
  obtain⟨x,_,rfl,_,k⟩:=aU k
  obtain⟨y,_,rfl,_,k⟩:=aU k
  obtain⟨f,_,rfl,_,k⟩:=aU k
  cases ch k
  exact⟨⟨a,b,c,x,y,f⟩::N,rfl⟩
theorem Cq:∀{L:List (List SV)},(∀q∈L,cC WK q)→∃A,L=qK A
 |[],_=>⟨[],rfl⟩
 |r::L,h=>by
  obtain⟨N,rfl⟩:=Cq (L:=L) (fun q hq=>h q (by simp[hq]))
  have k:=h r (by simp)
  obtain⟨a1,_,rfl,_,k⟩:=aU k
  obtain⟨a2,_,rfl,_,k⟩:=aU k
  obtain⟨a3,_,rfl,_,k⟩:=aU k
  obtain⟨a4,_,rfl,_,k⟩:=aU k
  obtain⟨a5,_,rfl,_,k⟩:=aU k
  obtain⟨a6,_,rfl,_,k⟩:=aU k
  obtain⟨a7,_,rfl,_,k⟩:=aU k
  obtain⟨a8,_,rfl,_,k⟩:=aU k
  obtain⟨a9,_,rfl,_,k⟩:=aU k
  obtain⟨a10,_,rfl,_,k⟩:=aU k
  obtain⟨a11,_,rfl,_,k⟩:=aU k
  obtain⟨a12,_,rfl,_,k⟩:=aU k
  obtain⟨a13,_,rfl,_,k⟩:=aU k
  obtain⟨x,_,rfl,_,k⟩:=E2 k
  cases ch k
  exact⟨⟨a1,a2,a3,a4,a5,a6,a7,a8,a9,a10,a11,a12,a13,x⟩::N,rfl⟩
theorem FG{x:SV}(h:sd N0 x):∃f s A fl,x=.agg (MG f s A fl)∧f.S.length≤maxLen∧A.length≤maxLen∧(f.C.length≤1000→Bd f):=by
 obtain⟨cs,rfl,k⟩:=rS h
 obtain⟨L1,f1,_,rfl,m1,a1,k⟩:=dC k
 obtain⟨L2,f2,_,rfl,m2,a2,k⟩:=dC k
 obtain⟨L3,f3,_,rfl,m3,a3,k⟩:=dC k
 obtain⟨ex,_,rfl,_,k⟩:=aU k
 obtain⟨no,_,rfl,_,k⟩:=aU k
 obtain⟨th,_,rfl,_,k⟩:=aU k
 obtain⟨L4,g1,_,rfl,m4,a4,k⟩:=dC k
 obtain⟨L5,g2,_,rfl,m5,a5,k⟩:=dC k
 obtain⟨L6,h1,_,rfl,m6,a6,k⟩:=dC k
 obtain⟨v,_,rfl,_,k⟩:=aU k
 obtain⟨a,_,rfl,_,k⟩:=aU k
 obtain⟨b,_,rfl,_,k⟩:=aU k
 obtain⟨L7,h2,_,rfl,m7,a7,k⟩:=dC k
 obtain⟨s,_,rfl,_,k⟩:=aU k
 obtain⟨L8,fl,_,rfl,m8,a8,k⟩:=dC k
 cases ch k
 obtain⟨N,rfl⟩:=n9 a1
 obtain⟨P,rfl⟩:=jR a2
 obtain⟨W,rfl⟩:=pL a3
 obtain⟨S,rfl,hS⟩:=pQ a4
 obtain⟨F,rfl⟩:=qn a5
 obtain⟨K,rfl⟩:=n9 a6
 obtain⟨C,rfl⟩:=kK a7
 obtain⟨A,rfl⟩:=Cq a8
 have m4':S.length≤maxLen:=by simpa[U.c0]using m4
 exact⟨⟨N,P,W,f1,f2,f3,ex,no,th,S,g1,F,g2,K,h1,v,a,b,C,h2⟩,s,A,fl,rfl,m4',by simpa[qK]using m8,fun hc=>⟨by simpa[G.cW]using m1,by simpa[G.cM]using m2,by simpa[G.ey]using m3,⟨m4',hS⟩,by simpa[U.cZ]using m5,by simpa[G.cW]using m6,hc⟩⟩
theorem Z9(n:Nat)(H:ae)(f:Fi)(s:Int)(A:List Ac)(fl:Bool)(hS:f.S.length≤maxLen)(hA:A.length≤maxLen):aa T (n+4) (.fn 12) [.agg (MG f s A fl)] H=some (.bool (wZ f&&pE A),H):=by
 have h1:=fun H=>YL n H f hS
 have h2:=fun H=>Yi (n+2) H A fl hA
 refine ab Mf (by rfl) ?_
 cases a1:wZ f<;>rw[a1]at h1<;>simp only[XR,ah,go_sem,simprocAttr,h1,h2,abo,abk]
theorem wD{f:Fi}{A:List Ac}(h:(wZ f&&pE A)=true):f.C.length≤20∧A.length≤40∧∀a∈A,a.x.size≤200:=by
 simp only[aa1,wZ,pE,aaX]at h
 obtain⟨⟨_,hC⟩,hA⟩:=h
 cases hx:(A.take 40).any (fun a=>decide (200<a.x.size))with
 |true=>rw[hx]at hA;cases hA
 |false=>
  rw[hx]at hA
  simp only[abc,aaX]at hA
  refine⟨hC,hA,fun a ha=>?_⟩
  rw[abu hA,ab3]at hx
  have:=hx a ha
  simp only[aaX]at this
  omega
theorem DY(f:Fi)(hb:Bd f)(s:Int)(Z:List Ac):(o9 f hb s Z).length=Z.length:=by
 unfold o9;rw[nR,(pK f hb s Z).lR]
theorem Dw(f:Fi)(hb:Bd f)(s:Int)(Z:List Ac)(hZ:Z.length≤40):(gM f hb s Z).L.length≤2000:=by
 refine abv (tw f hb s Z (aR f s Z Z.length) _ _) ?_
 have la:=gP f s Z Z.length
 have e2:=aeg (show(dt (aR f s Z Z.length)).length≤40 by rw[gO];omega) hZ
 have e3:(rq (aR f s Z Z.length) Z.length).L.length=(aR f s Z Z.length).length:=rfl
 omega
theorem s4(f:Fi)(s:Int)(Z:List Ac)(fl:Bool)(hS:f.S.length≤maxLen)(hA:Z.length≤maxLen)(hb:f.C.length≤1000→Bd f):aa T 61 (.fn 4) [.agg (MG f s Z fl)] ah=some (.bool true,ah):=by
 have h10:=fun H=>Z7 H
 have h12:=fun H=>Z9 56 H f s Z fl hS hA
 refine ab e4 (by rfl) ?_
 cases hf:wZ f&&pE Z with
 |false=>rw[hf]at h12;simp only[c4,ah,go_sem,simprocAttr,h10,h12]
 |true=>
  obtain⟨hC,hA4,hx⟩:=wD hf
  have hb:=hb (by omega)
  rw[hf]at h12
  have h11:=fun H=>ZO 0 H f hb s Z fl (by omega) (fun a ha=>abv (hx a ha) (by decide))
  have h17:=fun H=>s17 0 H f hb s Z fl (by omega)
  have h18:=fun H=>SY 59 H (o9 f hb s Z) true true (by rw[DY];exact hA)
  have h19:=fun H=>T5 59 H (gM f hb s Z).L false false (abv (Dw f hb s Z hA4) (by decide))
  have h18z:=fun H=>Uz 59 H
  have h19y:=fun H=>Ue 59 H
  have h19z:=fun H=>SD 59 H
  rw[MX]at h17
  unfold Qf at h11
  simp only[ach,Nat.reduceAdd]at h11 h17 h18 h19 h18z h19y h19z
  cases he:decide (wO f s Z=0)with
  |false=>
   rw[he]at h11 h17
   simp only[abc]at h11 h17
   simp only[c4,ah,go_sem,simprocAttr,h10,h12,h11,h17,h18z,h19y,ace]
  |true=>
   rw[he]at h11 h17
   simp only[abb]at h11 h17
   cases hn:(aR f s Z Z.length).isEmpty with
   |false=>
    rw[hn]at h11
    simp only[abc]at h11
    simp only[c4,ah,go_sem,simprocAttr,h10,h12,h11,h17,h18,h19,ace]
   |true=>
    have hnil:=List.isEmpty_iff.1 hn
    have hL:A.bK (gM f hb s Z).L=[]:=by unfold gM;rw[hnil];rfl
    rw[hn]at h11
    rw[hL]at h17
    simp only[abb]at h11
    simp only[c4,ah,go_sem,simprocAttr,h10,h12,h11,h17,h18,h19z,ace]
theorem R2(xs:List SV)(h:ju [N0] xs):∃m,aa T m (.fn 4) xs ah=some (.bool true,ah):=by
 obtain⟨x1,r1,rfl,h1,h⟩:=sL h
 cases vA h
 obtain⟨f,s,A,fl,rfl,hS,hA,hb⟩:=FG h1
 exact⟨61,s4 f s A fl hS hA hb⟩
end Go.Sh
