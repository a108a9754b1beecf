/- Part of the proof of FieldSlotsSaid: texts K19ra, K19rc, K19rd, K19re, K19rf, K19rg, K19rga, K19rh, K19ri, K19rj, K19rk, K19rl, K19rb, K19rm, K19rn, K19ro, K19rp, K19rq, K19rr, ShOr. -/
import Derived.Test.YtcfgikdpokjhpaaGreatB7
import Derived.Test.YtcfgikdpokjhpaaGreatB9
import Derived.Test.YtcfgikdpokjhpaaGreatB10
import Derived.Test.YtcfgikdpokjhpaaGreatB3
namespace Go.Sh
set_option linter.unusedSectionVars false
set_option linter.unnecessarySimpa false
set_option linter.unusedSimpArgs false
set_option linter.unusedVariables false
set_option maxRecDepth 100000
set_option maxHeartbeats 4000000
structure Rs where
 ak:Bool
 hd:Bool
 k:Int
 s:Int
 d:Int
 q:Int
 o:Int
 c:Int
 m:Int
 e:Int
 t:Int
 u:Int
 v:Int
 x:ByteArray
 er:Int
abbrev Na(r:Rs):List SV:=[.bool r.ak,.bool r.hd,aew r.k,aew r.s,aew r.d,aew r.q,aew r.o,aew r.c,aew r.m,aew r.e,aew r.t,aew r.u,aew r.v,.str r.x,aew r.er]
def Dv:Rs:=⟨false,false,0,0,0,0,0,0,0,0,0,0,0,⟨⟨[]⟩⟩,0⟩
def By(a:Ac)(d:Int):Rs:=⟨false,true,a.k,a.s,a.d,a.q,a.o,a.c,a.m,a.e,a.t,a.u,a.v,a.x,d⟩
def Ar(d:Int):Rs:=⟨true,false,0,0,0,0,0,0,0,0,0,0,0,⟨⟨[]⟩⟩,d⟩
def kr(R:List Rs):List (List SV):=R.map Na
@[go_sem] theorem tC {R:List Rs}:(kr R).length=R.length:=by simp[kr]
@[go_sem] theorem Ow {R:List Rs}{i:Nat}:(kr R)[i]?=(R[i]?).map Na:=by simp[kr]
theorem pv(R:List Rs)(i:Nat)(r:Rs):(kr R).set i (Na r)=kr (R.set i r):=by simp[kr,List.map_set]
theorem yl(n:Nat):List.replicate n (Na Dv)=kr (List.replicate n Dv):=by simp[kr]
def jf(f:Fi)(hb:Bd f):A.Sn:=⟨f.N,f.P,f.W,f.f1,f.f2,f.f3,f.ex,f.no,f.th,f.S,f.g1,f.F,f.g2,hb.N,hb.P,hb.W,hb.S,hb.F⟩
def oy(f:Fi)(s:Int)(i:Nat)(a:Ac):A.Em:=⟨i,oT.qV f.v f.a f.b f.C s a.of,tp (eH f i).1 (eH f i).2 s,bj (tp (eH f i).1 (eH f i).2 s+CO a)⟩
def wi(f:Fi)(s:Int)(i:Nat)(a:Ac):Int:=bif decide (0≤a.d)then bj ((oy f s i a).y+1832)else(oy f s i a).y
def l5(f:Fi)(s:Int)(i:Nat)(a:Ac):Bool:=!decide (zN (eH f i).1 (eH f i).2 s=0)||decide (1099511627776<wi f s i a)
def zr(f:Fi)(s:Int)(i:Nat):Bool:=!decide (GO (eH f i).1 (eH f i).2 s=0)
def mw(f:Fi)(s:Int)(i:Nat)(a:Ac):Bool:=bif decide (a.kd=1)then l5 f s i a else bif decide (a.kd=2)then zr f s i else false
theorem lg{f:Fi}{i:Nat}(h:i<f.K.length):f.K[i]?=some (eH f i):=by
 rw[eH,abA,abD,aa9 h];rfl
theorem Zy(n b i:Nat)(H:ae)(f:Fi)(s:Int)(Z:List Ac)(fl:Bool)(x y z:SV)(hb:H.bl[b]?=some (.box (nH f s Z fl x y z)))(hi:i<f.K.length) :
 aa T (n+7) (.fn 40) [.ptr b 0 0 0,aew i] H=some (aew (bif zr f s i then 15 else 0),H):=by
 refine dW Z2 rfl rfl (fun R k bl ro r hbl hk=>?_)
 obtain rfl:bl=H.bl:=by
  rcases hbl with⟨rfl,h0⟩|rfl
  ·simp[SV.refs.aJ,SV.refs]at h0
  ·rfl
 have h67:=fun H'=>X7 n H' (eH f i).1 (eH f i).2 s
 have hg:=lg hi
 unfold zr at hk
 generalize eH f i=p at hg h67 hk
 have:=hk []
 rw[abQ]at this
 cases hc:decide (GO p.1 p.2 s=0)with
 |true=>
  rw[hc]at this
  simp only[Wr,aF,aB,aE,aD,au,al,ao,aq,bg,aN,bb,aQ,aM,aP,aI,aO,aH,aG,an,ai,bA,bz,aaU,aaT,aa5,go_sem,simprocAttr,hb,hg,hi,h67,hc,G.aL]
  exact this
 |false=>
  rw[hc]at this
  simp only[Wr,aF,aB,aE,aD,au,al,ao,aq,bg,aN,bb,aQ,aM,aP,aI,aO,aH,aG,an,ai,bA,bz,aaU,aaT,aa5,go_sem,simprocAttr,hb,hg,hi,h67,hc,G.aL]
  exact this
theorem ZY(n b i:Nat)(H:ae):aa T (n+1) (.fn 41) [.ptr b 0 0 0,aew i] H=some (aex,H):=by
 refine dW e41 rfl rfl (fun R k bl ro r hbl hk=>?_)
 simp only[Xn,aF,aB,aE,aD,au,al,ao,aq,bg,aN,bb,aQ,aM,aP,aI,aO,aH,aG,an,ai,bA,bz,aaU,aaT,aa5,go_sem,simprocAttr]
 have:=hk []
 rw[abQ]at this
 exact this
abbrev Ao(i:Nat)(x:A.Em)(a:Ac)(ak er:Int):List SV:=[aew i,aew x.n,aew x.c,aew x.x,aew x.y,aew a.k,aew a.s,aew a.d,aew a.q,aew a.o,aew a.c,aew a.m,aew a.e,aew a.t,aew a.u,aew a.v,.str a.x,aew ak,aew er]
theorem kY(L:List A.Em)(x:A.Em):A.bK L++[A.ra x]=A.bK (L++[x]):=by simp[A.bK]
theorem ya(M:List Nat)(b:Nat):pS M++[[.ptr b 0 0 0]]=pS (M++[b]):=by simp[pS]
theorem bD{A:Type}{bl:List A}{a b:Nat}{x y:A}(ha:bl[a]?=some x)(hb:bl[b]?=some y)(h:x≠y):a≠b:=fun e=>by
 subst e
 rw[ha]at hb
 cases hb
 exact h rfl
theorem m8:decide (8≤bX)=true:=by decide
theorem m32:decide (32≤bX)=true:=by decide
theorem QU(n pb i:Nat)(bl:List aK)(es:List (Nat×Nat))(f:Fi)(s:Int)(Z:List Ac)(fl:Bool)(rv:SV)(a:Ac)(hC:f.C.length≤1000)(hb:bl[pb]?=some (.box (nH f s Z fl (.ay 0 [] true) (.ay 0 [] true) rv)))
 (ha:Z[i]?=some a) (hi:i<f.K.length) (hx:a.x.size≤10000) :
 ∃H',aa T (n+10) (.fn 39) [.ptr pb 0 0 0,aew i] ⟨bl,es,0⟩=some (aew (bif l5 f s i a then 15 else 0),H')∧(l5 f s i a=false→∃es',
  H'=⟨bl.set pb (.box (nH f s Z fl (.bp (bl.length+4) 0 0 1) (.bp (bl.length+3) 0 0 1) rv))++[.box (Dp a),.box (Ao i (oy f s i a) a (-1) 0),.arr 0 1 (pS [bl.length+1]) true,.arr 0 1 (pS [bl.length+1]) false,.arr 0 4 (A.bK [oy f s i a]) false],es',0⟩):=by
 have hpl:=(aaS.1 hb).1
 have hA:=(aaS.1 ha).1
 have hg:=lg hi
 have h66:=fun H'=>Yg (n+3) H' (eH f i).1 (eH f i).2 s
 have h78:=fun H'=>XK n H' a hx
 have h58:=fun H' hv=>QF (n+3) pb i H' f s Z fl (.ay 0 [] true) (.ay 0 [] true) rv a hC hv ha hA
 have g1:∀l,(bl++l)[pb]?=some (.box (nH f s Z fl (.ay 0 [] true) (.ay 0 [] true) rv)):=fun l=>gf hb
 have s1:∀l X,(bl++l).set pb X=bl.set pb X++l:=fun l X=>acr _ _ hpl
 have l1:∀X,(bl.set pb X).length=bl.length:=fun X=>abf
 have g2:∀X l,(bl.set pb X++l)[pb]?=some X:=fun X l=>by rw[aa6 (by rw[l1];exact hpl),abm hpl]
 have s2:∀X Y l,(bl.set pb X++l).set pb Y=bl.set pb Y++l:=fun X Y l=>by rw[acr _ _ (by rw[l1];exact hpl),adK]
 have hpl2:decide (pb<bl.length+5)=true:=aaV (by omega)
 have hp3:decide (bl.length+3≤pb)=false:=aaZ (by omega)
 have hp4:decide (bl.length+4≤pb)=false:=aaZ (by omega)
 unfold l5 wi oy
 generalize eH f i=p at hg h66⊢
 obtain⟨X,hX⟩:∃X,bj (tp p.1 p.2 s+CO a)=X:=⟨_,rfl⟩
 rw[hX]
 suffices h:∃r,aa T (n+10) (.fn 39) [.ptr pb 0 0 0,aew i] ⟨bl,es,0⟩=some r∧r.1=aew (bif !decide (zN p.1 p.2 s=0)||decide (1099511627776<bif decide (0≤a.d)then bj (X+1832)else X)then 15 else 0)∧((!decide (zN p.1 p.2 s=0)||decide (1099511627776<bif decide (0≤a.d)then bj (X+1832)else X))=false→∃es',
  r.2=⟨bl.set pb (.box (nH f s Z fl (.bp (bl.length+4) 0 0 1) (.bp (bl.length+3) 0 0 1) rv))++[.box (Dp a),.box (Ao i ⟨i,oT.qV f.v f.a f.b f.C s a.of,tp p.1 p.2 s,X⟩ a (-1) 0),.arr 0 1 (pS [bl.length+1]) true,.arr 0 1 (pS [bl.length+1]) false,.arr 0 4 (A.bK [⟨i,oT.qV f.v f.a f.b f.C s a.of,tp p.1 p.2 s,X⟩]) false],es',0⟩) by
  obtain⟨⟨v,H'⟩,h1,rfl,h3⟩:=h
  exact⟨H',h1,h3⟩
 refine dh W2 (by rfl) ?_
 cases hc1:decide (zN p.1 p.2 s=0)with
 |false=>
  simp only[zS,aF,aB,aE,aD,au,al,ao,aq,bg,aN,bb,aQ,aM,aP,aI,aO,aH,aG,an,ai,bA,bz,aaU,aaT,aa5,go_sem,simprocAttr,hb,g1,hg,hi,h66,hc1,G.aL]
  exact⟨trivial,fun h=>by cases h⟩
 |true=>
  cases hd:decide (0≤a.d)with
  |true=>
   cases hc2:decide (1099511627776<bj (X+1832))with
   |true=>
    simp only[zS,aF,aB,aE,aD,au,al,ao,aq,bg,aN,bb,aQ,aM,aP,aI,aO,aH,aG,an,ai,bA,bz,aaU,aaT,aa5,go_sem,simprocAttr,hb,g1,hg,hi,hA,ha,h66,h78,h58,hc1,hc2,hd,hX,G.aL]
    exact⟨trivial,fun h=>by cases h⟩
   |false=>
    simp only[zS,aF,aB,aE,aD,au,al,ao,aq,bg,aN,bb,aQ,aM,aP,aI,aO,aH,aG,an,ai,bA,bz,aaU,aaT,aa5,go_sem,simprocAttr,hb,g1,hg,hi,hA,ha,h66,h78,h58,hc1,hc2,hd,hX,G.aL,s1,l1,g2,s2,hpl2,hp3,hp4,m8,m32]
    exact⟨trivial,fun _=>⟨_,rfl⟩⟩
  |false=>
   cases hc2:decide (1099511627776<X)with
   |true=>
    simp only[zS,aF,aB,aE,aD,au,al,ao,aq,bg,aN,bb,aQ,aM,aP,aI,aO,aH,aG,an,ai,bA,bz,aaU,aaT,aa5,go_sem,simprocAttr,hb,g1,hg,hi,hA,ha,h66,h78,h58,hc1,hc2,hd,hX,G.aL]
    exact⟨trivial,fun h=>by cases h⟩
   |false=>
    simp only[zS,aF,aB,aE,aD,au,al,ao,aq,bg,aN,bb,aQ,aM,aP,aI,aO,aH,aG,an,ai,bA,bz,aaU,aaT,aa5,go_sem,simprocAttr,hb,g1,hg,hi,hA,ha,h66,h78,h58,hc1,hc2,hd,hX,G.aL,s1,l1,g2,s2,hpl2,hp3,hp4,m8,m32]
    exact⟨trivial,fun _=>⟨_,rfl⟩⟩
theorem Wx(n pb lb fb v v' i:Nat)(L:List A.Em)(q:List Nat)(bl:List aK)(es:List (Nat×Nat))(f:Fi)(s:Int)(Z:List Ac)(fl:Bool)(rv:SV)(a:Ac)(hC:f.C.length≤1000)(hb:bl[pb]?=some (.box (nH f s Z fl (.bp lb v 0 L.length) (.bp fb v' 0 q.length) rv)))
 (ha:Z[i]?=some a) (hi:i<f.K.length) (hx:a.x.size≤10000) (hlb:bl[lb]?=some (.arr v 4 (A.bK L) false)) (hfb:bl[fb]?=some (.arr v' 1 (pS q) false)) (hL:L.length≤1000) (hq:q.length≤1000) :
 ∃H',aa T (n+10) (.fn 39) [.ptr pb 0 0 0,aew i] ⟨bl,es,0⟩=some (aew (bif l5 f s i a then 15 else 0),H')∧(l5 f s i a=false→∃es',
  H'=⟨((bl.set fb (.arr (v'+1) 1 (pS (q++[bl.length+1])) false)).set lb (.arr (v+1) 4 (A.bK (L++[oy f s i a])) false)).set pb (.box (nH f s Z fl (.bp lb (v+1) 0 (L.length+1)) (.bp fb (v'+1) 0 (q.length+1)) rv))++[.box (Dp a),.box (Ao i (oy f s i a) a (-1) 0),.arr 0 1 (pS [bl.length+1]) true],es',0⟩):=by
 have hpl:=(aaS.1 hb).1
 have hA:=(aaS.1 ha).1
 have hg:=lg hi
 have h66:=fun H'=>Yg (n+3) H' (eH f i).1 (eH f i).2 s
 have h78:=fun H'=>XK n H' a hx
 have h58:=fun H' hv=>QF (n+3) pb i H' f s Z fl (.bp lb v 0 L.length) (.bp fb v' 0 q.length) rv a hC hv ha hA
 have g1:∀l,(bl++l)[pb]?=some (.box (nH f s Z fl (.bp lb v 0 L.length) (.bp fb v' 0 q.length) rv)):=fun l=>gf hb
 have hfl:=(aaS.1 hfb).1
 have hll:=(aaS.1 hlb).1
 have n1:fb≠pb:=bD hfb hb (fun h=>by cases h)
 have n2:lb≠pb:=bD hlb hb (fun h=>by cases h)
 have n3:fb≠lb:=bD hfb hlb (fun h=>by injection h with _ h2;cases h2)
 have g2:∀l,(bl++l)[fb]?=some (.arr v' 1 (pS q) false):=fun l=>gf hfb
 have g3:∀l,(bl++l)[lb]?=some (.arr v 4 (A.bK L) false):=fun l=>gf hlb
 have s1:∀l X,(bl++l).set fb X=bl.set fb X++l:=fun l X=>acr _ _ hfl
 have k1:∀X,(bl.set fb X).length=bl.length:=fun X=>abf
 have k2:∀X Y,((bl.set fb X).set lb Y).length=bl.length:=fun X Y=>by rw[abf,abf]
 have k3:∀X Y W,(((bl.set fb X).set lb Y).set pb W).length=bl.length:=fun X Y W=>by rw[abf,abf,abf]
 have s2:∀l X Y,(bl.set fb X++l).set lb Y=(bl.set fb X).set lb Y++l:=fun l X Y=>acr _ _ (by rw[k1];exact hll)
 have s3:∀l X Y W,((bl.set fb X).set lb Y++l).set pb W=((bl.set fb X).set lb Y).set pb W++l:=fun l X Y W=>acr _ _ (by rw[k2];exact hpl)
 have s4:∀l X Y W V,(((bl.set fb X).set lb Y).set pb W++l).set pb V=((bl.set fb X).set lb Y).set pb V++l:=fun l X Y W V=>by rw[acr _ _ (by rw[k3];exact hpl),adK]
 have t0:∀X l k,(bl.set fb X++l)[bl.length+k]?=l[k]?:=fun X l k=>by rw[←k1 X];exact aB _ _ _
 have t1:∀X l,(bl.set fb X++l)[pb]?=some (.box (nH f s Z fl (.bp lb v 0 L.length) (.bp fb v' 0 q.length) rv)):=fun X l=>by rw[aa6 (by rw[k1];exact hpl),aa2 n1,hb]
 have t2:∀X l,(bl.set fb X++l)[lb]?=some (.arr v 4 (A.bK L) false):=fun X l=>by rw[aa6 (by rw[k1];exact hll),aa2 n3,hlb]
 have t3:∀X Y l,((bl.set fb X).set lb Y++l)[pb]?=some (.box (nH f s Z fl (.bp lb v 0 L.length) (.bp fb v' 0 q.length) rv)):=fun X Y l=>by rw[aa6 (by rw[k2];exact hpl),aa2 n2,aa2 n1,hb]
 have t4:∀X Y W l,(((bl.set fb X).set lb Y).set pb W++l)[pb]?=some W:=fun X Y W l=>by rw[aa6 (by rw[k3];exact hpl),abm (by rw[k2];exact hpl)]
 have hgF:=fun H X=>eo 1 H fb v' q.length X (pS q) xr
 have hgL:=fun H X=>eo 4 H lb v L.length X (A.bK L) A.ep
 have m1:∀k,decide (fb<bl.length+k)=true:=fun k=>aaV (by omega)
 have m2:∀k,decide (lb<bl.length+k)=true:=fun k=>aaV (by omega)
 have m3:∀k,decide (pb<bl.length+k)=true:=fun k=>aaV (by omega)
 have r1:decide ((q.length+1)*8≤bX)=true:=ym hq
 have r2:decide ((L.length+1)*32≤bX)=true:=by rw[aaX];exact abv (show(L.length+1)*32≤100000 by omega) (by decide)
 unfold l5 wi oy
 generalize eH f i=p at hg h66⊢
 obtain⟨X,hX⟩:∃X,bj (tp p.1 p.2 s+CO a)=X:=⟨_,rfl⟩
 rw[hX]
 suffices h:∃r,aa T (n+10) (.fn 39) [.ptr pb 0 0 0,aew i] ⟨bl,es,0⟩=some r∧r.1=aew (bif !decide (zN p.1 p.2 s=0)||decide (1099511627776<bif decide (0≤a.d)then bj (X+1832)else X)then 15 else 0)∧((!decide (zN p.1 p.2 s=0)||decide (1099511627776<bif decide (0≤a.d)then bj (X+1832)else X))=false→∃es',
  r.2=⟨((bl.set fb (.arr (v'+1) 1 (pS (q++[bl.length+1])) false)).set lb (.arr (v+1) 4 (A.bK (L++[⟨i,oT.qV f.v f.a f.b f.C s a.of,tp p.1 p.2 s,X⟩])) false)).set pb (.box (nH f s Z fl (.bp lb (v+1) 0 (L.length+1)) (.bp fb (v'+1) 0 (q.length+1)) rv))++[.box (Dp a),.box (Ao i ⟨i,oT.qV f.v f.a f.b f.C s a.of,tp p.1 p.2 s,X⟩ a (-1) 0),.arr 0 1 (pS [bl.length+1]) true],es',0⟩) by
  obtain⟨⟨v,H'⟩,h1,rfl,h3⟩:=h
  exact⟨H',h1,h3⟩
 have hsn:A.bK L++[[aew i,aew (oT.qV f.v f.a f.b f.C s a.of),aew (tp p.1 p.2 s),aew X]]=A.bK (L++[⟨i,oT.qV f.v f.a f.b f.C s a.of,tp p.1 p.2 s,X⟩]):=kY L ⟨i,oT.qV f.v f.a f.b f.C s a.of,tp p.1 p.2 s,X⟩
 refine dh W2 (by rfl) ?_
 cases hc1:decide (zN p.1 p.2 s=0)with
 |false=>
  simp only[zS,aF,aB,aE,aD,au,al,ao,aq,bg,aN,bb,aQ,aM,aP,aI,aO,aH,aG,an,ai,bA,bz,aaU,aaT,aa5,go_sem,simprocAttr,hb,g1,hg,hi,h66,hc1,G.aL]
  exact⟨trivial,fun h=>by cases h⟩
 |true=>
  cases hd:decide (0≤a.d)with
  |true=>
   cases hc2:decide (1099511627776<bj (X+1832))with
   |true=>
    simp only[zS,aF,aB,aE,aD,au,al,ao,aq,bg,aN,bb,aQ,aM,aP,aI,aO,aH,aG,an,ai,bA,bz,aaU,aaT,aa5,go_sem,simprocAttr,hb,g1,hg,hi,hA,ha,h66,h78,h58,hc1,hc2,hd,hX,G.aL]
    exact⟨trivial,fun h=>by cases h⟩
   |false=>
    simp only[zS,aF,aB,aE,aD,au,al,ao,aq,bg,aN,bb,aQ,aM,aP,aI,aO,aH,aG,an,ai,bA,bz,aaU,aaT,aa5,go_sem,simprocAttr,hb,g1,hg,hi,hA,ha,h66,h78,h58,hc1,hc2,hd,hX,G.aL,g2,g3,hgF,hgL,s1,k1,k2,k3,s2,s3,s4,t0,t1,t2,t3,t4,m1,m2,m3,r1,r2,hsn,ya,xr,A.ep,abf]
    exact⟨trivial,fun _=>⟨_,rfl⟩⟩
  |false=>
   cases hc2:decide (1099511627776<X)with
   |true=>
    simp only[zS,aF,aB,aE,aD,au,al,ao,aq,bg,aN,bb,aQ,aM,aP,aI,aO,aH,aG,an,ai,bA,bz,aaU,aaT,aa5,go_sem,simprocAttr,hb,g1,hg,hi,hA,ha,h66,h78,h58,hc1,hc2,hd,hX,G.aL]
    exact⟨trivial,fun h=>by cases h⟩
   |false=>
    simp only[zS,aF,aB,aE,aD,au,al,ao,aq,bg,aN,bb,aQ,aM,aP,aI,aO,aH,aG,an,ai,bA,bz,aaU,aaT,aa5,go_sem,simprocAttr,hb,g1,hg,hi,hA,ha,h66,h78,h58,hc1,hc2,hd,hX,G.aL,g2,g3,hgF,hgL,s1,k1,k2,k3,s2,s3,s4,t0,t1,t2,t3,t4,m1,m2,m3,r1,r2,hsn,ya,xr,A.ep,abf]
    exact⟨trivial,fun _=>⟨_,rfl⟩⟩
theorem od{cs ds:List SV}(h:cs.length≠ds.length):aK.box cs≠aK.box ds:=fun e=>by
 injection e with e
 exact h (congrArg List.length e)
def o6(s:A.Sn)(L:List A.Em)(y:A.Em):Option Nat:=bif decide (A.mu (A.dP s) s.N.length L=0)then(bif decide (y.n<0)||decide ((s.N.length:Int)≤y.n)then none else bif A.FQ y then none else A.gu s L y L.length)else none
theorem Bz(s:A.Sn)(L:List A.Em)(y:A.Em):∃e:Int,A.Fa s L y=.bk [aew (A.xV (o6 s L y)),.bool (o6 s L y).isSome,aew e]∧((o6 s L y).isSome=true→e=0):=by
 unfold A.Fa o6
 cases decide (A.mu (A.dP s) s.N.length L=0)with
 |false=>exact⟨_,rfl,fun h=>by cases h⟩
 |true=>
  cases decide (y.n<0)||decide ((s.N.length:Int)≤y.n)with
  |true=>exact⟨_,rfl,fun h=>by cases h⟩
  |false=>
   cases A.FQ y with
   |true=>exact⟨_,rfl,fun h=>by cases h⟩
   |false=>exact⟨_,rfl,fun _=>rfl⟩
theorem wM{s:A.Sn}{L:List A.Em}{y:A.Em}{b:Nat}(h:o6 s L y=some b):b<L.length:=by
 unfold o6 at h
 cases h1:decide (A.mu (A.dP s) s.N.length L=0)with
 |false=>rw[h1]at h;cases h
 |true=>
  rw[h1]at h
  cases h2:decide (y.n<0)||decide ((s.N.length:Int)≤y.n)with
  |true=>rw[h2]at h;cases h
  |false=>
   rw[h2]at h
   cases h3:A.FQ y with
   |true=>rw[h3]at h;cases h
   |false=>rw[h3]at h;exact(A.tj _ _ _ _ _ h).2
def rr(f:Fi)(s:Int)(i:Nat)(a:Ac):A.Em:=⟨i,oT.qV f.v f.a f.b f.C s a.of,Gu (eH f i).1 (eH f i).2 s,Gp (eH f i).1 (eH f i).2 s⟩
def F8(z x:A.Em):Bool:=decide (z.n=x.n)&&(decide (z.c=x.c)&&(decide (z.x=x.x)&&decide (z.y=x.y)))
def CQ(L:List A.Em)(o:Option Nat)(x:A.Em):Bool:=match o with
 |some q=>match L[q]? with|some z=>F8 z x|none=>false
 |none=>false
def yr(x:A.Em)(i:Nat):A.Em:=⟨i,x.c,bj (x.y+1000),bj (bj (x.y+1000)+832)⟩
def jn(bl:List aK)(pb rb lb xb v i j:Nat)(f:Fi)(s:Int)(Z:List Ac)(fl:Bool)(fv:SV)(L:List A.Em)(R:List Rs)(a:Ac)(x:A.Em)(d:Int)(hd:Bool):List aK:=
 bif hd then(bif decide (a.d=i)then(((bl.set rb (.arr 0 15 (kr (R.set i (By a d))) true)).set xb (.box (Ao j x a L.length d))).set lb (.arr (v+1) 4 (A.bK (L++[yr x i])) false)).set pb (.box (nH f s Z fl (.bp lb (v+1) 0 (L.length+1)) fv (.bp rb 0 0 R.length)))
  else bl.set rb (.arr 0 15 (kr (R.set i (By a d))) true))else bl
theorem su(L:List A.Em):Still (A.bK L):=by
 intro cs hcs c hc
 simp only[A.bK,acd]at hcs
 obtain⟨e,_,rfl⟩:=hcs
 simp only[A.ra,abK,List.mem_nil_iff,or_false]at hc
 rcases hc with rfl|rfl|rfl|rfl<;>exact⟨rfl,fun _ _ _=>rfl⟩
theorem KV(a:Int)(b:Bool)(c:Int):xk (.bk [aew a,.bool b,aew c])=true:=rfl
theorem ZP(n pb rb lb xb v i j:Nat)(bl:List aK)(es:List (Nat×Nat))(f:Fi)(hbd:Bd f)(s:Int)(Z:List Ac)(fl:Bool)(fv:SV)(L:List A.Em)(R:List Rs)(a b:Ac)(x:A.Em)(ak er:Int)
 (hp:bl[pb]?=some (.box (nH f s Z fl (.bp lb v 0 L.length) fv (.bp rb 0 0 R.length)))) (hlb:bl[lb]?=some (.arr v 4 (A.bK L) false)) (hrb:bl[rb]?=some (.arr 0 15 (kr R) true))
 (hxb:bl[xb]?=some (.box (Ao j x a ak er))) (hb:Z[i]?=some b) (hi:i<f.K.length) (hR:R.length=Z.length) (hL:L.length≤10000) (M:Nat) (hlM:lb<M) (hMb:M≤bl.length) (he:cV M es) :
 ∃es',cV M es'∧aa T (n+30) (.fn 46) [.ptr pb 0 0 0,aew i,.ptr xb 0 0 0] ⟨bl,es,0⟩=some (.bk [],⟨jn bl pb rb lb xb v i j f s Z fl fv L R a x (ub (eH f i).1 (eH f i).2 s x.x) (CQ L (o6 (jf f hbd) L (rr f s i b)) x),es',0⟩):=by
 have hlp:lb<bl.length:=by omega
 have hA:=(aaS.1 hb).1
 have hpl:=(aaS.1 hp).1
 have hrl:=(aaS.1 hrb).1
 have hxl:=(aaS.1 hxb).1
 have hg:=lg hi
 have h67:=fun H'=>X7 (n+23) H' (eH f i).1 (eH f i).2 s
 have h58:=fun H' hv=>QF (n+23) pb i H' f s Z fl (.bp lb v 0 L.length) fv (.bp rb 0 0 R.length) b hbd.C hv hb hA
 have h82:=fun y=>A.Z1 (n+11) ⟨[],[],0⟩ (jf f hbd) L false y (abv hL (by decide))
 have h83:=fun H' t=>ZI (n+25) H' (eH f i).1 (eH f i).2 s t
 have hfz:=fun H d=>(su L).fz 0 H 6 d L.length 4 false (by simp[A.bK])
 obtain⟨hr,hv,hr0⟩:=Bz (jf f hbd) L (rr f s i b)
 unfold rr at hv hr0⊢
 generalize eH f i=p at hg h67 h83 hv hr0⊢
 obtain⟨o,ho⟩:∃o,o6 (jf f hbd) L ⟨i,oT.qV f.v f.a f.b f.C s b.of,Gu p.1 p.2 s,Gp p.1 p.2 s⟩=o:=⟨_,rfl⟩
 have ho':∀q,o=some q→q<L.length:=fun q h=>wM (ho.trans h)
 rw[ho]at hv hr0⊢
 suffices h:∃r,aa T (n+30) (.fn 46) [.ptr pb 0 0 0,aew i,.ptr xb 0 0 0] ⟨bl,es,0⟩=some r∧∃es',cV M es'∧r=(.bk [],⟨jn bl pb rb lb xb v i j f s Z fl fv L R a x (ub p.1 p.2 s x.x) (CQ L o x),es',0⟩) by
  obtain⟨r,h1,es',h2,rfl⟩:=h
  exact⟨es',h2,h1⟩
 refine dh Yp (mB (by simp[SV.refs.aJ,SV.refs])) ?_
 have h82:=h82 ⟨i,oT.qV f.v f.a f.b f.C s b.of,Gu p.1 p.2 s,Gp p.1 p.2 s⟩
 rw[hv]at h82
 simp only[jf,A.lZ,A.ow,A.ra]at h82
 have n1:rb≠pb:=bD hrb hp (fun h=>by cases h)
 have n2:lb≠pb:=bD hlb hp (fun h=>by cases h)
 have n3:lb≠rb:=bD hlb hrb (fun h=>by injection h with _ h2;cases h2)
 have n4:xb≠pb:=bD hxb hp (od (by simp))
 have n5:xb≠rb:=bD hxb hrb (fun h=>by cases h)
 have n6:xb≠lb:=bD hxb hlb (fun h=>by cases h)
 have l0:decide (lb<0)=false:=rfl
 have l1:∀X,(bl.set rb X).length=bl.length:=fun X=>abf
 have l2:∀X Y,((bl.set rb X).set xb Y).length=bl.length:=fun X Y=>by rw[abf,abf]
 have l3:∀X Y W,(((bl.set rb X).set xb Y).set lb W).length=bl.length:=fun X Y W=>by rw[abf,abf,abf]
 have l4:∀X Y W V,((((bl.set rb X).set xb Y).set lb W).set pb V).length=bl.length:=fun X Y W V=>by rw[abf,abf,abf,abf]
 have s1:∀X Y Y',((bl.set rb X).set xb Y).set xb Y'=(bl.set rb X).set xb Y':=fun X Y Y'=>adK ..
 have p1:∀X,(bl.set rb X)[pb]?=some (.box (nH f s Z fl (.bp lb v 0 L.length) fv (.bp rb 0 0 R.length))):=fun X=>by rw[aa2 n1,hp]
 have p2:∀X,(bl.set rb X)[xb]?=some (.box (Ao j x a ak er)):=fun X=>by rw[aa2 (Ne.symm n5),hxb]
 have p3:∀X,(bl.set rb X)[lb]?=some (.arr v 4 (A.bK L) false):=fun X=>by rw[aa2 (Ne.symm n3),hlb]
 have q1:∀X Y,((bl.set rb X).set xb Y)[pb]?=some (.box (nH f s Z fl (.bp lb v 0 L.length) fv (.bp rb 0 0 R.length))):=fun X Y=>by rw[aa2 n4,p1]
 have q2:∀X Y,((bl.set rb X).set xb Y)[xb]?=some Y:=fun X Y=>abm (by rw[l1];exact hxl)
 have q3:∀X Y,((bl.set rb X).set xb Y)[lb]?=some (.arr v 4 (A.bK L) false):=fun X Y=>by rw[aa2 n6,p3]
 have r1:∀X Y W,(((bl.set rb X).set xb Y).set lb W)[pb]?=some (.box (nH f s Z fl (.bp lb v 0 L.length) fv (.bp rb 0 0 R.length))):=fun X Y W=>by rw[aa2 n2,q1]
 have ht:bl.take bl.length=bl:=ab4
 have ht1:∀X,(bl.set rb X).take bl.length=bl.set rb X:=fun X=>by rw[←l1 X,ab4]
 have ht4:∀X Y W V,((((bl.set rb X).set xb Y).set lb W).set pb V).take bl.length=(((bl.set rb X).set xb Y).set lb W).set pb V:=fun X Y W V=>by rw[←l4 X Y W V,ab4]
 have hgL:=fun H X=>eo 4 H lb v L.length X (A.bK L) A.ep
 have d1:decide (rb<bl.length)=true:=aaV hrl
 have d2:decide (xb<bl.length)=true:=aaV hxl
 have d3:decide (lb<bl.length)=true:=aaV hlp
 have d4:decide (pb<bl.length)=true:=aaV hpl
 have rm:decide ((L.length+1)*32≤bX)=true:=by rw[aaX];exact abv (show(L.length+1)*32≤400000 by omega) (by decide)
 have hA2:i<R.length:=by omega
 obtain⟨row,hrow⟩:=bF hA2
 have hrw:(kr R).set i [.bool false,.bool true,aew a.k,aew a.s,aew a.d,aew a.q,aew a.o,aew a.c,aew a.m,aew a.e,aew a.t,aew a.u,aew a.v,.str a.x,aew (ub p.1 p.2 s x.x)]=kr (R.set i (By a (ub p.1 p.2 s x.x))):=pv R i (By a (ub p.1 p.2 s x.x))
 have hsn:A.bK L++[[aew i,aew x.c,aew (bj (x.y+1000)),aew (bj (bj (x.y+1000)+832))]]=A.bK (L++[yr x i]):=kY L (yr x i)
 have he5:cV M (bif decide (lb≤pb)then[]else[(pb,lb+1)]):=fS (aX _) (by omega)
 unfold jn CQ
 cases o with
 |none=>
  simp only[A.xV,adr]at h82
  cases h0:decide (hr=0)with
  |true=>
   simp only[Jb,aF,aB,aE,aD,au,al,ao,aq,bg,aN,bb,aQ,aM,aP,aI,aO,aH,aG,an,ai,bA,bz,aaU,aaT,aa5,go_sem,simprocAttr,hp,hg,hi,h67,h58,hfz,hlb,h82,hb,G.aL,l0,KV,ht,cN (aX _),h0]
   exact⟨es,he,rfl⟩
  |false=>
   simp only[Jb,aF,aB,aE,aD,au,al,ao,aq,bg,aN,bb,aQ,aM,aP,aI,aO,aH,aG,an,ai,bA,bz,aaU,aaT,aa5,go_sem,simprocAttr,hp,hg,hi,h67,h58,hfz,hlb,h82,hb,G.aL,l0,KV,ht,cN (aX _),h0]
   exact⟨es,he,rfl⟩
 |some q=>
  have hq:=ho' q rfl
  obtain⟨z,hz⟩:=bF hq
  obtain rfl:=hr0 rfl
  simp only[A.xV,ac4]at h82
  simp only[hz]
  unfold F8
  cases e1:decide (z.n=x.n)&&(decide (z.c=x.c)&&(decide (z.x=x.x)&&decide (z.y=x.y)))with
  |false=>
   simp only[Jb,aF,aB,aE,aD,au,al,ao,aq,bg,aN,bb,aQ,aM,aP,aI,aO,aH,aG,an,ai,bA,bz,aaU,aaT,aa5,go_sem,simprocAttr,hp,hg,hi,h67,h58,hfz,hlb,h82,hb,G.aL,l0,KV,ht,cN (aX _),hq,hz,hxb,e1]
   exact⟨es,he,rfl⟩
  |true=>
   cases e2:decide (a.d=(i:Int))with
   |false=>
    simp only[Jb,aF,aB,aE,aD,au,al,ao,aq,bg,aN,bb,aQ,aM,aP,aI,aO,aH,aG,an,ai,bA,bz,aaU,aaT,aa5,go_sem,simprocAttr,hp,hg,hi,h67,h58,hfz,hlb,h82,hb,G.aL,l0,KV,ht,cN (aX _),hq,hz,hxb,e1,e2,h83,hrb,hA2,hrow,d1,p2,l1,ht1,hrw]
    exact⟨es,he,rfl⟩
   |true=>
    simp only[Jb,aF,aB,aE,aD,au,al,ao,aq,bg,aN,bb,aQ,aM,aP,aI,aO,aH,aG,an,ai,bA,bz,aaU,aaT,aa5,go_sem,simprocAttr,hp,hg,hi,h67,h58,hfz,hlb,h82,hb,G.aL,l0,KV,ht,cN (aX _),hq,hz,hxb,e1,e2,h83,hrb,hA2,hrow,d1,d2,d3,d4,p1,p2,p3,q1,q2,q3,r1,s1,l1,l2,l3,l4,ht1,ht4,hgL,rm,hrw,hsn,cN (ku he5 hMb)]
    exact⟨_,cn he (cg _ he5),rfl⟩
theorem pj{A:Type}{bl:List A}{N:Nat}(h:bl.length=N)(l:List A):(bl++l)[N]?=l[0]?:=by rw[←h];exact aF _ _
theorem fT{A:Type}{bl:List A}{N:Nat}(h:bl.length=N)(l:List A)(k:Nat):(bl++l)[N+k]?=l[k]?:=by rw[←h];exact aB _ _ _
theorem sS{A:Type}{bl:List A}{N:Nat}(h:bl.length=N)(l:List A)(x:A):(bl++l).set N x=bl++l.set 0 x:=by rw[←h];exact aE _ _ _
theorem kM{A:Type}{bl:List A}{N:Nat}(h:bl.length=N)(l:List A)(x:A)(k:Nat):(bl++l).set (N+k) x=bl++l.set k x:=by rw[←h];exact aD _ _ _ _
theorem iI{A:Type}{bl:List A}{N:Nat}(h:bl.length=N)(l:List A)(k:Nat):(bl++l).take (N+k)=bl++l.take k:=by rw[←h];exact al _ _ _
theorem z7{p:cr}{N M:Nat}(hM:M≤N){H0:ae}{e env:Env}{bl:List aK}{es:List (Nat×Nat)}{ro:Nat}(hv:p.bE=[])(hk:jJ p.live=false)(henv:dI p.live e=env)(hr:SV.refs.aJ (env.map (·.2))≤N)(hN:bl.length=N)(he:cV M es)(h0:cV M H0.bV) :
 jY p N H0 (e,⟨bl,es,ro⟩) (fun s=>∃es',cV M es'∧s=(env,⟨bl,es',H0.ro⟩)):=by
 subst henv
 exact⟨_,sy hv hk hr hN (ku he hM),_,cn h0 (cg _ he),rfl⟩
theorem rT{p:cr}{N M:Nat}(hM:M≤N){H0:ae}{e env:Env}{bl l:List aK}{es:List (Nat×Nat)}{ro:Nat}(hv:p.bE=[])(hk:jJ p.live=false)(henv:dI p.live e=env)(hr:SV.refs.aJ (env.map (·.2))≤N)(hN:bl.length=N)(he:cV M es)(h0:cV M H0.bV) :
 jY p N H0 (e,⟨bl++l,es,ro⟩) (fun s=>∃es',cV M es'∧s=(env,⟨bl,es',H0.ro⟩)):=by
 subst henv
 exact⟨_,qj hv hk hr hN (ku he hM),_,cn h0 (cg _ he),rfl⟩
theorem ZW(n N:Nat)(f:Fi)(s:Int)(Z:List Ac)(fl:Bool)(X0 X1:aK)(q:eU)(hX1:X1=.box [.ptr 2 0 0 0])(hZ:Z.length≤maxLen)(I:Nat→List aK→Prop)
 (hI:∀i bl,I i bl→bl.length=N∧2<N∧∃x y z,bl[2]?=some (.box (nH f s Z fl x y z)))
 (hno:∀i bl b,I i bl→Z[i]?=some b→decide (b.kd=2)=false→I (i+1) bl)
 (hy:∀i bl b X es,cV N es→I i bl→Z[i]?=some b→decide (b.kd=2)=true→∃bl' es',I (i+1) bl'∧cV N es'∧aa T (n+1) (.fA (N+2)) [aew i] ⟨bl++[X0,X1,.loop q .ready .normal,X],es,0⟩=some (.bool true,⟨bl'++[X0,X1,.loop q .ready .normal,X],es',0⟩))
 (bl:List aK) (es:List (Nat×Nat)) (he:cV N es) (h0:I 0 bl) :
 ∃bl' es',I Z.length bl'∧cV N es'∧aa T (n+2) (.fn 81) [.fA (N+2),.ptr (N+1) 0 0 0] ⟨bl++[X0,X1,.loop q .ready .normal],es,0⟩=some (.bk [],⟨bl'++[X0,X1,.loop q .ready .normal],es',0⟩):=by
 subst hX1
 suffices h:∃r,aa T (n+2) (.fn 81) [.fA (N+2),.ptr (N+1) 0 0 0] ⟨bl++[X0,.box [.ptr 2 0 0 0],.loop q .ready .normal],es,0⟩=some r∧∃bl' es',I Z.length bl'∧cV N es'∧r=(.bk [],⟨bl'++[X0,.box [.ptr 2 0 0 0],.loop q .ready .normal],es',0⟩) by
  obtain⟨r,h1,bl',es',h2,h3,rfl⟩:=h
  exact⟨bl',es',h2,h3,h1⟩
 refine dh YC (mB (by simp[SV.refs.aJ,SV.refs])) ?_
 obtain⟨hN,h2N,x,y,z,hp⟩:=hI 0 bl h0
 have hp':∀l,(bl++l)[2]?=some (.box (nH f s Z fl x y z)):=fun l=>gf hp
 simp only[WG,aF,aB,aE,aD,au,al,ao,aq,bg,aN,bb,aQ,aM,aP,aI,aO,aH,aG,an,ai,bA,bz,aaU,aaT,aa5,go_sem,simprocAttr,hp',DX,hN,fT hN]
 refine bU (fun i s=>∃bl' es',I i bl'∧cV N es'∧s=([(0,.fA (N+2)),(8,.ay 14 (qK Z) fl),(9,aew Z.length),(10,aew i)],⟨bl'++[X0,.box [.ptr 2 0 0 0],.loop q .ready .normal],es',0⟩)) Z.length ?_ ?_
 ·refine aZ (z7 (show N≤N+3 by omega) rfl rfl (by simp only[go_sem,simprocAttr]<;>rfl) (by simp[SV.refs,SV.refs.aJ]) (by simp[hN]) (aX _) (aX _)) ?_
  rintro s ⟨es',h,rfl⟩
  exact⟨bl,es',h0,h,rfl⟩
 ·rintro i s hi ⟨bl',es',hIi,he',rfl⟩
  have hl:=(hI i bl' hIi).1
  have t1:=pj hl
  have t2:=fT hl
  have t3:=sS hl
  have t4:=kM hl
  have t5:=iI hl
  rcases aa4 i Z.length with hlt|hge
  ·obtain⟨b,hb⟩:=bF hlt
   have hw:=br hlt hZ
   cases hk:decide (b.kd=2)with
   |false=>
    have hn:=hno i bl' b hIi hb hk
    simp only[go_sem,simprocAttr,hlt,hb,aF,aB,aE,aD,au,al,ao,aq,bg,aN,bb,aQ,aM,aP,aI,aO,aH,aG,an,ai,bA,bz,aaU,aaT,aa5,hl,t1,t2,t3,t4,t5,hk,hw]
    rw[show ∀Y,bl'++[X0,.box [.ptr 2 0 0 0],.loop q .ready .normal,Y]=(bl'++[X0,.box [.ptr 2 0 0 0],.loop q .ready .normal])++[Y]from fun Y=>by simp]
    refine⟨by first|trivial|omega,aZ (rT (show N≤N+3 by omega) rfl rfl (by simp only[go_sem,simprocAttr]<;>rfl) (by simp[SV.refs,SV.refs.aJ]) (by simp[hl]) he' (aX _)) ?_⟩
    rintro s ⟨es3,h,rfl⟩
    exact⟨bl',es3,hn,h,rfl⟩
   |true=>
    obtain⟨bl2,es2,hI2,he2,hyc⟩:=hy i bl' b (.box (EI b)) es' he' hIi hb hk
    have hl2:=(hI _ bl2 hI2).1
    simp only[go_sem,simprocAttr,hlt,hb,aF,aB,aE,aD,au,al,ao,aq,bg,aN,bb,aQ,aM,aP,aI,aO,aH,aG,an,ai,bA,bz,aaU,aaT,aa5,hl,t1,t2,t3,t4,t5,hk,hw,hyc]
    rw[show ∀Y,bl2++[X0,.box [.ptr 2 0 0 0],.loop q .ready .normal,Y]=(bl2++[X0,.box [.ptr 2 0 0 0],.loop q .ready .normal])++[Y]from fun Y=>by simp]
    refine⟨by first|trivial|omega,aZ (rT (show N≤N+3 by omega) rfl rfl (by simp only[go_sem,simprocAttr]<;>rfl) (by simp[SV.refs,SV.refs.aJ]) (by simp[hl2]) he2 (aX _)) ?_⟩
    rintro s ⟨es3,h,rfl⟩
    exact⟨bl2,es3,hI2,h,rfl⟩
  ·obtain rfl:i=Z.length:=by omega
   have hd:decide (Z.length<Z.length)=false:=aaZ (by omega)
   simp only[go_sem,simprocAttr,hd,aF,aB,aE,aD,au,al,ao,aq,bg,aN,bb,aQ,aM,aP,aI,aO,aH,aG,an,ai,bA,bz,aaU,aaT,aa5,hl,hN,t5,cN (ku he' (show N≤N+3 by omega))]
   exact⟨bl',_,hIi,cn he (cg _ he'),rfl⟩
structure St where
 L:List A.Em
 R:List Rs
 Q:List (Int×Int)
def iT(f:Fi)(hb:Bd f)(s:Int)(Z:List Ac)(x:A.Em)(j:Nat)(a:Ac)(st:St)(i:Nat):St:=match Z[i]? with
 |some b=>bif decide (b.kd=2)&&CQ st.L (o6 (jf f hb) st.L (rr f s i b)) x then
   (bif decide (a.d=(i:Int))then⟨st.L++[yr x i],st.R.set i (By a (ub (eH f i).1 (eH f i).2 s x.x)),st.Q.set j ((st.L.length:Int),ub (eH f i).1 (eH f i).2 s x.x)⟩
    else⟨st.L,st.R.set i (By a (ub (eH f i).1 (eH f i).2 s x.x)),st.Q⟩)else st
 |none=>st
def kj(f:Fi)(hb:Bd f)(s:Int)(Z:List Ac)(x:A.Em)(j:Nat)(a:Ac)(st:St):Nat→St
 |0=>st
 |i+1=>iT f hb s Z x j a (kj f hb s Z x j a st i) i
structure PJ(f:Fi)(s:Int)(Z:List Ac)(fl:Bool)(ar:List A.Em)(q sq:List Nat)(lb fb v' N:Nat)(st:St)(bl:List aK):Prop where
 len:bl.length=N
 b0:bl[0]?=some (.box (oM f))
 b1:bl[1]?=some (.arr 0 15 (kr st.R) true)
 b2:∃v,bl[2]?=some (.box (nH f s Z fl (.bp lb v 0 st.L.length) (.bp fb v' 0 q.length) (.bp 1 0 0 st.R.length)))∧bl[lb]?=some (.arr v 4 (A.bK st.L) false)
 b3:bl[3]?=some (.box [.ptr 2 0 0 0])
 bf:bl[fb]?=some (.arr v' 1 (pS sq) false)
 bq:∀(k b:Nat) (x:A.Em) (a:Ac),q[k]?=some b→ar[k]?=some x→Z[x.n.toNat]?=some a→∃z,st.Q[x.n.toNat]?=some z∧bl[b]?=some (.box (Ao x.n.toNat x a z.1 z.2))
 lR:st.R.length=Z.length
 lQ:st.Q.length=Z.length
theorem wS(bl l:List aK)(pb rb lb xb v i j:Nat)(f:Fi)(s:Int)(Z:List Ac)(fl:Bool)(fv:SV)(L:List A.Em)(R:List Rs)(a:Ac)(x:A.Em)(d:Int)(hd:Bool)(h1:pb<bl.length)(h2:rb<bl.length)(h3:lb<bl.length)(h4:xb<bl.length) :
 jn (bl++l) pb rb lb xb v i j f s Z fl fv L R a x d hd=jn bl pb rb lb xb v i j f s Z fl fv L R a x d hd++l:=by
 unfold jn
 cases hd with
 |false=>rfl
 |true=>
  cases decide (a.d=(i:Int))with
  |false=>simp only[abb,abc];rw[acr _ _ h2]
  |true=>
   simp only[abb]
   rw[acr _ _ h2,acr _ _ (by simpa using h4),acr _ _ (by simpa using h3),acr _ _ (by simpa using h1)]
theorem yI{q:List Nat}(h:q.Nodup){i j b:Nat}(hi:q[i]?=some b)(hj:q[j]?=some b):i=j:=by
 obtain⟨h1,h2⟩:=aaS.1 hi
 obtain⟨h3,h4⟩:=aaS.1 hj
 have hp:=adE.1 h
 rcases acI i j with hl|hl|hl
 ·exact absurd (h2.trans h4.symm) (hp i j h1 h3 hl)
 ·exact hl
 ·exact absurd (h4.trans h2.symm) (hp j i h3 h1 hl)
theorem PJ.QJ{f:Fi}{hbd:Bd f}{s:Int}{Z:List Ac}{fl:Bool}{ar:List A.Em}{q sq:List Nat}{lb fb v' N:Nat}{st:St}{bl:List aK}(h:PJ f s Z fl ar q sq lb fb v' N st bl)
 (hq:q.Nodup) (hn:∀(k k':Nat) (x x':A.Em),ar[k]?=some x→ar[k']?=some x'→x.n.toNat=x'.n.toNat→k=k')
 {v k xb:Nat} {x:A.Em} {a b:Ac} {i:Nat} (hk:q[k]?=some xb) (hx:ar[k]?=some x) (ha:Z[x.n.toNat]?=some a) (hb:Z[i]?=some b) (hkd:decide (b.kd=2)=true)
 (h2:bl[2]?=some (.box (nH f s Z fl (.bp lb v 0 st.L.length) (.bp fb v' 0 q.length) (.bp 1 0 0 st.R.length)))) (hlb:bl[lb]?=some (.arr v 4 (A.bK st.L) false)) :
 PJ f s Z fl ar q sq lb fb v' N (iT f hbd s Z x x.n.toNat a st i) (jn bl 2 1 lb xb v i x.n.toNat f s Z fl (.bp fb v' 0 q.length) st.L st.R a x (ub (eH f i).1 (eH f i).2 s x.x) (CQ st.L (o6 (jf f hbd) st.L (rr f s i b)) x)):=by
 obtain⟨z,hz,hxb⟩:=h.bq k xb x a hk hx ha
 unfold iT
 simp only[hb,hkd,abo]
 unfold jn
 cases hd:CQ st.L (o6 (jf f hbd) st.L (rr f s i b)) x with
 |false=>exact h
 |true=>
  have b0:=h.b0
  have b1:=h.b1
  have b3:=h.b3
  have bf:=h.bf
  have n01:(1:Nat)≠0:=by omega
  have nx0:xb≠0:=bD hxb b0 (od (by simp))
  have nx1:xb≠1:=bD hxb b1 (fun e=>by cases e)
  have nx2:xb≠2:=bD hxb h2 (od (by simp))
  have nx3:xb≠3:=bD hxb b3 (od (by simp))
  have nxl:xb≠lb:=bD hxb hlb (fun e=>by cases e)
  have nxf:xb≠fb:=bD hxb bf (fun e=>by cases e)
  have nl0:lb≠0:=bD hlb b0 (fun e=>by cases e)
  have nl1:lb≠1:=bD hlb b1 (fun e=>by injection e with _ e;cases e)
  have nl2:lb≠2:=bD hlb h2 (fun e=>by cases e)
  have nl3:lb≠3:=bD hlb b3 (fun e=>by cases e)
  have nlf:lb≠fb:=bD hlb bf (fun e=>by injection e with _ e;cases e)
  have nf1:fb≠1:=bD bf b1 (fun e=>by injection e with _ e;cases e)
  have nf2:fb≠2:=bD bf h2 (fun e=>by cases e)
  have l1:=(aaS.1 b1).1
  have l2:=(aaS.1 h2).1
  have ll:=(aaS.1 hlb).1
  have lx:=(aaS.1 hxb).1
  have other:∀(k' b':Nat) (x':A.Em) (a':Ac),q[k']?=some b'→ar[k']?=some x'→Z[x'.n.toNat]?=some a'→k'≠k→b'≠xb∧x'.n.toNat≠x.n.toNat:=fun k' b' x' a' hk' hx' _ hne=>by
   refine⟨fun e=>?_,fun e=>hne (hn k' k x' x hx' hx e)⟩
   subst e
   obtain⟨g1,g2⟩:=aaS.1 hk
   obtain⟨g3,g4⟩:=aaS.1 hk'
   exact hne (yI hq hk' hk)
  have bne:∀(k' b':Nat) (x':A.Em) (a':Ac),q[k']?=some b'→ar[k']?=some x'→Z[x'.n.toNat]?=some a'→b'≠1∧b'≠lb∧b'≠2:=fun k' b' x' a' hk' hx' ha'=>by
   obtain⟨z',_,hb'⟩:=h.bq k' b' x' a' hk' hx' ha'
   exact⟨bD hb' b1 (fun e=>by cases e),bD hb' hlb (fun e=>by cases e),bD hb' h2 (od (by simp))⟩
  cases hdd:decide (a.d=(i:Int))with
  |false=>
   simp only[abb,abc]
   refine⟨by rw[abf];exact h.len,?_,abm l1,⟨v,?_,?_⟩,?_,?_,fun k' b' x' a' hk' hx' ha'=>?_,by rw[abf];exact h.lR,h.lQ⟩
   ·rw[aa2 n01];exact b0
   ·rw[aa2 (by omega),abf];exact h2
   ·rw[aa2 (Ne.symm nl1)];exact hlb
   ·rw[aa2 (by omega)];exact b3
   ·rw[aa2 (Ne.symm nf1)];exact bf
   ·obtain⟨z',g1,g2⟩:=h.bq k' b' x' a' hk' hx' ha'
    exact⟨z',g1,by rw[aa2 (Ne.symm (bne k' b' x' a' hk' hx' ha').1)];exact g2⟩
  |true=>
   simp only[abb]
   refine⟨by simp only[abf];exact h.len,?_,?_,⟨v+1,?_,?_⟩,?_,?_,fun k' b' x' a' hk' hx' ha'=>?_,by rw[abf];exact h.lR,by rw[abf];exact h.lQ⟩
   ·rw[aa2 (by omega),aa2 nl0,aa2 nx0,aa2 n01];exact b0
   ·rw[aa2 (by omega),aa2 nl1,aa2 nx1];exact abm l1
   ·rw[abm (by simpa using l2),abf,aaT];rfl
   ·rw[aa2 (Ne.symm nl2)];exact abm (by simpa using ll)
   ·rw[aa2 (by omega),aa2 nl3,aa2 nx3,aa2 (by omega)];exact b3
   ·rw[aa2 (Ne.symm nf2),aa2 nlf,aa2 nxf,aa2 (Ne.symm nf1)];exact bf
   ·obtain⟨z',g1,g2⟩:=h.bq k' b' x' a' hk' hx' ha'
    obtain⟨m1,m2,m3⟩:=bne k' b' x' a' hk' hx' ha'
    rw[aa2 (Ne.symm m3),aa2 (Ne.symm m2)]
    by_cases hkk:k'=k
    ·subst hkk
     rw[hk]at hk';cases hk'
     rw[hx]at hx';cases hx'
     rw[ha]at ha';cases ha'
     refine⟨_,abm (by rw[h.lQ];exact(aaS.1 ha).1),?_⟩
     exact abm (by simpa using lx)
    ·obtain⟨o1,o2⟩:=other k' b' x' a' hk' hx' ha' hkk
     exact⟨z',by rw[aa2 (Ne.symm o2)];exact g1,by rw[aa2 (Ne.symm o1),aa2 (Ne.symm m1)];exact g2⟩
theorem yD{α β:Type}{v:Option α}{k:α→Option β}{t:oK k}{Q:β→Prop}{Q':α→Prop}(h:∃r,v=some r∧Q' r)(hk:∀r,Q' r→post (k r) Q):post (aT v k t) Q:=by
 obtain⟨r,rfl,h2⟩:=h
 exact hk r h2
theorem Tc(n p:Nat)(bl es ro):aa T (n+1) (.qX 45) [.ptr p 0 0 0] ⟨bl,es,ro⟩=some (.fn 81 [.ptr bl.length 0 0 0],⟨bl++[.box [.ptr p 0 0 0]],es,ro⟩):=by
 refine eP ZZ ?_
 simp only[W1,aF,aB,aE,aD,au,al,ao,aq,bg,aN,bb,aQ,aM,aP,aI,aO,aH,aG,an,ai,bA,bz,aaU,aaT,aa5,go_sem,simprocAttr]
theorem Dm{T:FuncId→Option aC}{b n:Nat}{xs:List SV}{H:ae}{q:eU}{pend:lG}{Q:SV×ae→Prop}(hg:bn H b=some (.loop q .ready pend))(hl:(q.ps.length==xs.length)=true)
 (h:post (runK (aa T n) (uJ (aa T n) q.body b H) q.assign [] ((q.ps.zip xs).reverse++q.env) ⟨H.bl,[],min H.ro H.bl.length⟩ ()) Q):∃r,aa T (n+1) (.fA b) xs H=some r∧Q r:=by
 obtain⟨r,h1,h2⟩:=h
 exact⟨r,nL hg hl h1,h2⟩
theorem Oc(n N:Nat)(q0:eU)(h1:q0.ps=[78])(h2:q0.assign=.ops [OM 17 78])(h3:q0.body=.block 5 (.ops [OL 79 10,OM 80 17,OL 81 16,OC 82 46 [79,80,81]]))(h10:get q0.env 10=.ptr 3 0 0 0)(h16:get q0.env 16=.ptr N 0 0 0)
 (f:Fi) (hbd:Bd f) (s:Int) (Z:List Ac) (fl:Bool) (ar:List A.Em) (q sq:List Nat) (lb fb v':Nat) (st:St) (bl:List aK) (h:PJ f s Z fl ar q sq lb fb v' N st bl)
 (hq:q.Nodup) (hn:∀(k k':Nat) (x x':A.Em),ar[k]?=some x→ar[k']?=some x'→x.n.toNat=x'.n.toNat→k=k') (hZ:Z.length=f.K.length) (hL:st.L.length≤10000)
 {k xb:Nat} {x:A.Em} {a b:Ac} {i:Nat} (hk:q[k]?=some xb) (hx:ar[k]?=some x) (ha:Z[x.n.toNat]?=some a) (hb:Z[i]?=some b) (hkd:decide (b.kd=2)=true) (X:aK) (es:List (Nat×Nat)) (he:cV N es) :
 ∃bl' es',PJ f s Z fl ar q sq lb fb v' N (iT f hbd s Z x x.n.toNat a st i) bl'∧cV N es'∧aa T (n+32) (.fA (N+2)) [aew i] ⟨bl++[.box [.ptr xb 0 0 0],.box [.ptr 2 0 0 0],.loop q0 .ready .normal,X],es,0⟩=
  some (.bool true,⟨bl'++[.box [.ptr xb 0 0 0],.box [.ptr 2 0 0 0],.loop q0 .ready .normal,X],es',0⟩):=by
 obtain⟨v,g2,glb⟩:=h.b2
 obtain⟨z,hz,hxb⟩:=h.bq k xb x a hk hx ha
 have hN:=h.len
 have hi:i<f.K.length:=by rw[←hZ];exact(aaS.1 hb).1
 have l1:=(aaS.1 h.b1).1
 have l2:=(aaS.1 g2).1
 have ll:=(aaS.1 glb).1
 have lx:=(aaS.1 hxb).1
 obtain⟨es1,he1,h46⟩:=ZP (n+1) 2 1 lb xb v i x.n.toNat (bl++[.box [.ptr xb 0 0 0],.box [.ptr 2 0 0 0],.loop q0 .busy .normal,X]) [] f hbd s Z fl (.bp fb v' 0 q.length) st.L st.R a b x z.1 z.2
  (gf g2) (gf glb) (gf h.b1) (gf hxb) hb hi h.lR hL N (by omega) (by simp[hN]) (aX _)
 rw[wS _ _ _ _ _ _ _ _ _ _ _ _ _ _ _ _ _ _ _ _ l2 l1 ll lx]at h46
 have hP:=h.QJ hq hn hk hx ha hb hkd g2 glb (hbd:=hbd)
 obtain⟨bl',hbl'⟩:∃bl',jn bl 2 1 lb xb v i x.n.toNat f s Z fl (.bp fb v' 0 q.length) st.L st.R a x (ub (eH f i).1 (eH f i).2 s x.x) (CQ st.L (o6 (jf f hbd) st.L (rr f s i b)) x)=bl':=⟨_,rfl⟩
 rw[hbl']at h46 hP
 have hN':=hP.len
 suffices hh:∃r,aa T (n+32) (.fA (N+2)) [aew i] ⟨bl++[.box [.ptr xb 0 0 0],.box [.ptr 2 0 0 0],.loop q0 .ready .normal,X],es,0⟩=some r∧∃es',cV N es'∧r=(.bool true,⟨bl'++[.box [.ptr xb 0 0 0],.box [.ptr 2 0 0 0],.loop q0 .ready .normal,X],es',0⟩) by
  obtain⟨r,k1,es',k2,rfl⟩:=hh
  exact⟨bl',es',hP,k2,k1⟩
 refine Dm (q:=q0) (pend:=.normal) (by simp only[bn];exact fT hN _ 2) (by rw[h1];rfl) ?_
 have t3:∀l,(bl++l)[3]?=some (.box [.ptr 2 0 0 0]):=fun l=>gf h.b3
 rw[h1,h2,h3]
 simp only[go_sem,simprocAttr,aF,aB,aE,aD,au,al,ao,aq,bg,aN,bb,aQ,aM,aP,aI,aO,aH,aG,an,ai,bA,bz,aaU,aaT,aa5,hN,pj hN,fT hN,kM hN,h10,h16,t3,h46,hN',fT hN',kM hN',iI hN',cN (ku he1 (show N≤N+4 by omega))]
 exact⟨_,cn he (cg _ he1),rfl⟩
def aR(f:Fi)(s:Int)(Z:List Ac):Nat→List A.Em
 |0=>[]
 |i+1=>match Z[i]? with
  |some a=>bif decide (a.kd=1)then aR f s Z i++[oy f s i a]else aR f s Z i
  |none=>aR f s Z i
theorem gP(f:Fi)(s:Int)(Z:List Ac):∀i,(aR f s Z i).length≤i
 |0=>by simp[aR]
 |i+1=>by
  have ih:=gP f s Z i
  unfold aR
  split
  ·rename_i a _
   cases decide (a.kd=1)
   ·exact Nat.le_succ_of_le ih
   ·simp only[abb,aaT,abg,abh];omega
  ·exact Nat.le_succ_of_le ih
theorem fe(f:Fi)(s:Int)(Z:List Ac):∀(i k:Nat) (x:A.Em),(aR f s Z i)[k]?=some x→∃(j:Nat) (a:Ac),j<i∧Z[j]?=some a∧decide (a.kd=1)=true∧x=oy f s j a
 |0,k,x,h=>by simp[aR]at h
 |i+1,k,x,h=>by
  unfold aR at h
  split at h
  ·rename_i a ha
   cases hk:decide (a.kd=1)with
   |false=>
    rw[hk]at h
    obtain⟨j,b,h1,h2⟩:=fe f s Z i k x h
    exact⟨j,b,by omega,h2⟩
   |true=>
    rw[hk]at h
    simp only[abb]at h
    rcases aa4 k (aR f s Z i).length with hlt|hge
    ·rw[aa6 hlt]at h
     obtain⟨j,b,h1,h2⟩:=fe f s Z i k x h
     exact⟨j,b,by omega,h2⟩
    ·rw[abH hge]at h
     have hm:=aa3 h
     simp only[ab8]at hm
     exact⟨i,a,by omega,ha,hk,hm⟩
  ·obtain⟨j,b,h1,h2⟩:=fe f s Z i k x h
   exact⟨j,b,by omega,h2⟩
theorem qB(f:Fi)(s:Int)(Z:List Ac):∀(i k k':Nat) (x x':A.Em),(aR f s Z i)[k]?=some x→(aR f s Z i)[k']?=some x'→x.n.toNat=x'.n.toNat→k=k'
 |0,k,k',x,x',h,_,_=>by simp[aR]at h
 |i+1,k,k',x,x',h,h',hn=>by
  have ih:=qB f s Z i
  unfold aR at h h'
  split at h
  ·rename_i a ha
   rw[ha]at h'
   simp only at h'
   cases hk:decide (a.kd=1)with
   |false=>rw[hk]at h h';exact ih k k' x x' h h' hn
   |true=>
    rw[hk]at h h'
    simp only[abb]at h h'
    have old:∀(k:Nat) (x:A.Em),k<(aR f s Z i).length→(aR f s Z i++[oy f s i a])[k]?=some x→x.n.toNat<i:=fun k x hlt hx=>by
     rw[aa6 hlt]at hx
     obtain⟨j,b,h1,_,_,h4⟩:=fe f s Z i k x hx
     rw[h4]
     show((j:Nat):Int).toNat<i
     omega
    have new:∀(k:Nat) (x:A.Em),(aR f s Z i).length≤k→(aR f s Z i++[oy f s i a])[k]?=some x→x.n.toNat=i∧k=(aR f s Z i).length:=fun k x hge hx=>by
     have hl:=(aaS.1 hx).1
     simp only[aaT,abg,abh]at hl
     rw[abH hge]at hx
     have hm:=aa3 hx
     simp only[ab8]at hm
     rw[hm]
     exact⟨by show((i:Nat):Int).toNat=i;omega,by omega⟩
    rcases aa4 k (aR f s Z i).length with h1|h1<;>rcases aa4 k' (aR f s Z i).length with h2|h2
    ·rw[aa6 h1]at h
     rw[aa6 h2]at h'
     exact ih k k' x x' h h' hn
    ·have:=old k x h1 h
     have:=(new k' x' h2 h').1
     omega
    ·have:=(new k x h1 h).1
     have:=old k' x' h2 h'
     omega
    ·rw[(new k x h1 h).2,(new k' x' h2 h').2]
  ·rename_i ha
   rw[ha]at h'
   exact ih k k' x x' h h' hn
def gd(f:Fi)(hb:Bd f)(s:Int)(Z:List Ac)(ar:List A.Em)(st:St)(k:Nat):St:=match ar[k]? with
 |some x=>match Z[x.n.toNat]? with
  |some a=>kj f hb s Z x x.n.toNat a st Z.length
  |none=>st
 |none=>st
def dt(ar:List A.Em):List Nat:=Q.fx (fun k=>match ar[k]? with|some x=>x.y|none=>0) (List.range ar.length)
def rq(ar:List A.Em)(n:Nat):St:=⟨ar,List.replicate n Dv,List.replicate n (-1,0)⟩
def nT(s:A.Sn)(L:List A.Em)(i k:Int):Bool:=bif decide (A.tH s L i k=0)then(match L[i.toNat]? with|some a=>A.fD s L i.toNat a k|none=>false)else false
theorem Ct(s:A.Sn)(L:List A.Em)(i k:Int):∃e:Int,A.HH s L i k=.bk [.bool (nT s L i k),aew e]:=by
 unfold A.HH nT
 cases decide (A.tH s L i k=0)<;>exact⟨_,rfl⟩
def iY(f:Fi)(hb:Bd f)(st:St)(ar:List A.Em)(R:List Rs)(k:Nat):List Rs:=match ar[k]? with
 |some x=>match st.Q[x.n.toNat]? with
  |some z=>bif decide (z.1<0)then R else bif nT (jf f hb) st.L z.1 x.n.toNat then R.set x.n.toNat (Ar z.2)else R
  |none=>R
 |none=>R
def gM(f:Fi)(hb:Bd f)(s:Int)(Z:List Ac):St:=(dt (aR f s Z Z.length)).foldl (gd f hb s Z (aR f s Z Z.length)) (rq (aR f s Z Z.length) Z.length)
def o9(f:Fi)(hb:Bd f)(s:Int)(Z:List Ac):List Rs:=(dt (aR f s Z Z.length)).foldl (iY f hb (gM f hb s Z) (aR f s Z Z.length)) (gM f hb s Z).R
def C5(f:Fi)(s:Int)(Z:List Ac):Bool:=(List.range Z.length).any fun i=>match Z[i]? with|some a=>mw f s i a|none=>false
def wO(f:Fi)(s:Int)(Z:List Ac):Int:=bif decide (wQ f s Z=0)then(bif C5 f s Z then 15 else 0)else wQ f s Z
def Qf(f:Fi)(hb:Bd f)(s:Int)(Z:List Ac):SV:=bif decide (wO f s Z=0)then .bk [.ay 15 (kr (o9 f hb s Z)) true,(bif (aR f s Z Z.length).isEmpty then .ay 0 [] true else .ay 4 (A.bK (gM f hb s Z).L) false),aex]
 else .bk [.ay 0 [] true,.ay 0 [] true,aew (wO f s Z)]
structure PI(f:Fi)(s:Int)(Z:List Ac)(fl:Bool)(i:Nat)(q:List Nat)(bl:List aK):Prop where
 b0:bl[0]?=some (.box (oM f))
 b1:bl[1]?=some (.arr 0 15 (kr (List.replicate Z.length Dv)) true)
 b2:∃x y,bl[2]?=some (.box (nH f s Z fl x y (.bp 1 0 0 Z.length)))∧((aR f s Z i=[]∧q=[]∧x=.ay 0 [] true∧y=.ay 0 [] true)∨
  ∃lb fb v v',x=.bp lb v 0 (aR f s Z i).length∧y=.bp fb v' 0 q.length∧bl[lb]?=some (.arr v 4 (A.bK (aR f s Z i)) false)∧bl[fb]?=some (.arr v' 1 (pS q) false)∧aR f s Z i≠[])
 b3:bl[3]?=some (.box [.ptr 2 0 0 0])
 b4:bl[4]?=some (.map [(aew 1,.oX 39 [.ptr 2 0 0 0]),(aew 2,.oX 40 [.ptr 2 0 0 0]),(aex,.oX 41 [.ptr 2 0 0 0])])
 lq:q.length=(aR f s Z i).length
 nd:q.Nodup
 bq:∀(k b:Nat) (x:A.Em) (a:Ac),q[k]?=some b→(aR f s Z i)[k]?=some x→Z[x.n.toNat]?=some a→bl[b]?=some (.box (Ao x.n.toNat x a (-1) 0))
theorem pn{f:Fi}{s:Int}{Z:List Ac}{i:Nat}{a:Ac}(ha:Z[i]?=some a)(h:decide (a.kd=1)=false):aR f s Z (i+1)=aR f s Z i:=by
 unfold aR;rw[ha];simp only[h,abc]
 cases i<;>rfl
theorem qA{f:Fi}{s:Int}{Z:List Ac}{i:Nat}{a:Ac}(ha:Z[i]?=some a)(h:decide (a.kd=1)=true):aR f s Z (i+1)=aR f s Z i++[oy f s i a]:=by
 conv=>lhs;unfold aR
 rw[ha];simp only[h,abb]
theorem PI.app{f:Fi}{s:Int}{Z:List Ac}{fl:Bool}{i:Nat}{q:List Nat}{bl:List aK}(h:PI f s Z fl i q bl)(l:List aK):PI f s Z fl i q (bl++l):=by
 obtain⟨x,y,h2,h3⟩:=h.b2
 refine⟨gf h.b0,gf h.b1,⟨x,y,gf h2,?_⟩,gf h.b3,gf h.b4,h.lq,h.nd,fun k b x a h1 h2 h3=>gf (h.bq k b x a h1 h2 h3)⟩
 rcases h3 with h3|⟨lb,fb,v,v',e1,e2,e3,e4⟩
 ·exact .inl h3
 ·exact .inr ⟨lb,fb,v,v',e1,e2,gf e3,gf e4.1,e4.2⟩
theorem PI.next{f:Fi}{s:Int}{Z:List Ac}{fl:Bool}{i:Nat}{q:List Nat}{bl:List aK}(h:PI f s Z fl i q bl){a:Ac}(ha:Z[i]?=some a)(hk:decide (a.kd=1)=false):PI f s Z fl (i+1) q bl:=by
 have e:=pn (f:=f) (s:=s) ha hk
 exact⟨h.b0,h.b1,by rw[e];exact h.b2,h.b3,h.b4,by rw[e];exact h.lq,h.nd,by rw[e];exact h.bq⟩
theorem PI.lt{f:Fi}{s:Int}{Z:List Ac}{fl:Bool}{i:Nat}{q:List Nat}{bl:List aK}(h:PI f s Z fl i q bl)(hi:i≤Z.length):∀b∈q,b<bl.length:=fun b hb=>by
 obtain⟨k,hk⟩:=abw hb
 have hkl:=(aaS.1 hk).1
 obtain⟨x,hx⟩:=bF (show k<(aR f s Z i).length by rw[←h.lq];exact hkl)
 obtain⟨j,a,h1,h2,_,h4⟩:=fe f s Z i k x hx
 have hn:x.n.toNat=j:=by rw[h4];show((j:Nat):Int).toNat=j;omega
 exact(aaS.1 (h.bq k b x a hk hx (by rw[hn];exact h2))).1
theorem PI.first{f:Fi}{s:Int}{Z:List Ac}{fl:Bool}{i:Nat}{bl:List aK}(h:PI f s Z fl i [] bl)(he:aR f s Z i=[]){a:Ac}(ha:Z[i]?=some a)(hk:decide (a.kd=1)=true)
 (hb2:bl[2]?=some (.box (nH f s Z fl (.ay 0 [] true) (.ay 0 [] true) (.bp 1 0 0 Z.length)))) :
 PI f s Z fl (i+1) [bl.length+1] (bl.set 2 (.box (nH f s Z fl (.bp (bl.length+4) 0 0 1) (.bp (bl.length+3) 0 0 1) (.bp 1 0 0 Z.length)))++[.box (Dp a),.box (Ao i (oy f s i a) a (-1) 0),.arr 0 1 (pS [bl.length+1]) true,.arr 0 1 (pS [bl.length+1]) false,.arr 0 4 (A.bK [oy f s i a]) false]):=by
 have e:=qA (f:=f) (s:=s) ha hk
 rw[he,abM]at e
 have l2:=(aaS.1 hb2).1
 have hl:∀X,(bl.set 2 X).length=bl.length:=fun X=>abf
 have old:∀X (l:List aK) b x,b≠2→bl[b]?=some x→(bl.set 2 X++l)[b]?=some x:=fun X l b x hb hx=>by
  rw[aa6 (by rw[hl];exact(aaS.1 hx).1),aa2 (Ne.symm hb),hx]
 have new:∀X (l:List aK) k,(bl.set 2 X++l)[bl.length+k]?=l[k]?:=fun X l k=>fT (hl X) l k
 refine⟨old _ _ _ _ (by omega) h.b0,old _ _ _ _ (by omega) h.b1,⟨.bp (bl.length+4) 0 0 1,.bp (bl.length+3) 0 0 1,?_,.inr ⟨bl.length+4,bl.length+3,0,0,by rw[e]<;>rfl,rfl,by rw[e,new]<;>rfl,by rw[new]<;>rfl,by rw[e];exact List.cons_ne_nil _ _⟩⟩,old _ _ _ _ (by omega) h.b3,old _ _ _ _ (by omega) h.b4,by rw[e]<;>rfl,by simp,?_⟩
 ·rw[aa6 (by rw[hl];exact l2),abm l2]
 ·intro k b x a' h1 h2 h3
  rw[e]at h2
  have hk0:k=0:=by have:=(aaS.1 h1).1;simp at this;omega
  subst hk0
  simp only[acm,abd]at h1 h2
  subst h1 h2
  have hn:(oy f s i a).n.toNat=i:=by show((i:Nat):Int).toNat=i;omega
  rw[hn]at h3⊢
  rw[ha]at h3;cases h3
  rw[new];rfl
theorem PI.more{f:Fi}{s:Int}{Z:List Ac}{fl:Bool}{i:Nat}{q:List Nat}{bl:List aK}(h:PI f s Z fl i q bl)(hi:i≤Z.length){a:Ac}(ha:Z[i]?=some a)(hk:decide (a.kd=1)=true){lb fb v v':Nat}
 (hb2:bl[2]?=some (.box (nH f s Z fl (.bp lb v 0 (aR f s Z i).length) (.bp fb v' 0 q.length) (.bp 1 0 0 Z.length)))) (hlb:bl[lb]?=some (.arr v 4 (A.bK (aR f s Z i)) false)) (hfb:bl[fb]?=some (.arr v' 1 (pS q) false)) :
 PI f s Z fl (i+1) (q++[bl.length+1]) (((bl.set fb (.arr (v'+1) 1 (pS (q++[bl.length+1])) false)).set lb (.arr (v+1) 4 (A.bK (aR f s Z i++[oy f s i a])) false)).set 2 (.box (nH f s Z fl (.bp lb (v+1) 0 ((aR f s Z i).length+1)) (.bp fb (v'+1) 0 (q.length+1)) (.bp 1 0 0 Z.length)))++[.box (Dp a),.box (Ao i (oy f s i a) a (-1) 0),.arr 0 1 (pS [bl.length+1]) true]):=by
 have e:=qA (f:=f) (s:=s) ha hk
 have l2:=(aaS.1 hb2).1
 have ll:=(aaS.1 hlb).1
 have lf:=(aaS.1 hfb).1
 have hl:∀X Y W,(((bl.set fb X).set lb Y).set 2 W).length=bl.length:=fun X Y W=>by simp
 have nf2:fb≠2:=bD hfb hb2 (fun h=>by cases h)
 have nl2:lb≠2:=bD hlb hb2 (fun h=>by cases h)
 have nfl:fb≠lb:=bD hfb hlb (fun h=>by injection h with _ h2;cases h2)
 have old:∀X Y W (l:List aK) b x,b≠2→b≠lb→b≠fb→bl[b]?=some x→(((bl.set fb X).set lb Y).set 2 W++l)[b]?=some x:=fun X Y W l b x h1 h2 h3 hx=>by
  rw[aa6 (by rw[hl];exact(aaS.1 hx).1),aa2 (Ne.symm h1),aa2 (Ne.symm h2),aa2 (Ne.symm h3),hx]
 have new:∀X Y W (l:List aK) k,(((bl.set fb X).set lb Y).set 2 W++l)[bl.length+k]?=l[k]?:=fun X Y W l k=>fT (hl X Y W) l k
 refine⟨old _ _ _ _ _ _ (by omega) (bD h.b0 hlb (fun h=>by cases h)) (bD h.b0 hfb (fun h=>by cases h)) h.b0,old _ _ _ _ _ _ (by omega) (bD h.b1 hlb (fun h=>by injection h with _ h2;cases h2)) (bD h.b1 hfb (fun h=>by injection h with _ h2;cases h2)) h.b1,
  ⟨.bp lb (v+1) 0 ((aR f s Z i).length+1),.bp fb (v'+1) 0 (q.length+1),?_,.inr ⟨lb,fb,v+1,v'+1,by rw[e,aaT]<;>rfl,by rw[aaT]<;>rfl,?_,?_,by rw[e];simp⟩⟩,old _ _ _ _ _ _ (by omega) (bD h.b3 hlb (fun h=>by cases h)) (bD h.b3 hfb (fun h=>by cases h)) h.b3,old _ _ _ _ _ _ (by omega) (bD h.b4 hlb (fun h=>by cases h)) (bD h.b4 hfb (fun h=>by cases h)) h.b4,by rw[e];simp[h.lq],?_,?_⟩
 ·rw[aa6 (by rw[hl];exact l2),abm (by simpa using l2)]
 ·rw[aa6 (by rw[hl];exact ll),aa2 (Ne.symm nl2),abm (by simpa using ll),e]
 ·rw[aa6 (by rw[hl];exact lf),aa2 (Ne.symm nf2),aa2 (Ne.symm nfl),abm lf]
 ·rw[acz]
  exact⟨h.nd,by simp,fun x hx y hy=>by
   simp only[ab8]at hy
   subst hy
   have:=h.lt hi x hx
   omega⟩
 ·intro k b x a' h1 h2 h3
  rw[e]at h2
  rcases aa4 k q.length with hlt|hge
  ·rw[aa6 hlt]at h1
   rw[aa6 (by rw[←h.lq];exact hlt)]at h2
   have g:=h.bq k b x a' h1 h2 h3
   exact old _ _ _ _ _ _ (bD g hb2 (od (by simp))) (bD g hlb (fun h=>by cases h)) (bD g hfb (fun h=>by cases h)) g
  ·rw[abH hge]at h1
   rw[abH (by rw[←h.lq];exact hge)]at h2
   have m1:=aa3 h1
   have m2:=aa3 h2
   simp only[ab8]at m1 m2
   subst m1 m2
   have hn:(oy f s i a).n.toNat=i:=by show((i:Nat):Int).toNat=i;omega
   rw[hn]at h3⊢
   rw[ha]at h3;cases h3
   rw[new];rfl
namespace Q
theorem tq(key:Nat→Int)(f:Nat→Nat):∀X Y,cU key (X.map f) (Y.map f)=(cU (fun x=>key (f x)) X Y).map f
 |[],Y=>by simp[cJ]
 |x::X,[]=>by simp[dD]
 |x::X,y::Y=>by
  by_cases h:key (f y)<key (f x)
  ·rw[abB,abB,dw h,dw (key:=fun x=>key (f x)) h,abB,←tq key f (x::X) Y,abB]
  ·rw[abB,abB,dT h,dT (key:=fun x=>key (f x)) h,abB,←tq key f X (y::Y),abB]
termination_by X Y=>X.length+Y.length
theorem Dd(key:Nat→Int)(f:Nat→Nat)(X:List Nat):fx key (X.map f)=(fx (fun x=>key (f x)) X).map f:=by
 suffices h:∀Z:List Nat,(X.map f).foldl (fun Z x=>cU key Z [x]) (Z.map f)=(X.foldl (fun Z x=>cU (fun x=>key (f x)) Z [x]) Z).map f by
  exact h []
 induction X with
 |nil=>intro Z;rfl
 |cons x X ih=>
  intro Z
  rw[abB,ab1,ab1,←ih]
  congr 1
  exact tq key f Z [x]
theorem oc{k k':Nat→Int}:∀X Y:List Nat,(∀x∈X,k x=k' x)→(∀x∈Y,k x=k' x)→cU k X Y=cU k' X Y
 |[],Y,_,_=>by simp[cJ]
 |x::X,[],_,_=>by simp[dD]
 |x::X,y::Y,h,h'=>by
  have e:(k y<k x)=(k' y<k' x):=by rw[h x (by simp),h' y (by simp)]
  by_cases hc:k' y<k' x
  ·rw[dw hc,dw (by rw[e];exact hc),oc (x::X) Y h (fun z hz=>h' z (by simp[hz]))]
  ·rw[dT hc,dT (by rw[e];exact hc),oc X (y::Y) (fun z hz=>h z (by simp[hz])) h']
termination_by X Y=>X.length+Y.length
theorem yZ{k k':Nat→Int}(X:List Nat)(h:∀x∈X,k x=k' x):fx k X=fx k' X:=by
 suffices hh:∀Z:List Nat,(∀x∈Z,k x=k' x)→X.foldl (fun Z x=>cU k Z [x]) Z=X.foldl (fun Z x=>cU k' Z [x]) Z by
  exact hh [] (by simp)
 induction X with
 |nil=>intro Z _;rfl
 |cons x X ih=>
  intro Z hZ
  have hx:=h x (by simp)
  rw[ab1,ab1,oc Z [x] hZ (by simpa using hx)]
  refine ih (fun y hy=>h y (by simp[hy])) _ (fun y hy=>?_)
  rcases(ie k' Z [x] y).1 hy with h1|h1
  ·exact hZ y h1
  ·simp only[ab8]at h1
   rw[h1];exact hx
end Q
def QY:Option SV→Int
 |some (.int _ z)=>z
 |_=>0
def AD(bl:List aK)(b:Nat):Int:=match bl[b]? with
 |some (.box cs)=>QY cs[4]?
 |_=>0
theorem yy{bl:List aK}{b:Nat}{cs:List SV}{z:Int}(h:bl[b]?=some (.box cs))(h4:cs[4]?=some (aew z)):AD bl b=z:=by
 unfold AD;rw[h];simp only[h4];rfl
theorem kV{f:Fi}{s:Int}{Z:List Ac}{i k:Nat}{x:A.Em}(hi:i≤Z.length)(h:(aR f s Z i)[k]?=some x):∃a,x.n.toNat<Z.length∧x.n=(x.n.toNat:Int)∧Z[x.n.toNat]?=some a∧x=oy f s x.n.toNat a:=by
 obtain⟨j,a,h1,h2,_,h4⟩:=fe f s Z i k x h
 have e:x.n=(j:Int):=by rw[h4];rfl
 have hn:x.n.toNat=j:=by rw[e];omega
 exact⟨a,by omega,by rw[hn,e],by rw[hn];exact h2,by rw[hn];exact h4⟩
theorem PI.key{f:Fi}{s:Int}{Z:List Ac}{fl:Bool}{q:List Nat}{bl:List aK}(h:PI f s Z fl Z.length q bl) :
 Q.fx (AD bl) q=(dt (aR f s Z Z.length)).map fun k=>q.getD k 0:=by
 have hq:q=(List.range (aR f s Z Z.length).length).map fun k=>q.getD k 0:=by
  apply acU
  intro k
  rw[acs,←h.lq]
  rcases aa4 k q.length with hlt|hge
  ·rw[acZ hlt]
   simp[List.getD,aa9 hlt]
  ·rw[aca hge,aca (by simpa using hge)];rfl
 conv=>lhs;rw[hq]
 rw[Q.Dd]
 unfold dt
 congr 1
 refine Q.yZ _ (fun k hk=>?_)
 have hkl:=abr.1 hk
 obtain⟨x,hx⟩:=bF hkl
 rw[hx]
 obtain⟨b,hb⟩:=bF (show k<q.length by rw[h.lq];exact hkl)
 obtain⟨a,h1,h2,h3,h4⟩:=kV (aa8 _) hx
 have g:=h.bq k b x a hb hx h3
 show AD bl (q.getD k 0)=x.y
 rw[show q.getD k 0=b by simp[List.getD,hb]]
 exact yy g rfl
theorem p9{ar:List A.Em}{k:Nat}(h:k∈dt ar):k<ar.length:=abr.1 ((Q.kH _ _ _).1 h)
theorem gO(ar:List A.Em):(dt ar).length=ar.length:=by unfold dt;rw[Q.js,adz]
theorem s6(f:Fi)(hb:Bd f)(s:Int)(Z:List Ac)(x:A.Em)(j:Nat)(a:Ac)(st:St):∀i,(kj f hb s Z x j a st i).L.length≤st.L.length+i
 |0=>aa8 _
 |i+1=>by
  have ih:=s6 f hb s Z x j a st i
  show(iT f hb s Z x j a (kj f hb s Z x j a st i) i).L.length≤_
  unfold iT
  split
  ·rename_i b _
   cases hc:(decide (b.kd=2)&&CQ (kj f hb s Z x j a st i).L (o6 (jf f hb) (kj f hb s Z x j a st i).L (rr f s i b)) x)with
   |false=>simp only[abc];omega
   |true=>
    cases decide (a.d=(i:Int))with
    |false=>simp only[abb,abc];omega
    |true=>simp only[abb,aaT,abg,abh];omega
  ·omega
theorem PI.start{f:Fi}{s:Int}{Z:List Ac}{fl:Bool}{q:List Nat}{bl:List aK}(h:PI f s Z fl Z.length q bl){lb fb v v':Nat}(hb2:bl[2]?=some (.box (nH f s Z fl (.bp lb v 0 (aR f s Z Z.length).length) (.bp fb v' 0 q.length) (.bp 1 0 0 Z.length))))
 (hlb:bl[lb]?=some (.arr v 4 (A.bK (aR f s Z Z.length)) false)) (hfb:bl[fb]?=some (.arr v' 1 (pS q) false)) (sq:List Nat) :
 PJ f s Z fl (aR f s Z Z.length) q sq lb fb v' bl.length (rq (aR f s Z Z.length) Z.length) (bl.set fb (.arr v' 1 (pS sq) false)):=by
 have lf:=(aaS.1 hfb).1
 have nf2:fb≠2:=bD hfb hb2 (fun h=>by cases h)
 have nfl:fb≠lb:=bD hfb hlb (fun h=>by injection h with _ h2;cases h2)
 refine⟨by simp,?_,?_,⟨v,?_,?_⟩,?_,abm lf,fun k b x a h1 h2 h3=>?_,by simp[rq],by simp[rq]⟩
 ·rw[aa2 (bD hfb h.b0 (fun h=>by cases h))];exact h.b0
 ·rw[aa2 (bD hfb h.b1 (fun h=>by injection h with _ h2;cases h2))];exact h.b1
 ·rw[aa2 nf2,hb2];simp[rq]
 ·rw[aa2 nfl,hlb];rfl
 ·rw[aa2 (bD hfb h.b3 (fun h=>by cases h))];exact h.b3
 ·have g:=h.bq k b x a h1 h2 h3
  refine⟨(-1,0),?_,?_⟩
  ·simp only[rq]
   rw[ac6,if_pos (aaS.1 h3).1]
  ·rw[aa2 (bD hfb g (fun h=>by cases h))];exact g
theorem nJ(R:List Rs):Still (kr R):=fun cs hcs c hc=>by
 obtain⟨r,_,rfl⟩:=acd.1 hcs
 revert c
 simp[Na,SV.refs,eh]
theorem gS(L:List A.Em):Still (A.bK L):=fun cs hcs c hc=>by
 obtain⟨r,_,rfl⟩:=acd.1 hcs
 revert c
 simp[A.ra,SV.refs,eh]
theorem RD(bl:List aK)(fb v:Nat)(hfb:fb<bl.length)(key:Nat→Int)(k:Nat)(M:List Nat)(es0:List (Nat×Nat))(hM:M.length<40)(hm:∀x∈M,fE bl fb key x)(h0:bl[fb]?=some (.arr v 1 (pS M) false)) :
 ∃es',aa T (k+47) (.fn 42) [.bp fb v 0 M.length,.fn 43 []] ⟨bl,es0,0⟩=some (.bk [],pH bl fb v (Q.fx key M) es'):=by
 suffices h:∃r,aa T (k+47) (.fn 42) [.bp fb v 0 M.length,.fn 43 []] ⟨bl,es0,0⟩=some r∧∃es',r=(.bk [],pH bl fb v (Q.fx key M) es') by
  obtain⟨r,h1,es',rfl⟩:=h
  exact⟨es',h1⟩
 refine dh WL (by rfl) ?_
 have hl:∀X,(bl.set fb X).length=bl.length:=fun X=>abf
 have ht:∀X,(bl.set fb X).take bl.length=bl.set fb X:=fun X=>by rw[←hl X,ab4]
 obtain⟨es1,he1,h79⟩:=ZC bl fb v hfb key k M [] M.length rfl hM hm (aX _)
 have hb:bl.set fb (.arr v 1 (pS M) false)=bl:=by
  obtain⟨g1,g2⟩:=aaS.1 h0
  rw[←g2];exact List.set_getElem_self g1
 unfold pH at h79
 rw[hb]at h79
 simp only[W5,go_sem,simprocAttr,hl,h0,h79,ht,ai,cN he1]
 exact⟨_,rfl⟩
theorem DG(f:Fi)(hb:Bd f)(s:Int)(Z:List Ac)(ar:List A.Em)(st:St)(k:Nat):(gd f hb s Z ar st k).L.length≤st.L.length+Z.length:=by
 unfold gd
 split
 ·split
  ·exact s6 _ _ _ _ _ _ _ _ _
  ·omega
 ·omega
theorem tw(f:Fi)(hb:Bd f)(s:Int)(Z:List Ac)(ar:List A.Em):∀(l:List Nat) (st:St),(l.foldl (gd f hb s Z ar) st).L.length≤st.L.length+l.length*Z.length
 |[],st=>by simp
 |k::l,st=>by
  have h1:=tw f hb s Z ar l (gd f hb s Z ar st k)
  have h2:=DG f hb s Z ar st k
  rw[ab1,abg,abY,acW]
  omega
theorem tx{α β:Type}(g:β→α→β)(b:β){l:List α}{i:Nat}{x:α}(h:l[i]?=some x):(l.take (i+1)).foldl g b=g ((l.take i).foldl g b) x:=by
 rw[acu,h,aek];rfl
theorem Bw(f:Fi)(hb:Bd f)(s:Int)(Z:List Ac)(x:A.Em)(j:Nat)(a:Ac)(st:St){i:Nat}{b:Ac}(h:Z[i]?=some b)(hk:decide (b.kd=2)=false):iT f hb s Z x j a st i=st:=by
 unfold iT;rw[h];simp only[hk,abk,abc]
theorem BA{f:Fi}{hb:Bd f}{s:Int}{Z:List Ac}{ar:List A.Em}{st:St}{k:Nat}{x:A.Em}{a:Ac}(hx:ar[k]?=some x)(ha:Z[x.n.toNat]?=some a):gd f hb s Z ar st k=kj f hb s Z x x.n.toNat a st Z.length:=by
 unfold gd;rw[hx];simp only[ha]
theorem Al{f:Fi}{hb:Bd f}{st:St}{ar:List A.Em}{R:List Rs}{k:Nat}{x:A.Em}{z:Int×Int}(hx:ar[k]?=some x)(hz:st.Q[x.n.toNat]?=some z) :
 iY f hb st ar R k=bif decide (z.1<0)then R else bif nT (jf f hb) st.L z.1 x.n.toNat then R.set x.n.toNat (Ar z.2)else R:=by
 unfold iY;rw[hx];simp only[hz]
theorem Wz(n N:Nat)(f:Fi)(s:Int)(Z:List Ac)(fl:Bool)(X0:aK)(q:eU)(hZ:Z.length≤maxLen)(I:Nat→List aK→Prop)
 (hI:∀i bl,I i bl→bl.length=N∧2<N∧∃x y z,bl[2]?=some (.box (nH f s Z fl x y z)))
 (hno:∀i bl b,I i bl→Z[i]?=some b→decide (b.kd=2)=false→I (i+1) bl)
 (hy:∀i bl b X es,cV N es→I i bl→Z[i]?=some b→decide (b.kd=2)=true→∃bl' es',I (i+1) bl'∧cV N es'∧aa T (n+1) (.fA (N+2)) [aew i] ⟨bl++[X0,.box [.ptr 2 0 0 0],.loop q .ready .normal,X],es,0⟩=some (.bool true,⟨bl'++[X0,.box [.ptr 2 0 0 0],.loop q .ready .normal,X],es',0⟩))
 (bl:List aK) (es:List (Nat×Nat)) (he:cV N es) (h0:I 0 bl) :
 ∃r,aa T (n+2) (.fn 81) [.fA (N+2),.ptr (N+1) 0 0 0] ⟨bl++[X0,.box [.ptr 2 0 0 0],.loop q .ready .normal],es,0⟩=some r∧∃bl' es',I Z.length bl'∧cV N es'∧r=(.bk [],⟨bl'++[X0,.box [.ptr 2 0 0 0],.loop q .ready .normal],es',0⟩):=by
 obtain⟨bl',es',h1,h2,h3⟩:=ZW n N f s Z fl X0 _ q rfl hZ I hI hno hy bl es he h0
 exact⟨_,h3,bl',es',h1,h2,rfl⟩
theorem PJ.Su{f:Fi}{s:Int}{Z:List Ac}{fl:Bool}{ar:List A.Em}{q sq:List Nat}{lb fb v' N:Nat}{L:List A.Em}{R:List Rs}{Q:List (Int×Int)}{bl:List aK}(h:PJ f s Z fl ar q sq lb fb v' N ⟨L,R,Q⟩ bl)(i:Nat)(r:Rs) :
 PJ f s Z fl ar q sq lb fb v' N ⟨L,R.set i r,Q⟩ (bl.set 1 (.arr 0 15 (kr (R.set i r)) true)):=by
 have b1:=h.b1
 obtain⟨v,h2,hlb⟩:=h.b2
 have l1:=(aaS.1 b1).1
 have nl1:lb≠1:=bD hlb b1 (fun e=>by injection e with _ e;cases e)
 have nf1:fb≠1:=bD h.bf b1 (fun e=>by injection e with _ e;cases e)
 refine⟨by rw[abf];exact h.len,?_,abm l1,⟨v,?_,?_⟩,?_,?_,fun k' b' x' a' hk' hx' ha'=>?_,by rw[abf];exact h.lR,h.lQ⟩
 ·rw[aa2 (by omega)];exact h.b0
 ·rw[aa2 (by omega),abf];exact h2
 ·rw[aa2 (Ne.symm nl1)];exact hlb
 ·rw[aa2 (by omega)];exact h.b3
 ·rw[aa2 (Ne.symm nf1)];exact h.bf
 ·obtain⟨z',g1,g2⟩:=h.bq k' b' x' a' hk' hx' ha'
  exact⟨z',g1,by rw[aa2 (Ne.symm (bD g2 b1 (fun e=>by cases e)))];exact g2⟩
theorem qc{α:Type}{v:Option α}{x:α}(h:post v (fun o=>o=x)):v=some x:=by
 obtain⟨o,h1,rfl⟩:=h
 exact h1
theorem mQ{p:cr}{N:Nat}{H0 H:ae}{e env:Env}(hv:p.bE=[])(hk:jJ p.live=true)(henv:dI p.live.tail e=env):jY p N H0 (e,H) (fun s=>s=(env,H)):=by
 subst henv
 exact⟨_,zk hv hk,rfl⟩
theorem vh{nc:Nat}:∀{j:Nat} {L:List Ac},Bm nc j L=0→∀(k:Nat) (a:Ac),L[k]?=some a→yL nc ((j+k:Nat):Int) a=0
 |j,[],_,k,a,h=>by simp at h
 |j,b::L,h0,0,a,h=>by
  simp only[acm,abd]at h
  subst h
  unfold Bm at h0
  cases hc:decide (yL nc j b=0)with
  |true=>simpa using abC hc
  |false=>rw[hc]at h0;exact h0
 |j,b::L,h0,k+1,a,h=>by
  unfold Bm at h0
  cases hc:decide (yL nc j b=0)with
  |true=>
   rw[hc]at h0
   have:=vh (j:=j+1) h0 k a (by simpa using h)
   rw[show j+(k+1)=j+1+k by omega];exact this
  |false=>
   rw[hc]at h0
   exact absurd h0 (aco hc)
theorem uZ{f:Fi}{s:Int}{Z:List Ac}(h:wQ f s Z=0):okF f=true∧Z.length=f.K.length∧CT f s=true∧∀(i:Nat) (a:Ac),Z[i]?=some a→yL f.C.length i a=0:=by
 unfold wQ at h
 cases h1:okF f with
 |false=>rw[h1]at h;cases h
 |true=>
  rw[h1]at h
  cases h2:decide (Z.length=f.K.length)with
  |false=>rw[h2]at h;cases h
  |true=>
   rw[h2]at h
   cases h3:CT f s with
   |false=>rw[h3]at h;cases h
   |true=>
    rw[h3]at h
    refine⟨rfl,abC h2,rfl,fun i a ha=>?_⟩
    have:=vh (j:=0) h i a ha
    rwa [ach]at this
theorem E9{f:Fi}(h:okF f=true):f.K.length≤32:=by
 unfold okF at h
 simp only[aa1,aaX,G.eJ,G.okB]at h
 omega
theorem nV{f:Fi}{s:Int}{Z:List Ac}{i:Nat}{a:Ac}(ha:Z[i]?=some a)(h:mw f s i a=true):C5 f s Z=true:=by
 unfold C5
 rw[ab5]
 exact⟨i,abr.2 (aaS.1 ha).1,by rw[ha];exact h⟩
theorem z5{f:Fi}{s:Int}{Z:List Ac}(h:∀(j:Nat) (a:Ac),j<Z.length→Z[j]?=some a→mw f s j a=false):C5 f s Z=false:=by
 unfold C5
 rw[ab3]
 intro i hi
 have hil:=abr.1 hi
 obtain⟨a,ha⟩:=bF hil
 rw[ha]
 simp only[h i a hil ha]
 exact aed
theorem grow{f:Fi}{s:Int}{Z:List Ac}(i:Nat)(a:Ac)(ha:Z[i]?=some a)(h:∀(j:Nat) (a:Ac),j<i→Z[j]?=some a→mw f s j a=false)(h0:mw f s i a=false):∀(j:Nat) (a:Ac),j<i+1→Z[j]?=some a→mw f s j a=false:=fun j b hj hb=>by
 rcases aa4 j i with h1|h1
 ·exact h j b h1 hb
 ·obtain rfl:j=i:=by omega
  rw[ha]at hb;cases hb
  exact h0
theorem Vb(n:Nat)(H:ae):aa T (n+10) (.fn 42) [.ay 0 [] true,.fn 43 []] H=some (.bk [],H):=eB WL (by rfl) (fk (T:=T) 100 (n+10) (.fn 42) [.ay 0 [] true,.fn 43 []] ah (.bk [],ah) (by kernel_rfl))
theorem ZO(n:Nat)(H:ae)(f:Fi)(hbd:Bd f)(s:Int)(Z:List Ac)(fl:Bool)(hZ:Z.length≤1000)(hx:∀a∈Z,a.x.size≤10000) :
 aa T (n+60) (.fn 11) [.agg (oM f),aew s,.ay 14 (qK Z) fl] H=some (Qf f hbd s Z,H):=by
 have hZ':Z.length≤maxLen:=abv hZ (by decide)
 have h38:=fun H=>Z6 (n+49) H f s Z fl hbd hZ' hx
 refine ab Gl (by rfl) ?_
 unfold Qf wO
 cases he:decide (wQ f s Z=0)with
 |false=>
  have he2:decide (wQ f s Z=0)=false:=he
  simp only[abc,he2]
  simp only[QC,ah,go_sem,simprocAttr,h38,he]
 |true=>
  have he0:=abC he
  rw[he0]at h38
  obtain⟨k1,k2,k3,k4⟩:=uZ he0
  have k5:=E9 k1
  refine qc ?_
  have mk:iG 15 [.bool false,.bool false,aex,aex,aex,aex,aex,aex,aex,aex,aex,aex,aex,.str ⟨⟨[]⟩⟩,aex] 120 ⟨[.box (oM f)],[],1⟩ (aew Z.length) (aew Z.length)=some (.bp 1 0 0 Z.length,⟨[.box (oM f),.arr 0 15 (kr (List.replicate Z.length Dv)) true],[],1⟩):=by
   have h1:decide ((Z.length:Int)*((120:Nat):Int)≤(bX:Int))=true:=aaV (by have:(bX:Int)=1099511627776:=rfl;omega)
   have h2:decide ((0:Int)≤(Z.length:Int))=true:=aaV (by omega)
   have h3:decide ((Z.length:Int)≤(Z.length:Int))=true:=aaV (by omega)
   rw[←yl]
   simp only[iG,h1,h2,h3,abn,abb,abD]
   rfl
  simp only[QC,ah,go_sem,simprocAttr,h38,mk,List.isEmpty_nil]
  refine bU (fun i s'=>∃bl q es',PI f s Z fl i q bl∧(∀(j:Nat) (a:Ac),j<i→Z[j]?=some a→mw f s j a=false)∧s'=([(3,.ptr 0 0 0 0),(6,.ay 0 [] true),(7,.ay 0 [] true),(8,aex),(10,.ptr 3 0 0 0),(11,.mp 4),(45,.ay 14 (qK Z) fl),(46,aew Z.length),(47,aew i)],⟨bl,es',0⟩)) Z.length ?_ ?_
  ·refine aZ (mQ rfl rfl (by simp only[go_sem,simprocAttr]<;>rfl)) ?_
   rintro s' rfl
   refine⟨_,[],_,⟨rfl,rfl,⟨_,_,rfl,.inl ⟨rfl,rfl,rfl,rfl⟩⟩,rfl,rfl,rfl,by simp,fun k b x a h=>by simp at h⟩,fun j a h=>by omega,rfl⟩
  ·rintro i s' hi ⟨bl,q,es,hPI,hno,rfl⟩
   rcases aa4 i Z.length with hlt|hge
   ·obtain⟨a,ha⟩:=bF hlt
    have hw:=br hlt hZ'
    have hik:i<f.K.length:=by omega
    have hfm:=k4 i a ha
    have hPa:=hPI.app [.box (EI a)]
    obtain⟨x,y,g2,g2'⟩:=hPa.b2
    have g3:=hPa.b3
    have g4:=hPa.b4
    have Ee:∀l:List aK,(bl++l)[4]?=bl[4]?:=fun l=>by rw[hPI.b4];exact gf hPI.b4
    have q4:∀l:List aK,(bl++l)[4]?=some (.map [(aew 1,.oX 39 [.ptr 2 0 0 0]),(aew 2,.oX 40 [.ptr 2 0 0 0]),(aex,.oX 41 [.ptr 2 0 0 0])]):=fun l=>gf hPI.b4
    rcases mE a.kd with⟨e0,e1,e2⟩|⟨e0,e1,e2⟩|⟨e0,e1,e2⟩|⟨e0,e1,e2⟩
    ·have hn0:mw f s i a=false:=by unfold mw;rw[e1,e2];rfl
     have h41:=fun H=>ZY (n+58) 2 i H
     simp only[go_sem,simprocAttr,aF,aB,aE,aD,au,al,ao,aq,bg,aN,bb,aQ,aM,aP,aI,aO,aH,aG,an,ai,bA,bz,aaU,aaT,aa5,hlt,ha,q4,e0,e1,e2,h41,hw]
     refine⟨trivial,aZ (mQ rfl rfl (by simp only[go_sem,simprocAttr]<;>rfl)) ?_⟩
     rintro s' rfl
     exact⟨_,q,_,hPa.next ha e1,grow i a ha hno hn0,rfl⟩
    ·obtain⟨H',h39,hok⟩:∃H',aa T (n+59) (.fn 39) [.ptr 2 0 0 0,aew i] ⟨bl++[.box (EI a)],es,0⟩=some (aew (bif l5 f s i a then 15 else 0),H')∧(l5 f s i a=false→∃bl' q' es',H'=⟨bl',es',0⟩∧PI f s Z fl (i+1) q' bl'):=by
      rcases g2' with⟨w1,w2,w3,w4⟩|⟨lb,fb,v,v',w1,w2,w3,w4⟩
      ·subst w2 w3 w4
       obtain⟨H',h1,h2⟩:=QU (n+49) 2 i (bl++[.box (EI a)]) es f s Z fl (.bp 1 0 0 Z.length) a hbd.C g2 ha hik (hx a (aa3 ha))
       refine⟨H',h1,fun h=>?_⟩
       obtain⟨es',h3⟩:=h2 h
       exact⟨_,_,es',h3,PI.first hPa w1 ha e1 g2⟩
      ·subst w1 w2
       have lq:=hPa.lq
       have la:=gP f s Z i
       obtain⟨H',h1,h2⟩:=Wx (n+49) 2 lb fb v v' i (aR f s Z i) q (bl++[.box (EI a)]) es f s Z fl (.bp 1 0 0 Z.length) a hbd.C g2 ha hik (hx a (aa3 ha)) w3 w4.1 (by omega) (by omega)
       refine⟨H',h1,fun h=>?_⟩
       obtain⟨es',h3⟩:=h2 h
       exact⟨_,_,es',h3,PI.more hPa hi ha e1 g2 w3 w4.1⟩
     cases hX:l5 f s i a with
     |true=>
      rw[hX]at h39
      have hpl:=nV (f:=f) (s:=s) ha (by unfold mw;rw[e1];exact hX)
      simp only[abb]at h39
      simp only[go_sem,simprocAttr,aF,aB,aE,aD,au,al,ao,aq,bg,aN,bb,aQ,aM,aP,aI,aO,aH,aG,an,ai,bA,bz,aaU,aaT,aa5,hlt,ha,q4,e0,e1,e2,h39,hw]
      rw[hpl]
      rfl
     |false=>
      rw[hX]at h39
      have hn0:mw f s i a=false:=by unfold mw;rw[e1];exact hX
      obtain⟨bl',q',es',rfl,hP'⟩:=hok hX
      simp only[abc]at h39
      simp only[go_sem,simprocAttr,aF,aB,aE,aD,au,al,ao,aq,bg,aN,bb,aQ,aM,aP,aI,aO,aH,aG,an,ai,bA,bz,aaU,aaT,aa5,hlt,ha,q4,e0,e1,e2,h39,hw]
      refine⟨trivial,aZ (mQ rfl rfl (by simp only[go_sem,simprocAttr]<;>rfl)) ?_⟩
      rintro s' rfl
      exact⟨_,q',_,hP',grow i a ha hno hn0,rfl⟩
    ·have h40:=fun H hv=>Zy (n+52) 2 i H f s Z fl x y (.bp 1 0 0 Z.length) hv hik
     cases hX:zr f s i with
     |true=>
      rw[hX]at h40
      have hpl:=nV (f:=f) (s:=s) ha (by unfold mw;rw[e1,e2];exact hX)
      simp only[abb]at h40
      simp only[go_sem,simprocAttr,aF,aB,aE,aD,au,al,ao,aq,bg,aN,bb,aQ,aM,aP,aI,aO,aH,aG,an,ai,bA,bz,aaU,aaT,aa5,hlt,ha,q4,e0,e1,e2,h40,g2,hw]
      rw[hpl]
      rfl
     |false=>
      rw[hX]at h40
      have hn0:mw f s i a=false:=by unfold mw;rw[e1,e2];exact hX
      simp only[abc]at h40
      simp only[go_sem,simprocAttr,aF,aB,aE,aD,au,al,ao,aq,bg,aN,bb,aQ,aM,aP,aI,aO,aH,aG,an,ai,bA,bz,aaU,aaT,aa5,hlt,ha,q4,e0,e1,e2,h40,g2,hw]
      refine⟨trivial,aZ (mQ rfl rfl (by simp only[go_sem,simprocAttr]<;>rfl)) ?_⟩
      rintro s' rfl
      exact⟨_,q,_,hPa.next ha e1,grow i a ha hno hn0,rfl⟩
    ·exfalso
     unfold yL at hfm
     rw[e0,e1,e2]at hfm
     cases hfm
   ·obtain rfl:i=Z.length:=by omega
    have hd:decide (Z.length<Z.length)=false:=aaZ (by omega)
    have hpl:=z5 hno
    have h3:=hPI.b3
    have h4:=hPI.b4
    obtain⟨x,y,g2,g3⟩:=hPI.b2
    rcases g3 with⟨w1,w2,w3,w4⟩|⟨lb,fb,v,v',w1,w2,w3,w4⟩
    ·subst w2 w3 w4
     have h42:=fun H=>Vb (n+49) H
     simp only[go_sem,simprocAttr,aF,aB,aE,aD,au,al,ao,aq,bg,aN,bb,aQ,aM,aP,aI,aO,aH,aG,an,ai,bA,bz,aaU,aaT,aa5,hd,h3,g2,h42]
     have l4:=(aaS.1 h4).1
     refine bU (fun i s'=>∃es',cV bl.length es'∧s'=([(3,.ptr 0 0 0 0),(6,.ay 0 [] true),(7,.ay 0 [] true),(8,aex),(10,.ptr 3 0 0 0),(70,.ay 0 [] true),(71,aex),(72,aex)],⟨bl,es',0⟩)) 0 ?_ ?_
     ·refine aZ (bG rfl rfl (by simp only[go_sem,simprocAttr]<;>rfl) (by simp[SV.refs,SV.refs.aJ];omega) rfl (aX _) (aX _)) ?_
      rintro s' ⟨es',h,rfl⟩
      exact⟨es',h,rfl⟩
     ·rintro i s' _ ⟨es',he',rfl⟩
      simp only[go_sem,simprocAttr,aF,aB,aE,aD,au,al,ao,aq,bg,aN,bb,aQ,aM,aP,aI,aO,aH,aG,an,ai,bA,bz,aaU,aaT,aa5,h3,g2]
      refine bU (fun i s'=>∃es',cV bl.length es'∧s'=([(3,.ptr 0 0 0 0),(10,.ptr 3 0 0 0),(87,.ay 0 [] true),(88,aex),(89,aex)],⟨bl,es',0⟩)) 0 ?_ ?_
      ·refine aZ (bG rfl rfl (by simp only[go_sem,simprocAttr]<;>rfl) (by simp[SV.refs,SV.refs.aJ];omega) rfl (by first|exact he'|exact aX _) (by first|exact he'|exact aX _)) ?_
       rintro s' ⟨es',h,rfl⟩
       exact⟨es',h,rfl⟩
      ·rintro i s' _ ⟨es2,he2,rfl⟩
       simp only[go_sem,simprocAttr,aF,aB,aE,aD,au,al,ao,aq,bg,aN,bb,aQ,aM,aP,aI,aO,aH,aG,an,ai,bA,bz,aaU,aaT,aa5,h3,g2]
       have hf:=(nJ (List.replicate Z.length Dv)).fz 0 ⟨bl,es++(es'++es2),0⟩ 5 0 Z.length 15 true (by rw[tC,List.length_replicate])
       have hR:o9 f hbd s Z=List.replicate Z.length Dv:=by unfold o9 gM;rw[w1];rfl
       simp only[hPI.b1,hf,hpl,w1,go_sem,simprocAttr,hR]
    ·obtain⟨w4,w5⟩:=w4
     have lq:=hPI.lq
     have la:=gP f s Z Z.length
     have l4:=(aaS.1 h4).1
     have lfb:=(aaS.1 w4).1
     subst w1 w2
     obtain⟨es1,h42⟩:=RD bl fb v' lfb (AD bl) (n+12) q es (by omega) (fun b hb=>by
      obtain⟨k,hk⟩:=abw hb
      obtain⟨x,hx⟩:=bF (show k<(aR f s Z Z.length).length by rw[←lq];exact(aaS.1 hk).1)
      obtain⟨a,_,_,h2,_⟩:=kV (aa8 _) hx
      have g:=hPI.bq k b x a hk hx h2
      exact⟨bD g w4 (fun h=>by cases h),_,g,by rw[yy g rfl];rfl⟩) w4
     rw[hPI.key]at h42
     obtain⟨sq,hsq⟩:∃sq,((dt (aR f s Z Z.length)).map fun k=>q.getD k 0)=sq:=⟨_,rfl⟩
     rw[hsq]at h42
     have hP0:=hPI.start g2 w3 w4 sq
     obtain⟨bS0,hbS⟩:∃b,bl.set fb (.arr v' 1 (pS sq) false)=b:=⟨_,rfl⟩
     unfold pH at h42
     rw[hbS]at h42 hP0
     obtain⟨N,hN⟩:∃N,bl.length=N:=⟨_,rfl⟩
     have hl0:bS0.length=N:=by rw[←hbS,abf,hN]
     rw[hN]at hP0
     obtain⟨vv,g20,_⟩:=hP0.b2
     have g30:=hP0.b3
     have gf0:=hP0.bf
     simp only[go_sem,simprocAttr,aF,aB,aE,aD,au,al,ao,aq,bg,aN,bb,aQ,aM,aP,aI,aO,aH,aG,an,ai,bA,bz,aaU,aaT,aa5,hd,h3,g2,h42,g20,g30,gf0,hl0]
     refine bU (fun i s'=>∃bl' es',PJ f s Z fl (aR f s Z Z.length) q sq lb fb v' N (((dt (aR f s Z Z.length)).take i).foldl (gd f hbd s Z (aR f s Z Z.length)) (rq (aR f s Z Z.length) Z.length)) bl'∧cV N es'∧s'=([(3,.ptr 0 0 0 0),(6,.ay 0 [] true),(7,.ay 0 [] true),(8,aex),(10,.ptr 3 0 0 0),(70,.bp fb v' 0 q.length),(71,aew q.length),(72,aew i)],⟨bl',es',0⟩)) q.length ?_ ?_
     ·refine aZ (bG rfl rfl (by simp only[go_sem,simprocAttr]<;>rfl) (by simp[SV.refs,SV.refs.aJ];omega) hl0 (aX _) (aX _)) ?_
      rintro s' ⟨es',h,rfl⟩
      exact⟨_,es',hP0,h,rfl⟩
     ·rintro i s' hi ⟨bl',es',hP,he',rfl⟩
      have hl:=hP.len
      have lsq:sq.length=q.length:=by rw[←hsq,aes,gO,lq]
      have gbf:=hP.bf
      have gb3:=hP.b3
      obtain⟨vw,gb2,_⟩:=hP.b2
      rcases aa4 i q.length with hlt|hge
      ·obtain⟨k,hk⟩:=bF (show i<(dt (aR f s Z Z.length)).length by rw[gO];omega)
       have hkl:=p9 (aa3 hk)
       obtain⟨x,hx⟩:=bF hkl
       obtain⟨xb,hxb⟩:=bF (show k<q.length by omega)
       obtain⟨a,n1,_,n2,_⟩:=kV (aa8 _) hx
       have gi:sq[i]?=some xb:=by rw[←hsq,acs,hk];simp[List.getD,hxb]
       have hw:=br hlt (show q.length≤maxLen by omega)
       have hap:∀l:List aK,(bl'++l)[fb]?=bl'[fb]?:=fun l=>by rw[gbf];exact gf gbf
       have hap3:∀l:List aK,(bl'++l)[3]?=some (.box [.ptr 2 0 0 0]):=fun l=>gf gb3
       simp only[go_sem,simprocAttr,aF,aB,aE,aD,au,al,ao,aq,bg,aN,bb,aQ,aM,aP,aI,aO,aH,aG,an,ai,bA,bz,aaU,aaT,aa5,hlt,gbf,gi,hl,pj hl,fT hl,sS hl,kM hl,iI hl,hap3,Tc]
       obtain⟨z,_,gxb⟩:=hP.bq k xb x a hxb hx n2
       have lxb:xb<N:=by rw[←hl];exact(aaS.1 gxb).1
       have hL0:(((dt (aR f s Z Z.length)).take i).foldl (gd f hbd s Z (aR f s Z Z.length)) (rq (aR f s Z Z.length) Z.length)).L.length≤32+32*32:=by
        refine abv (tw f hbd s Z (aR f s Z Z.length) _ _) ?_
        have e1:((dt (aR f s Z Z.length)).take i).length≤32:=by rw[abF];omega
        have e2:=aeg e1 (show Z.length≤32 by omega)
        have e3:(rq (aR f s Z Z.length) Z.length).L.length=(aR f s Z Z.length).length:=rfl
        omega
       refine yD (Wz (n+57) N f s Z fl _ _ hZ' (fun j b=>PJ f s Z fl (aR f s Z Z.length) q sq lb fb v' N (kj f hbd s Z x x.n.toNat a (((dt (aR f s Z Z.length)).take i).foldl (gd f hbd s Z (aR f s Z Z.length)) (rq (aR f s Z Z.length) Z.length)) j) b∧j≤32) ?_ ?_ ?_ bl' _ (fS he' (by omega)) ⟨hP,by omega⟩) ?_
       ·rintro j b ⟨hJ,_⟩
        obtain⟨v2,g,_⟩:=hJ.b2
        exact⟨hJ.len,by omega,_,_,_,g⟩
       ·rintro j b c ⟨hJ,_⟩ hc hkd
        have:=(aaS.1 hc).1
        refine⟨?_,by omega⟩
        show PJ _ _ _ _ _ _ _ _ _ _ _ (iT _ _ _ _ _ _ _ _ _) _
        rw[Bw _ _ _ _ _ _ _ _ hc hkd]
        exact hJ
       ·rintro j b c X es2 he2 ⟨hJ,hj⟩ hc hkd
        have:=(aaS.1 hc).1
        have hLL:=s6 f hbd s Z x x.n.toNat a (((dt (aR f s Z Z.length)).take i).foldl (gd f hbd s Z (aR f s Z Z.length)) (rq (aR f s Z Z.length) Z.length)) j
        obtain⟨b3,es3,k1,k2,k3⟩:=Oc (n+26) N {env:=[(77,.fn 81 [.ptr (N+1) 0 0 0]),(76,.ptr 2 0 0 0),(16,.ptr N 0 0 0),(75,.ptr xb 0 0 0),(74,.ptr fb v' i 0),(73,.bool true),(3,.ptr 0 0 0 0),(6,.ay 0 [] true),(7,.ay 0 [] true),(8,aex),(10,.ptr 3 0 0 0),(70,.bp fb v' 0 q.length),(71,aew q.length),(72,aew i)],ps:=[78],assign:=.ops [OM 17 78],body:=.block 5 (.ops [OL 79 10,OM 80 17,OL 81 16,OC 82 46 [79,80,81]])} rfl rfl rfl rfl rfl f hbd s Z fl _ q sq lb fb v' _ b hJ hPI.nd (qB f s Z Z.length) (by omega) (by omega) hxb hx n2 hc hkd X es2 he2
        exact⟨b3,es3,⟨k1,by omega⟩,k2,k3⟩
       ·rintro r ⟨b2,es2,⟨hP2,_⟩,he2,rfl⟩
        have hl2:=hP2.len
        have d23:decide (N+2<N+3)=true:=aaV (by omega)
        simp only[aaT,abg,abh,hl,hl2,d23,go_sem,simprocAttr,fT hl2,kM hl2,iI hl2,hw]
        have hst:((dt (aR f s Z Z.length)).take (i+1)).foldl (gd f hbd s Z (aR f s Z Z.length)) (rq (aR f s Z Z.length) Z.length)=kj f hbd s Z x x.n.toNat a (((dt (aR f s Z Z.length)).take i).foldl (gd f hbd s Z (aR f s Z Z.length)) (rq (aR f s Z Z.length) Z.length)) Z.length:=by rw[tx _ _ hk,BA hx n2]
        refine⟨hlt,aZ (Cl rfl rfl (by simp only[go_sem,simprocAttr]<;>rfl) (by simp[SV.refs,SV.refs.aJ];omega) hl2 (N:=N) he2 (aX _)) ?_⟩
        rintro s' ⟨es',h,rfl⟩
        exact⟨b2,es',by rw[hst];exact hP2,h,rfl⟩
      ·obtain rfl:i=q.length:=by omega
       have hd2:decide (q.length<q.length)=false:=aaZ (by omega)
       have htk:(dt (aR f s Z Z.length)).take q.length=dt (aR f s Z Z.length):=abu (by rw[gO];omega)
       rw[htk]at hP gb2
       have hP:PJ f s Z fl (aR f s Z Z.length) q sq lb fb v' N ⟨(gM f hbd s Z).L,(gM f hbd s Z).R,(gM f hbd s Z).Q⟩ bl':=hP
       simp only[go_sem,simprocAttr,aF,aB,aE,aD,au,al,ao,aq,bg,aN,bb,aQ,aM,aP,aI,aO,aH,aG,an,ai,bA,bz,aaU,aaT,aa5,hd2,gb3,gb2,gbf,hl]
       refine bU (fun i s'=>∃bl2 es2,PJ f s Z fl (aR f s Z Z.length) q sq lb fb v' N ⟨(gM f hbd s Z).L,((dt (aR f s Z Z.length)).take i).foldl (iY f hbd (gM f hbd s Z) (aR f s Z Z.length)) (gM f hbd s Z).R,(gM f hbd s Z).Q⟩ bl2∧cV N es2∧s'=([(3,.ptr 0 0 0 0),(10,.ptr 3 0 0 0),(87,.bp fb v' 0 q.length),(88,aew q.length),(89,aew i)],⟨bl2,es2,0⟩)) q.length ?_ ?_
       ·refine aZ (bG rfl rfl (by simp only[go_sem,simprocAttr]<;>rfl) (by simp[SV.refs,SV.refs.aJ];omega) hl (by first|exact he'|exact aX _) (aX _)) ?_
        rintro s' ⟨es',h,rfl⟩
        exact⟨bl',es',hP,h,rfl⟩
       ·have hLN:(gM f hbd s Z).L.length≤maxLen:=by
         refine abv (tw f hbd s Z (aR f s Z Z.length) _ _) ?_
         have e2:=aeg (show(dt (aR f s Z Z.length)).length≤32 by rw[gO];omega) (show Z.length≤32 by omega)
         have e3:(rq (aR f s Z Z.length) Z.length).L.length=(aR f s Z Z.length).length:=rfl
         have:=mx
         refine abv (show _≤2000 by omega) (by decide)
        rintro i s' hi ⟨bl2,es2,hP2,he2,rfl⟩
        have hl2:=hP2.len
        have gcf:=hP2.bf
        have gc3:=hP2.b3
        have gc0:=hP2.b0
        have gc1:=hP2.b1
        obtain⟨vx,gc2,gcl⟩:=hP2.b2
        rcases aa4 i q.length with hlt|hge
        ·obtain⟨k,hk⟩:=bF (show i<(dt (aR f s Z Z.length)).length by rw[gO];omega)
         have hkl:=p9 (aa3 hk)
         obtain⟨x,hx⟩:=bF hkl
         obtain⟨xb,hxb⟩:=bF (show k<q.length by omega)
         obtain⟨a,n1,n1',n2,_⟩:=kV (aa8 _) hx
         have gi:sq[i]?=some xb:=by rw[←hsq,acs,hk];simp[List.getD,hxb]
         have hw:=br hlt (show q.length≤maxLen by omega)
         obtain⟨z,hz,gxb⟩:=hP2.bq k xb x a hxb hx n2
         have hfs:=tx (iY f hbd (gM f hbd s Z) (aR f s Z Z.length)) (gM f hbd s Z).R hk
         rw[Al (st:=gM f hbd s Z) hx hz]at hfs
         have l0:=(aaS.1 gc0).1
         cases hz0:decide (z.1<0)with
         |true=>
          rw[hz0]at hfs
          simp only[abb]at hfs
          simp only[go_sem,simprocAttr,aF,aB,aE,aD,au,al,ao,aq,bg,aN,bb,aQ,aM,aP,aI,aO,aH,aG,an,ai,bA,bz,aaU,aaT,aa5,hlt,gcf,gi,hl2,gxb,hz0,hw]
          refine⟨trivial,aZ (bG rfl rfl (by simp only[go_sem,simprocAttr]<;>rfl) (by simp[SV.refs,SV.refs.aJ];omega) hl2 he2 (by first|exact he'|exact aX _)) ?_⟩
          rintro s' ⟨es',h,rfl⟩
          exact⟨bl2,es',by rw[hfs];exact hP2,h,rfl⟩
         |false=>
          rw[hz0]at hfs
          have hfz:=fun H d=>(gS (gM f hbd s Z).L).fz 0 H 6 d (gM f hbd s Z).L.length 4 false A.ep
          obtain⟨e,hrc⟩:=Ct (jf f hbd) (gM f hbd s Z).L z.1 x.n.toNat
          have h47:=A.ZT (n+41) ⟨[],[],0⟩ (jf f hbd) (gM f hbd s Z).L false z.1 x.n.toNat hLN
          rw[hrc]at h47
          have d0:decide (lb<0)=false:=rfl
          cases hrv:nT (jf f hbd) (gM f hbd s Z).L z.1 x.n.toNat with
          |false=>
           rw[hrv]at h47 hfs
           simp only[jf,A.lZ,A.ow]at h47
           simp only[abc]at hfs
           simp only[go_sem,simprocAttr,aF,aB,aE,aD,au,al,ao,aq,bg,aN,bb,aQ,aM,aP,aI,aO,aH,aG,an,ai,bA,bz,aaU,aaT,aa5,hlt,gcf,gi,hl2,gxb,hz0,hw,gc0,gc3,gc2,gcl,hfz,d0,h47]
           refine⟨trivial,aZ (bG rfl rfl (by simp only[go_sem,simprocAttr]<;>rfl) (by simp[SV.refs,SV.refs.aJ];omega) hl2 he2 (by first|exact he'|exact aX _)) ?_⟩
           rintro s' ⟨es',h,rfl⟩
           exact⟨bl2,es',by rw[hfs];exact hP2,h,rfl⟩
          |true=>
           rw[hrv]at h47 hfs
           simp only[jf,A.lZ,A.ow]at h47
           simp only[abb,abc]at hfs
           obtain⟨Rx,hRx⟩:∃Rx,((dt (aR f s Z Z.length)).take i).foldl (iY f hbd (gM f hbd s Z) (aR f s Z Z.length)) (gM f hbd s Z).R=Rx:=⟨_,rfl⟩
           rw[hRx]at hfs hP2 gc1 gc2
           have lRx:x.n.toNat<Rx.length:=by rw[show Rx.length=Z.length from hP2.lR];exact n1
           obtain⟨row,hrow⟩:=bF lRx
           have hrw:(kr Rx).set x.n.toNat [.bool true,.bool false,aex,aex,aex,aex,aex,aex,aex,aex,aex,aex,aex,.str ⟨⟨[]⟩⟩,aew z.2]=kr (Rx.set x.n.toNat (Ar z.2)):=pv Rx x.n.toNat (Ar z.2)
           have hP3:=hP2.Su x.n.toNat (Ar z.2)
           obtain⟨bl3,hb3⟩:∃b,bl2.set 1 (.arr 0 15 (kr (Rx.set x.n.toNat (Ar z.2))) true)=b:=⟨_,rfl⟩
           rw[hb3]at hP3
           have hl3:=hP3.len
           have d1:decide (1<N)=true:=aaV (by omega)
           simp only[go_sem,simprocAttr,aF,aB,aE,aD,au,al,ao,aq,bg,aN,bb,aQ,aM,aP,aI,aO,aH,aG,an,ai,bA,bz,aaU,aaT,aa5,hlt,gcf,gi,hl2,gxb,hz0,hw,gc0,gc3,gc2,gcl,gc1,lRx,hrow,hrw,hb3,hl3,hfz,d0,d1,h47,aa8,ace]
           refine⟨trivial,aZ (bG rfl rfl (by simp only[go_sem,simprocAttr]<;>rfl) (by simp[SV.refs,SV.refs.aJ];omega) hl3 he2 (by first|exact he'|exact aX _)) ?_⟩
           rintro s' ⟨es',h,rfl⟩
           exact⟨bl3,es',by rw[hfs];exact hP3,h,rfl⟩
        ·obtain rfl:i=q.length:=by omega
         rw[htk]at hP2 gc1 gc2
         have hF:((dt (aR f s Z Z.length)).foldl (iY f hbd (gM f hbd s Z) (aR f s Z Z.length)) (gM f hbd s Z).R)=o9 f hbd s Z:=rfl
         rw[hF]at gc1 gc2
         have hfz1:=fun H=>(nJ (o9 f hbd s Z)).fz 0 H 5 0 (o9 f hbd s Z).length 15 true tC
         have hfz2:=fun H=>(gS (gM f hbd s Z).L).fz 0 H 5 vx (gM f hbd s Z).L.length 4 false A.ep
         have hne:(aR f s Z Z.length).isEmpty=false:=by
          cases h:aR f s Z Z.length with
          |nil=>exact absurd h w5
          |cons _ _=>rfl
         have d0:decide (lb<0)=false:=rfl
         simp only[go_sem,simprocAttr,aF,aB,aE,aD,au,al,ao,aq,bg,aN,bb,aQ,aM,aP,aI,aO,aH,aG,an,ai,bA,bz,aaU,aaT,aa5,hd2,gc3,gc2,hl2,gc1,gcl,hfz1,hfz2,hpl,hne,d0]
theorem zJ{T:FuncId→Option aC}{f:FuncId}{F:aC}{xs:List SV}{n:Nat}{H:ae}{Q:SV×ae→Prop}(hT:T f=some F)
 (h:post (runK (aa T n) (ov F.res (fun v H'=>cR true H v H')) F.body [] (dV xs) ⟨H.bl,[],min H.ro H.bl.length⟩ ()) Q):∃r,aa T (n+1) (.qX f) xs H=some r∧Q r:=by
 obtain⟨r,h1,h2⟩:=h
 exact⟨r,eP hT h1,h2⟩
theorem G1(a b:Int):bj (bj a+b)=bj (a+b):=by
 unfold bj IntKind.wrap
 simp only[IntKind.wrap,IntKind.bits,IntKind.signed,abo,ge_iff_le,aaX]
 split<;>split<;>split<;>omega
theorem cb{p:cr}{N:Nat}{H0:ae}{s' s:Env×ae}{I:Env×ae→Prop}(h:dX p N H0 s'=some s)(hi:I s):jY p N H0 s' I:=⟨s,h,hi⟩
theorem ZN(n:Nat)(f:Fi)(hbd:Bd f)(s:Int)(Z:List Ac)(fl:Bool)(hZ:Z.length≤1000)(hk:Z.length=f.K.length) :
 ∃r,aa T (n+8) (.qX 52) [.agg (oM f),aew s,.ay 14 (qK Z) fl,.ay 1 (iS (iN f s Z)) false] ⟨[.box (oM f)],[],0⟩=some r∧
  (C5 f s Z=true→∃H',r=(.bk [.ay 0 [] true,.bool false],H'))∧
  (C5 f s Z=false→r=(.bk [.bp 2 (aR f s Z Z.length).length 0 (aR f s Z Z.length).length,.bool true],⟨[.box (oM f),.box (oM f),.arr (aR f s Z Z.length).length 4 (A.bK (aR f s Z Z.length)) false],[],0⟩)):=by
 have hZ':Z.length≤maxLen:=abv hZ (by decide)
 refine zJ YE ?_
 simp only[Xg,go_sem,simprocAttr]
 refine bU (fun i s'=>(∀(j:Nat) (a:Ac),j<i→Z[j]?=some a→mw f s j a=false)∧s'=([(1,aew s),(2,.ay 14 (qK Z) fl),(3,.ay 1 (iS (iN f s Z)) false),(4,.ptr 1 0 0 0),(10,.bp 2 (aR f s Z i).length 0 (aR f s Z i).length),(11,aew i)],⟨[.box (oM f),.box (oM f),.arr (aR f s Z i).length 4 (A.bK (aR f s Z i)) false],[],0⟩)) Z.length ?_ ?_
 ·exact cb (by simp only[go_sem,simprocAttr]<;>rfl) ⟨fun j a h=>by omega,rfl⟩
 ·rintro i s' hi ⟨hno,rfl⟩
  rcases aa4 i Z.length with hlt|hge
  ·obtain⟨a,ha⟩:=bF hlt
   have hw:=br hlt hZ'
   have hik:i<f.K.length:=by omega
   have hg:=lg (f:=f) (i:=i) (by omega)
   have h54:=fun H=>Ya (n+2) H (eH f i).1 (eH f i).2 s
   have h13:=fun H=>YV (n+2) H (eH f i).1 (eH f i).2 s
   have h14:=fun H=>Zx (n+1) H a
   have hch:(iN f s Z)[i]?=some (EO f s a):=by unfold iN;rw[acs,ha];rfl
   have hcl:i<(iN f s Z).length:=(aaS.1 hch).1
   have rm:decide (((aR f s Z i).length+1)*32≤bX)=true:=by
    rw[aaX]
    exact abv (show((aR f s Z i).length+1)*32≤40000 by have:=gP f s Z i;omega) (by decide)
   have hsn:A.bK (aR f s Z i)++[[aew i,aew (oT.qV f.v f.a f.b f.C s a.of),aew (tp (eH f i).1 (eH f i).2 s),aew (bj (tp (eH f i).1 (eH f i).2 s+CO a))]]=A.bK (aR f s Z i++[oy f s i a]):=kY _ (oy f s i a)
   have hln:(aR f s Z i).length+1=(aR f s Z i++[oy f s i a]).length:=by simp
   have la:=gP f s Z i
   have hgr:=fun H X=>eo 4 H 2 (aR f s Z i).length (aR f s Z i).length X (A.bK (aR f s Z i)) A.ep
   rcases mE a.kd with⟨e0,e1,e2⟩|⟨e0,e1,e2⟩|⟨e0,e1,e2⟩|⟨e0,e1,e2⟩
   ·have hn0:mw f s i a=false:=by unfold mw;rw[e1,e2];rfl
    have hT:=pn (f:=f) (s:=s) ha e1
    simp only[go_sem,simprocAttr,hlt,ha,e1,e2,hw]
    exact⟨trivial,cb (by simp only[go_sem,simprocAttr]<;>rfl) ⟨grow i a ha hno hn0,by rw[hT]<;>rfl⟩⟩
   ·have hT:=qA (f:=f) (s:=s) ha e1
    have hc1:EO f s a=oT.qV f.v f.a f.b f.C s a.of:=by unfold EO;rw[e0];rfl
    rw[hc1]at hch
    cases hx:decide (zN (eH f i).1 (eH f i).2 s=0)with
    |false=>
     have hpl:=nV (f:=f) (s:=s) ha (by unfold mw l5;rw[e1,hx];rfl)
     simp only[go_sem,simprocAttr,hlt,ha,e1,e2,hik,hg,h13,hx,hw,hpl]
     exact⟨fun _=>⟨_,rfl⟩,fun h=>by cases h⟩
    |true=>
     cases hc:decide (0≤a.d)with
     |false=>
      cases hc2:decide (1099511627776<bj (tp (eH f i).1 (eH f i).2 s+CO a))with
      |true=>
       have hpl:=nV (f:=f) (s:=s) ha (by unfold mw l5 wi oy;rw[e1,hx,hc];simp only[abc,abb,hc2,acv])
       simp only[go_sem,simprocAttr,hlt,ha,e1,e2,hik,hg,h13,h14,hx,hc,hc2,hw,hpl]
       exact⟨fun _=>⟨_,rfl⟩,fun h=>by cases h⟩
      |false=>
       have hn0:mw f s i a=false:=by unfold mw l5 wi oy;rw[e1,hx,hc];simp only[abc,abb,hc2,aci,abJ]
       simp only[go_sem,simprocAttr,hlt,ha,e1,e2,hik,hg,h13,h14,hx,hc,hc2,hw,hch,hcl,hgr,rm,hsn]
       exact⟨trivial,cb (by simp only[go_sem,simprocAttr]<;>rfl) ⟨grow i a ha hno hn0,by rw[hT,←hln]<;>rfl⟩⟩
     |true=>
      have h1832:∀y,bj (bj (y+1000)+832)=bj (y+1832):=fun y=>by rw[G1,Int.add_assoc];rfl
      cases hc2:decide (1099511627776<bj (bj (tp (eH f i).1 (eH f i).2 s+CO a)+1832))with
      |true=>
       have hpl:=nV (f:=f) (s:=s) ha (by unfold mw l5 wi oy;rw[e1,hx,hc];simp only[abc,abb,hc2,acv])
       simp only[go_sem,simprocAttr,hlt,ha,e1,e2,hik,hg,h13,h14,hx,hc,h1832,hc2,hw,hpl]
       exact⟨fun _=>⟨_,rfl⟩,fun h=>by cases h⟩
      |false=>
       have hn0:mw f s i a=false:=by unfold mw l5 wi oy;rw[e1,hx,hc];simp only[abc,abb,hc2,aci,abJ]
       simp only[go_sem,simprocAttr,hlt,ha,e1,e2,hik,hg,h13,h14,hx,hc,h1832,hc2,hw,hch,hcl,hgr,rm,hsn]
       exact⟨trivial,cb (by simp only[go_sem,simprocAttr]<;>rfl) ⟨grow i a ha hno hn0,by rw[hT,←hln]<;>rfl⟩⟩
   ·cases hx:decide (GO (eH f i).1 (eH f i).2 s=0)with
    |true=>
     have hn0:mw f s i a=false:=by unfold mw zr;rw[e1,e2,hx];rfl
     have hT:=pn (f:=f) (s:=s) ha e1
     simp only[go_sem,simprocAttr,hlt,ha,e1,e2,hik,hg,h54,hx,hw]
     exact⟨trivial,cb (by simp only[go_sem,simprocAttr]<;>rfl) ⟨grow i a ha hno hn0,by rw[hT]<;>rfl⟩⟩
    |false=>
     have hpl:=nV (f:=f) (s:=s) ha (by unfold mw zr;rw[e1,e2,hx];rfl)
     simp only[go_sem,simprocAttr,hlt,ha,e1,e2,hik,hg,h54,hx,hw]
     simp only[hpl]
     exact⟨fun _=>⟨_,rfl⟩,fun h=>by cases h⟩
   ·have hn0:mw f s i a=false:=by unfold mw;rw[e1,e2];rfl
    have hT:=pn (f:=f) (s:=s) ha e1
    simp only[go_sem,simprocAttr,hlt,ha,e1,e2,hw]
    exact⟨trivial,cb (by simp only[go_sem,simprocAttr]<;>rfl) ⟨grow i a ha hno hn0,by rw[hT]<;>rfl⟩⟩
  ·obtain rfl:i=Z.length:=by omega
   have hd:decide (Z.length<Z.length)=false:=aaZ (by omega)
   have hpl:=z5 hno
   simp only[go_sem,simprocAttr,hd,hpl]
   exact⟨fun h=>(by cases h),fun _=>trivial⟩
def kA(ar:List A.Em)(k:Nat):Int:=match ar[k]? with|some x=>x.y|none=>0
def nP(ar:List A.Em)(i:Nat):List Nat:=Q.fx (kA ar) (List.range i)
theorem vE(ar:List A.Em)(i:Nat):(nP ar i).length=i:=by unfold nP;rw[Q.js,adz]
theorem Cm{ar:List A.Em}{i k:Nat}(h:k∈nP ar i):k<i:=abr.1 ((Q.kH _ _ _).1 h)
theorem Cu(ar:List A.Em)(i j:Nat)(h1:∀z∈(nP ar i).take j,¬kA ar i<kA ar z)(h2:∀w∈(nP ar i).drop j,kA ar i<kA ar w):nP ar (i+1)=(nP ar i).take j++i::(nP ar i).drop j:=by
 have h:=Q.pq (kA ar) _ _ i h1 h2
 rw[abR]at h
 rw[←h]
 unfold nP
 rw[List.range_succ,Q.vM]
def jV(O:List Nat)(i j:Nat):List Nat:=O.take j++(if j=O.length then i else O.getD j 0)::O.drop j
theorem Aa(O:List Nat)(i j:Nat)(h:j≤O.length):(jV O i j).length=O.length+1:=by unfold jV;simp;omega
theorem AJ(O:List Nat)(i:Nat):jV O i O.length=O++[i]:=by unfold jV;simp
theorem Ay(O:List Nat)(i j:Nat)(h:j+1≤O.length):(jV O i (j+1))[j]?=some (O.getD j 0):=by
 unfold jV
 rw[aa6 (by rw[abF];omega),List.getElem?_take_of_lt (by omega)]
 rw[abA,aa9 (by omega)];rfl
theorem yV(O:List Nat)(i j:Nat)(h:j+1≤O.length):(jV O i (j+1)).set (j+1) (O.getD j 0)=jV O i j:=by
 unfold jV
 rw[adw _ _ (by rw[abF];omega)]
 rw[abF,ab2 h,ad3,adM]
 have hd:O.drop j=O.getD j 0::O.drop (j+1):=by
  rw[acn (by omega),abA,aa9 (by omega)];rfl
 rw[hd]
 have ht:O.take (j+1)=O.take j++[O.getD j 0]:=by
  rw[acu,aa9 (by omega),abA,aa9 (by omega)];rfl
 rw[ht,aaU]
 by_cases h2:j=O.length
 ·omega
 ·rw[if_neg h2];rfl
theorem uN(O:List Nat)(i j:Nat)(h:j≤O.length):(jV O i j).set j i=O.take j++i::O.drop j:=by
 unfold jV
 rw[adw _ _ (by rw[abF];omega),abF,ab2 h,ad3,adM]
theorem Zb(n b v:Nat)(bl:List aK)(es:List (Nat×Nat))(ro:Nat)(ar:List A.Em)(hb:bl[b]?=some (.arr v 4 (A.bK ar) false))(hl:ar.length≤1000) :
 aa T (n+1) (.fn 53) [.bp b v 0 ar.length] ⟨bl,es,ro⟩=some (.ay 1 (bS (dt ar)) false,⟨bl,es,ro⟩):=by
 suffices h:∃r,aa T (n+1) (.fn 53) [.bp b v 0 ar.length] ⟨bl,es,ro⟩=some r∧r=(.ay 1 (bS (dt ar)) false,⟨bl,es,ro⟩) by
  obtain⟨r,h1,rfl⟩:=h
  exact h1
 have hl':ar.length≤maxLen:=abv hl (by decide)
 have hbl:=(aaS.1 hb).1
 refine dh Zl (mB (by simp[SV.refs.aJ,SV.refs])) ?_
 have hb':∀l:List aK,(bl++l)[b]?=some (.arr v 4 (A.bK ar) false):=fun l=>gf hb
 obtain⟨N,hN⟩:∃N,bl.length=N:=⟨_,rfl⟩
 simp only[Xj,go_sem,simprocAttr,aF,aB,aE,aD,au,al,ao,aq,bg,aN,bb,aQ,aM,aP,aI,aO,aH,aG,an,ai,bA,bz,aaU,aaT,aa5,hN,hb']
 refine bU (fun i s'=>s'=([(0,.bp b v 0 ar.length),(3,.bp N i 0 i),(4,aew i)],⟨bl++[.arr i 1 (bS (nP ar i)) false],[],min ro N⟩)) ar.length ?_ ?_
 ·have hbN:decide (b≤N)=true:=aaV (by omega)
  exact cb (by simp only[go_sem,simprocAttr,aF,aB,aE,aD,au,al,ao,aq,bg,aN,bb,aQ,aM,aP,aI,aO,aH,aG,an,ai,bA,bz,aaU,aaT,aa5,hN,hbN,iI hN]<;>rfl) rfl
 ·rintro i s' hi rfl
  have t0:=pj hN
  have tk:=fT hN
  have u0:=sS hN
  have uk:=kM hN
  have tt:=iI hN
  have lO:=vE ar i
  rcases aa4 i ar.length with hlt|hge
  ·obtain⟨x,hx⟩:=bF hlt
   have hw:=br hlt hl'
   have hgr:=fun H X=>eo 1 H N i i X (bS (nP ar i)) (by rw[Bb,lO])
   obtain⟨O,hO⟩:∃O,nP ar i=O:=⟨_,rfl⟩
   have hsuc:=Cu ar i
   rw[hO]at lO hgr hsuc
   have hOm:∀k∈O,k<i:=fun k h=>Cm (by rw[hO];exact h)
   have hS:Q.qm (kA ar) O:=by rw[←hO];exact Q.nB _ _
   rw[hO]
   have e0:O++[i]=jV O i i:=by rw[←lO];exact(AJ O O.length).symm
   simp only[go_sem,simprocAttr,aF,aB,aE,aD,au,al,ao,aq,bg,aN,bb,aQ,aM,aP,aI,aO,aH,aG,an,ai,bA,bz,aaU,aaT,aa5,hb',hlt,hN,t0,tk,u0,uk,hgr,ym (show i≤1000 by omega),DZ,e0]
   refine bU (fun q s'=>(∀w∈O.drop (i-q),kA ar i<kA ar w)∧s'=([(0,.bp b v 0 ar.length),(3,.bp N (i+1) 0 (i+1)),(4,aew i),(5,aew (i-q:Nat))],⟨bl++[.arr (i+1) 1 (bS (jV O i (i-q))) false],[],min ro N⟩)) i ?_ ?_
   ·have hbN:decide (b≤N)=true:=aaV (by omega)
    refine cb (by simp only[go_sem,simprocAttr,aF,aB,aE,aD,au,al,ao,aq,bg,aN,bb,aQ,aM,aP,aI,aO,aH,aG,an,ai,bA,bz,aaU,aaT,aa5,hN,hbN,tt]<;>rfl) ⟨fun w h=>?_,rfl⟩
    rw[Nat.sub_zero,←lO,List.drop_length]at h
    cases h
   ·rintro q s' hq ⟨hgt,rfl⟩
    have hml:=Aa O i (i-q) (by omega)
    rcases hj:i-q with _|j
    ·rw[hj]at hgt hml
     have hput:=uN O i 0 (by omega)
     have h0:(jV O i 0).length=i+1:=by rw[hml,lO]
     obtain⟨w0,hw0⟩:=bF (show 0<(jV O i 0).length by omega)
     have hs:=hput.trans (hsuc 0 (fun z h=>by simp at h) hgt).symm
     have h1:decide ((0:Int)<((i+1:Nat):Int))=true:=aaV (by omega)
     have hbN:decide (b≤N)=true:=aaV (by omega)
     simp only[go_sem,simprocAttr,aF,aB,aE,aD,au,al,ao,aq,bg,aN,bb,aQ,aM,aP,aI,aO,aH,aG,an,ai,bA,bz,aaU,aaT,aa5,hb',hN,t0,tk,u0,uk,h1,hw0,tF,hs,hw]
     exact⟨hlt,cb (by simp only[go_sem,simprocAttr,aF,aB,aE,aD,au,al,ao,aq,bg,aN,bb,aQ,aM,aP,aI,aO,aH,aG,an,ai,bA,bz,aaU,aaT,aa5,hN,hbN,tt]<;>rfl) rfl⟩
    ·rw[hj]at hgt hml
     have hput:=uN O i (j+1) (by omega)
     have hstep:=yV O i j (by omega)
     have bn:=Ay O i j (by omega)
     obtain⟨k,hk⟩:=bF (show j<O.length by omega)
     have hkd:O.getD j 0=k:=by rw[abA,hk];rfl
     rw[hkd]at hstep bn
     have hki:=hOm k (aa3 hk)
     obtain⟨y,hy⟩:=bF (show k<ar.length by omega)
     obtain⟨w0,hw0⟩:=bF (show j+1<(jV O i (j+1)).length by omega)
     have hjl:j<(jV O i (j+1)).length:=by omega
     have hjl2:j<i+1:=by omega
     have hjl3:j+1<i+1:=by omega
     have hkl:k<ar.length:=by omega
     have hm1:bj (((j+1:Nat):Int)-1)=(j:Nat):=by rw[ax (by omega) (by omega)];omega
     have h1:decide ((0:Int)<((j+1:Nat):Int))=true:=aaV (by omega)
     have hbN:decide (b≤N)=true:=aaV (by omega)
     have ky:kA ar k=y.y:=by unfold kA;rw[hy]
     have kx:kA ar i=x.y:=by unfold kA;rw[hx]
     cases hc:decide (x.y<y.y)with
     |true=>
      simp only[go_sem,simprocAttr,aF,aB,aE,aD,au,al,ao,aq,bg,aN,bb,aQ,aM,aP,aI,aO,aH,aG,an,ai,bA,bz,aaU,aaT,aa5,hb',hN,t0,tk,u0,uk,h1,hm1,bn,hjl2,hjl3,hkl,hlt,hy,hx,hc,hw0,tF,hstep]
      have hq1:i-(q+1)=j:=by omega
      refine⟨by omega,cb (by simp only[go_sem,simprocAttr,aF,aB,aE,aD,au,al,ao,aq,bg,aN,bb,aQ,aM,aP,aI,aO,aH,aG,an,ai,bA,bz,aaU,aaT,aa5,hN,hbN,tt]<;>rfl) ⟨fun w hwm=>?_,by rw[hq1]⟩⟩
      rw[hq1,acn (by omega)]at hwm
      rcases abK.1 hwm with rfl|hwm
      ·rw[(aaS.1 hk).2,ky,kx];exact abC hc
      ·exact hgt w hwm
     |false=>
      have hs:=hput.trans (hsuc (j+1) (fun z hz=>by
       obtain⟨m,hm⟩:=abw hz
       have hml:=(aaS.1 hm).1
       rw[abF]at hml
       rw[List.getElem?_take_of_lt (by omega)]at hm
       have hle:kA ar z≤kA ar k:=by
        rcases aa4 m j with h|h
        ·have hp:=adE.1 hS m j (by omega) (by omega) h
         rw[(aaS.1 hm).2,(aaS.1 hk).2]at hp
         exact hp
        ·obtain rfl:m=j:=by omega
         rw[hk]at hm;cases hm
         exact adV _
       have:=aco hc
       omega) hgt).symm
      simp only[go_sem,simprocAttr,aF,aB,aE,aD,au,al,ao,aq,bg,aN,bb,aQ,aM,aP,aI,aO,aH,aG,an,ai,bA,bz,aaU,aaT,aa5,hb',hN,t0,tk,u0,uk,h1,hm1,bn,hjl2,hjl3,hkl,hlt,hy,hx,hc,hw0,tF,hs,hw]
      exact⟨trivial,cb (by simp only[go_sem,simprocAttr,aF,aB,aE,aD,au,al,ao,aq,bg,aN,bb,aQ,aM,aP,aI,aO,aH,aG,an,ai,bA,bz,aaU,aaT,aa5,hN,hbN,tt]<;>rfl) rfl⟩
  ·obtain rfl:i=ar.length:=by omega
   have hd:decide (ar.length<ar.length)=false:=aaZ (by omega)
   have hNN:decide (N<N)=false:=aaZ (by omega)
   have ht0:∀l,(bl++l).take N=bl:=fun l=>by rw[←hN];exact adY
   have hfz:=fun H=>(Cf (nP ar ar.length)).fz N H 6 ar.length ar.length 1 false (by rw[Bb,vE])
   simp only[go_sem,simprocAttr,aF,aB,aE,aD,au,al,ao,aq,bg,aN,bb,aQ,aM,aP,aI,aO,aH,aG,an,ai,bA,bz,aaU,aaT,aa5,hb',hd,hN,t0,tk,tt,hNN,hfz,ht0]
   rfl
structure Sg where
 L:List A.Em
 R:List Rs
 P:List Nat
def j6(f:Fi)(hb:Bd f)(s:Int)(Z:List Ac)(x:A.Em)(k j:Nat)(a:Ac)(st:Sg)(i:Nat):Sg:=match Z[i]? with
 |some b=>bif decide (b.kd=2)&&decide (o6 (jf f hb) st.L (rr f s i b)=some k)then
   (bif decide (a.d=(i:Int))then⟨st.L++[yr x i],st.R.set i (By a (ub (eH f i).1 (eH f i).2 s x.x)),st.P.set j st.L.length⟩
    else⟨st.L,st.R.set i (By a (ub (eH f i).1 (eH f i).2 s x.x)),st.P⟩)else st
 |none=>st
def iP(f:Fi)(hb:Bd f)(s:Int)(Z:List Ac)(x:A.Em)(k j:Nat)(a:Ac)(st:Sg):Nat→Sg
 |0=>st
 |i+1=>j6 f hb s Z x k j a (iP f hb s Z x k j a st i) i
def mC(f:Fi)(hb:Bd f)(s:Int)(Z:List Ac)(ar:List A.Em)(st:Sg)(k:Nat):Sg:=match ar[k]? with
 |some x=>match Z[x.n.toNat]? with
  |some a=>iP f hb s Z x k x.n.toNat a st Z.length
  |none=>st
 |none=>st
def tL(f:Fi)(hb:Bd f)(L:List A.Em)(P:List Nat)(R:List Rs)(i:Nat):List Rs:=match P[i]? with
 |some p=>bif decide (p=0)then R else bif nT (jf f hb) L p i then(match L[p]? with
  |some y=>match R[y.n.toNat]? with
   |some r=>R.set i (Ar r.er)
   |none=>R
  |none=>R)else R
 |none=>R
def g0(ar:List A.Em)(n:Nat):Sg:=⟨ar,List.replicate n Dv,List.replicate n 0⟩
def gN(f:Fi)(hb:Bd f)(s:Int)(Z:List Ac):Sg:=(dt (aR f s Z Z.length)).foldl (mC f hb s Z (aR f s Z Z.length)) (g0 (aR f s Z Z.length) Z.length)
def kf(f:Fi)(hb:Bd f)(L:List A.Em)(P:List Nat)(R:List Rs):Nat→List Rs
 |0=>R
 |i+1=>tL f hb L P (kf f hb L P R i) i
def gR(f:Fi)(hb:Bd f)(s:Int)(Z:List Ac):List Rs:=kf f hb (gN f hb s Z).L (gN f hb s Z).P (gN f hb s Z).R Z.length
def PX(f:Fi)(hb:Bd f)(s:Int)(Z:List Ac):SV:=bif decide (wQ f s Z=0)then(bif C5 f s Z then .bk [.ay 0 [] true,.ay 0 [] true,aew 15]else .bk [.ay 15 (kr (gR f hb s Z)) true,.ay 4 (A.bK (gN f hb s Z).L) false,aex])else .bk [.ay 0 [] true,.ay 0 [] true,aew (wQ f s Z)]
def CY(f:Fi)(st:Sg):List aK:=[.box (oM f),.box (oM f),.arr st.L.length 4 (A.bK st.L) false,.arr 0 15 (kr st.R) true,.arr 0 1 (bS st.P) true]
structure PG(n:Nat)(ar:List A.Em)(st:Sg):Prop where
 lR:st.R.length=n
 lP:st.P.length=n
 pre:∀(i:Nat) (x:A.Em),ar[i]?=some x→st.L[i]?=some x
 rg:∀y∈st.L,0≤y.n∧y.n<(n:Int)
theorem PG.step{Z:List Ac}{ar:List A.Em}{st:Sg}(h:PG Z.length ar st)(f:Fi)(hb:Bd f)(s:Int)(x:A.Em)(k j:Nat)(a:Ac)(i:Nat):PG Z.length ar (j6 f hb s Z x k j a st i)∧(j6 f hb s Z x k j a st i).L.length≤st.L.length+1:=by
 unfold j6
 split
 ·rename_i b hib
  cases hc:(decide (b.kd=2)&&decide (o6 (jf f hb) st.L (rr f s i b)=some k))with
  |false=>simp only[abc];exact⟨h,by omega⟩
  |true=>
   cases decide (a.d=(i:Int))with
   |false=>simp only[abb,abc];exact⟨⟨by simpa using h.lR,h.lP,h.pre,h.rg⟩,by omega⟩
   |true=>
    simp only[abb]
    exact⟨⟨by simpa using h.lR,by simpa using h.lP,fun i x hx=>by
     have:=h.pre i x hx
     show(st.L++_)[i]?=_
     rw[aa6 (aaS.1 this).1];exact this,fun y hy=>by
     rcases abT.1 hy with hy|hy
     ·exact h.rg y hy
     ·simp only[ab8]at hy
      subst hy
      have:=(aaS.1 hib).1
      show 0≤((i:Nat):Int)∧((i:Nat):Int)<(Z.length:Int)
      omega⟩,by simp⟩
 ·exact⟨h,by omega⟩
theorem PG.loop{Z:List Ac}{ar:List A.Em}{st:Sg}(h:PG Z.length ar st)(f:Fi)(hb:Bd f)(s:Int)(x:A.Em)(k j:Nat)(a:Ac):∀i,PG Z.length ar (iP f hb s Z x k j a st i)∧(iP f hb s Z x k j a st i).L.length≤st.L.length+i
 |0=>⟨h,aa8 _⟩
 |i+1=>by
  obtain⟨h1,h2⟩:=PG.loop h f hb s x k j a i
  obtain⟨h3,h4⟩:=h1.step f hb s x k j a i
  exact⟨h3,by show(j6 _ _ _ _ _ _ _ _ _ _).L.length≤_;omega⟩
theorem Eg{f:Fi}{hb:Bd f}{s:Int}{Z:List Ac}{ar:List A.Em}{st:Sg}{k:Nat}{x:A.Em}{a:Ac}(hx:ar[k]?=some x)(ha:Z[x.n.toNat]?=some a):mC f hb s Z ar st k=iP f hb s Z x k x.n.toNat a st Z.length:=by
 unfold mC;rw[hx];simp only[ha]
theorem Cr(f:Fi)(hb:Bd f)(L:List A.Em)(P:List Nat)(R:List Rs)(i:Nat):(tL f hb L P R i).length=R.length:=by
 unfold tL
 split
 ·rename_i p _
  cases decide (p=0)with
  |true=>rfl
  |false=>
   cases nT (jf f hb) L p i with
   |false=>rfl
   |true=>
    simp only[abb,abc]
    split
    ·split
     ·rw[abf]
     ·rfl
    ·rfl
 ·rfl
theorem oh(f:Fi)(hb:Bd f)(L:List A.Em)(P:List Nat)(R:List Rs):∀i,(kf f hb L P R i).length=R.length
 |0=>rfl
 |i+1=>(Cr _ _ _ _ _ _).trans (oh f hb L P R i)
theorem s17(n:Nat)(H:ae)(f:Fi)(hbd:Bd f)(s:Int)(Z:List Ac)(fl:Bool)(hZ:Z.length≤1000) :
 aa T (n+60) (.fn 17) [.agg (oM f),aew s,.ay 14 (qK Z) fl] H=some (PX f hbd s Z,H):=by
 have hZ':Z.length≤maxLen:=abv hZ (by decide)
 have h33:=fun H=>Y0 (n+51) H f s Z fl hbd hZ
 refine ab YQ (by rfl) ?_
 unfold S3 at h33
 unfold PX
 cases he:decide (wQ f s Z=0)with
 |false=>
  rw[he]at h33
  simp only[abc]at h33
  simp only[P2,ah,go_sem,simprocAttr,h33,he]
 |true=>
  have he0:=abC he
  rw[he,he0]at h33
  simp only[abb]at h33
  obtain⟨k1,k2,k3,k4⟩:=uZ he0
  have k5:=E9 k1
  obtain⟨r,h52,q1,q2⟩:=ZN (n+51) f hbd s Z fl hZ k2
  cases hp:C5 f s Z with
  |true=>
   obtain⟨H',rfl⟩:=q1 hp
   simp only[P2,ah,go_sem,simprocAttr,h33,h52]
  |false=>
   obtain rfl:=q2 hp
   have la:=gP f s Z Z.length
   refine qc ?_
   have mk:∀bl:List aK,iG 15 [.bool false,.bool false,aex,aex,aex,aex,aex,aex,aex,aex,aex,aex,aex,.str ⟨⟨[]⟩⟩,aex] 120 ⟨bl,[],0⟩ (aew Z.length) (aew Z.length)=some (.bp bl.length 0 0 Z.length,⟨bl++[.arr 0 15 (kr (List.replicate Z.length Dv)) true],[],0⟩):=fun bl=>by
    have h1:decide ((Z.length:Int)*((120:Nat):Int)≤(bX:Int))=true:=aaV (by have:(bX:Int)=1099511627776:=rfl;omega)
    have h2:decide ((0:Int)≤(Z.length:Int))=true:=aaV (by omega)
    have h3:decide ((Z.length:Int)≤(Z.length:Int))=true:=aaV (by omega)
    rw[←yl]
    simp only[iG,h1,h2,h3,abn,abb,abD]
    rfl
   have mk2:∀bl:List aK,iG 1 [aex] 8 ⟨bl,[],0⟩ (aew Z.length) (aew Z.length)=some (.bp bl.length 0 0 Z.length,⟨bl++[.arr 0 1 (bS (List.replicate Z.length 0)) true],[],0⟩):=fun bl=>by
    have h1:decide ((Z.length:Int)*((8:Nat):Int)≤(bX:Int))=true:=aaV (by have:(bX:Int)=1099511627776:=rfl;omega)
    have h2:decide ((0:Int)≤(Z.length:Int))=true:=aaV (by omega)
    have h3:decide ((Z.length:Int)≤(Z.length:Int))=true:=aaV (by omega)
    rw[show bS (List.replicate Z.length 0)=List.replicate Z.length [aex] by simp[bS]]
    simp only[iG,h1,h2,h3,abn,abb,abD]
    rfl
   have h53:=Zb (n+58) 2 (aR f s Z Z.length).length (CY f (g0 (aR f s Z Z.length) Z.length)) [] 0 (aR f s Z Z.length) rfl (by omega)
   unfold CY g0 at h53
   simp only[P2,ah,go_sem,simprocAttr,h33,h52,mk,mk2,h53]
   refine bU (fun k s'=>PG Z.length (aR f s Z Z.length) (((dt (aR f s Z Z.length)).take k).foldl (mC f hbd s Z (aR f s Z Z.length)) (g0 (aR f s Z Z.length) Z.length))∧(((dt (aR f s Z Z.length)).take k).foldl (mC f hbd s Z (aR f s Z Z.length)) (g0 (aR f s Z Z.length) Z.length)).L.length≤32+32*k∧s'=([(1,aew s),(2,.ay 14 (qK Z) fl),(3,.ptr 0 0 0 0),(9,.ay 1 (iS (iN f s Z)) false),(11,.bp 2 (((dt (aR f s Z Z.length)).take k).foldl (mC f hbd s Z (aR f s Z Z.length)) (g0 (aR f s Z Z.length) Z.length)).L.length 0 (((dt (aR f s Z Z.length)).take k).foldl (mC f hbd s Z (aR f s Z Z.length)) (g0 (aR f s Z Z.length) Z.length)).L.length),(13,.bp 3 0 0 Z.length),(14,.bp 4 0 0 Z.length),(15,.ay 1 (bS (dt (aR f s Z Z.length))) false),(16,aew k)],⟨CY f (((dt (aR f s Z Z.length)).take k).foldl (mC f hbd s Z (aR f s Z Z.length)) (g0 (aR f s Z Z.length) Z.length)),[],0⟩)) (dt (aR f s Z Z.length)).length ?_ ?_
   ·exact cb (by simp only[go_sem,simprocAttr]<;>rfl) ⟨⟨by simp[g0],by simp[g0],fun i x h=>h,fun y hy=>by
     obtain⟨k,hk⟩:=abw (show y∈aR f s Z Z.length from hy)
     obtain⟨a,n1,n1',_⟩:=kV (aa8 _) hk
     omega⟩,by simp[g0];omega,rfl⟩
   ·rintro k s' hk ⟨hG,hL,rfl⟩
    have lO:=gO (aR f s Z Z.length)
    obtain⟨st,hst⟩:∃st,((dt (aR f s Z Z.length)).take k).foldl (mC f hbd s Z (aR f s Z Z.length)) (g0 (aR f s Z Z.length) Z.length)=st:=⟨_,rfl⟩
    rw[hst]at hG hL⊢
    rcases aa4 k (dt (aR f s Z Z.length)).length with hlt|hge
    ·obtain⟨o,ho⟩:=bF hlt
     have hol:=p9 (aa3 ho)
     obtain⟨x,hx⟩:=bF hol
     obtain⟨a,n1,n1',n2,_⟩:=kV (aa8 _) hx
     have hLx:=hG.pre o x hx
     have hLo:=(aaS.1 hLx).1
     have hw:=br hlt (show _≤maxLen by omega)
     unfold CY
     have hx0:decide (0≤x.n)=true:=aaV (by omega)
     have hx1:decide (x.n<(Z.length:Int))=true:=aaV (by omega)
     simp only[go_sem,simprocAttr,aF,aB,aE,aD,au,al,ao,aq,bg,aN,bb,aQ,aM,aP,aI,aO,aH,aG,an,ai,bA,bz,aaU,aaT,aa5,hlt,ho,hLx,hLo,hx0,hx1,n2]
     refine bU (fun i s'=>s'=([(1,aew s),(2,.ay 14 (qK Z) fl),(3,.ptr 0 0 0 0),(9,.ay 1 (iS (iN f s Z)) false),(11,.bp 2 (iP f hbd s Z x o x.n.toNat a st i).L.length 0 (iP f hbd s Z x o x.n.toNat a st i).L.length),(13,.bp 3 0 0 Z.length),(14,.bp 4 0 0 Z.length),(15,.ay 1 (bS (dt (aR f s Z Z.length))) false),(16,aew k),(17,.ptr 5 0 0 0),(18,.ptr 6 0 0 0),(19,aew i)],⟨CY f (iP f hbd s Z x o x.n.toNat a st i)++[.box (A.ra x),.box (Dp a)],[],0⟩)) Z.length ?_ ?_
     ·exact cb (by simp only[go_sem,simprocAttr]<;>rfl) rfl
     ·rintro i s' hi rfl
      obtain⟨hG1,hL1⟩:=hG.loop f hbd s x o x.n.toNat a i
      have hsuc:iP f hbd s Z x o x.n.toNat a st (i+1)=j6 f hbd s Z x o x.n.toNat a (iP f hbd s Z x o x.n.toNat a st i) i:=rfl
      obtain⟨t,ht⟩:∃t,iP f hbd s Z x o x.n.toNat a st i=t:=⟨_,rfl⟩
      rw[ht]at hG1 hL1 hsuc⊢
      rcases aa4 i Z.length with hli|hgi
      ·obtain⟨b,hb⟩:=bF hli
       have hwi:=br hli hZ'
       have hik:i<f.K.length:=by omega
       have hg:=lg hik
       unfold j6 at hsuc
       simp only[hb]at hsuc
       unfold CY
       cases hkd:decide (b.kd=2)with
       |false=>
        rw[hkd]at hsuc
        simp only[abk,abc]at hsuc
        simp only[go_sem,simprocAttr,aF,aB,aE,aD,au,al,ao,aq,bg,aN,bb,aQ,aM,aP,aI,aO,aH,aG,an,ai,bA,bz,aaU,aaT,aa5,hli,hb,hkd,hwi]
        exact⟨trivial,cb (by simp only[go_sem,simprocAttr]<;>rfl) (by rw[hsuc]<;>rfl)⟩
       |true=>
        have hch:(iN f s Z)[i]?=some (EO f s b):=by unfold iN;rw[acs,hb];rfl
        have hcl:i<(iN f s Z).length:=(aaS.1 hch).1
        have hc1:EO f s b=oT.qV f.v f.a f.b f.C s b.of:=by
         have h0:decide (b.kd=0)=false:=by rw[aa0];rw[aaX]at hkd;omega
         unfold EO;rw[h0];rfl
        rw[hc1]at hch
        have h54:=fun H=>Ya (n+54) H (eH f i).1 (eH f i).2 s
        have h56:=fun H t=>s56 (n+56) H (eH f i).1 (eH f i).2 s t
        have h55:=A.s55 (n+47) ⟨[],[],0⟩ (jf f hbd) t.L false (rr f s i b) (abv (show _≤2000 by omega) (by decide))
        obtain⟨e,hv,_⟩:=Bz (jf f hbd) t.L (rr f s i b)
        rw[hv]at h55
        have hfz:=fun H d=>(gS t.L).fz 0 H 6 d t.L.length 4 false A.ep
        cases ho':o6 (jf f hbd) t.L (rr f s i b)with
        |none=>
         rw[ho']at h55 hsuc
         simp only[jf,A.lZ,A.ow,rr,A.ra,A.xV,adr]at h55
         have hne:decide ((none:Option Nat)=some o)=false:=rfl
         rw[hne]at hsuc
         simp only[abt,abc]at hsuc
         simp only[go_sem,simprocAttr,aF,aB,aE,aD,au,al,ao,aq,bg,aN,bb,aQ,aM,aP,aI,aO,aH,aG,an,ai,bA,bz,aaU,aaT,aa5,hli,hb,hkd,hik,hg,h54,hch,hcl,hfz,h55,hwi]
         exact⟨trivial,cb (by simp only[go_sem,simprocAttr]<;>rfl) (by rw[hsuc]<;>rfl)⟩
        |some p=>
         rw[ho']at h55 hsuc
         simp only[jf,A.lZ,A.ow,rr,A.ra,A.xV,ac4]at h55
         cases hpo:decide ((p:Int)=(o:Int))with
         |false=>
          have hne:decide (some p=some o)=false:=by rw[aa0]at hpo ⊢;intro h;cases h;exact hpo rfl
          rw[hne]at hsuc
          simp only[abt,abc]at hsuc
          simp only[go_sem,simprocAttr,aF,aB,aE,aD,au,al,ao,aq,bg,aN,bb,aQ,aM,aP,aI,aO,aH,aG,an,ai,bA,bz,aaU,aaT,aa5,hli,hb,hkd,hik,hg,h54,hch,hcl,hfz,h55,hwi,hlt,ho,hpo]
          exact⟨trivial,cb (by simp only[go_sem,simprocAttr]<;>rfl) (by rw[hsuc]<;>rfl)⟩
         |true=>
          have hne:decide (some p=some o)=true:=by rw[aaX]at hpo ⊢;rw[show p=o by omega]
          rw[hne,hkd]at hsuc
          simp only[acy,abb]at hsuc
          have hiR:i<t.R.length:=by rw[hG1.lR];exact hli
          obtain⟨row,hrow⟩:=bF hiR
          have hrw:∀d,(kr t.R).set i [.bool false,.bool true,aew a.k,aew a.s,aew a.d,aew a.q,aew a.o,aew a.c,aew a.m,aew a.e,aew a.t,aew a.u,aew a.v,.str a.x,aew d]=kr (t.R.set i (By a d)):=fun d=>pv t.R i (By a d)
          have hR1:=hG1.lR
          cases hdi:decide (a.d=(i:Int))with
          |false=>
           rw[hdi]at hsuc
           simp only[abc]at hsuc
           simp only[go_sem,simprocAttr,aF,aB,aE,aD,au,al,ao,aq,bg,aN,bb,aQ,aM,aP,aI,aO,aH,aG,an,ai,bA,bz,aaU,aaT,aa5,hli,hb,hkd,hik,hg,h54,h56,hch,hcl,hfz,h55,hwi,hlt,ho,hpo,hdi,hrow,hrw]
           exact⟨trivial,cb (by simp only[go_sem,simprocAttr]<;>rfl) (by rw[hsuc]<;>rfl)⟩
          |true=>
           rw[hdi]at hsuc
           simp only[abb]at hsuc
           have hnP:x.n.toNat<t.P.length:=by rw[hG1.lP];exact n1
           obtain⟨pw,hpw⟩:=bF hnP
           have hgr:=fun H X=>eo 4 H 2 t.L.length t.L.length X (A.bK t.L) A.ep
           have rm:decide ((t.L.length+1)*32≤bX)=true:=by
            rw[aaX]
            exact abv (show(t.L.length+1)*32≤100000 by omega) (by decide)
           have hsn:A.bK t.L++[[aew i,aew x.c,aew (bj (x.y+1000)),aew (bj (bj (x.y+1000)+832))]]=A.bK (t.L++[yr x i]):=kY _ (yr x i)
           have hln:t.L.length+1=(t.L++[yr x i]).length:=by simp
           simp only[go_sem,simprocAttr,aF,aB,aE,aD,au,al,ao,aq,bg,aN,bb,aQ,aM,aP,aI,aO,aH,aG,an,ai,bA,bz,aaU,aaT,aa5,hli,hb,hkd,hik,hg,h54,h56,hch,hcl,hfz,h55,hwi,hlt,ho,hpo,hdi,hrow,hrw,hx0,hx1,hpw,tF,hgr,rm,hsn]
           exact⟨trivial,cb (by simp only[go_sem,simprocAttr]<;>rfl) (by rw[hsuc,←hln]<;>rfl)⟩
      ·obtain rfl:i=Z.length:=by omega
       have hd:decide (Z.length<Z.length)=false:=aaZ (by omega)
       unfold CY
       have hst1:((dt (aR f s Z Z.length)).take (k+1)).foldl (mC f hbd s Z (aR f s Z Z.length)) (g0 (aR f s Z Z.length) Z.length)=t:=by rw[tx _ _ ho,hst,Eg hx n2,ht]
       simp only[go_sem,simprocAttr,aF,aB,aE,aD,au,al,ao,aq,bg,aN,bb,aQ,aM,aP,aI,aO,aH,aG,an,ai,bA,bz,aaU,aaT,aa5,hd,hw]
       exact⟨hlt,cb (by simp only[go_sem,simprocAttr]<;>rfl) ⟨by rw[hst1];exact hG1,by rw[hst1];omega,by rw[hst1]<;>rfl⟩⟩
    ·obtain rfl:k=(dt (aR f s Z Z.length)).length:=by omega
     have hd:decide ((dt (aR f s Z Z.length)).length<(dt (aR f s Z Z.length)).length)=false:=aaZ (by omega)
     rw[ab4]at hst
     obtain rfl:gN f hbd s Z=st:=hst
     unfold CY
     simp only[go_sem,simprocAttr,aF,aB,aE,aD,au,al,ao,aq,bg,aN,bb,aQ,aM,aP,aI,aO,aH,aG,an,ai,bA,bz,aaU,aaT,aa5,hd]
     refine bU (fun i s'=>s'=([(2,.ay 14 (qK Z) fl),(3,.ptr 0 0 0 0),(11,.bp 2 (gN f hbd s Z).L.length 0 (gN f hbd s Z).L.length),(13,.bp 3 0 0 Z.length),(14,.bp 4 0 0 Z.length),(28,aew i)],⟨CY f ⟨(gN f hbd s Z).L,kf f hbd (gN f hbd s Z).L (gN f hbd s Z).P (gN f hbd s Z).R i,(gN f hbd s Z).P⟩,[],0⟩)) Z.length ?_ ?_
     ·exact cb (by simp only[go_sem,simprocAttr]<;>rfl) rfl
     ·rintro i s' hi rfl
      have hRl:=oh f hbd (gN f hbd s Z).L (gN f hbd s Z).P (gN f hbd s Z).R i
      rw[hG.lR]at hRl
      have hsuc:kf f hbd (gN f hbd s Z).L (gN f hbd s Z).P (gN f hbd s Z).R (i+1)=tL f hbd (gN f hbd s Z).L (gN f hbd s Z).P (kf f hbd (gN f hbd s Z).L (gN f hbd s Z).P (gN f hbd s Z).R i) i:=rfl
      obtain⟨R,hR⟩:∃R,kf f hbd (gN f hbd s Z).L (gN f hbd s Z).P (gN f hbd s Z).R i=R:=⟨_,rfl⟩
      rw[hR]at hRl hsuc⊢
      unfold CY
      rcases aa4 i Z.length with hli|hgi
      ·obtain⟨p,hp⟩:=bF (show i<(gN f hbd s Z).P.length by rw[hG.lP];exact hli)
       have hwi:=br hli hZ'
       have hfi:tL f hbd (gN f hbd s Z).L (gN f hbd s Z).P R i=bif decide (p=0)then R else bif nT (jf f hbd) (gN f hbd s Z).L p i then(match(gN f hbd s Z).L[p]? with
        |some y=>match R[y.n.toNat]? with
         |some r=>R.set i (Ar r.er)
         |none=>R
        |none=>R)else R:=by unfold tL;rw[hp]
       rw[hfi]at hsuc
       cases hp0:decide (p=0)with
       |true=>
        rw[hp0]at hsuc
        simp only[abb]at hsuc
        have hpi:decide ((p:Int)=0)=true:=by rw[aaX]at hp0 ⊢;omega
        simp only[go_sem,simprocAttr,aF,aB,aE,aD,au,al,ao,aq,bg,aN,bb,aQ,aM,aP,aI,aO,aH,aG,an,ai,bA,bz,aaU,aaT,aa5,hli,hp,hpi,hwi]
        exact⟨trivial,cb (by simp only[go_sem,simprocAttr]<;>rfl) (by rw[hsuc]<;>rfl)⟩
       |false=>
        rw[hp0]at hsuc
        simp only[abc]at hsuc
        have hpi:decide ((p:Int)=0)=false:=by rw[aa0]at hp0 ⊢;omega
        have h57:=A.Yf (n+48) ⟨[],[],0⟩ (jf f hbd) (gN f hbd s Z).L false p i (abv (show _≤2000 by omega) (by decide))
        obtain⟨e,hrc⟩:=Ct (jf f hbd) (gN f hbd s Z).L p i
        rw[hrc]at h57
        have hfz:=fun H d=>(gS (gN f hbd s Z).L).fz 0 H 6 d (gN f hbd s Z).L.length 4 false A.ep
        cases hrv:nT (jf f hbd) (gN f hbd s Z).L p i with
        |false=>
         rw[hrv]at h57 hsuc
         simp only[abc]at hsuc
         simp only[jf,A.lZ,A.ow]at h57
         simp only[go_sem,simprocAttr,aF,aB,aE,aD,au,al,ao,aq,bg,aN,bb,aQ,aM,aP,aI,aO,aH,aG,an,ai,bA,bz,aaU,aaT,aa5,hli,hp,hpi,hwi,hfz,h57]
         exact⟨trivial,cb (by simp only[go_sem,simprocAttr]<;>rfl) (by rw[hsuc]<;>rfl)⟩
        |true=>
         have hrv0:=hrv
         unfold nT at hrv0
         cases hck:decide (A.tH (jf f hbd) (gN f hbd s Z).L p i=0)with
         |false=>rw[hck]at hrv0;cases hrv0
         |true=>
          rw[hck,abD]at hrv0
          cases hLp:(gN f hbd s Z).L[p]? with
          |none=>rw[hLp]at hrv0;cases hrv0
          |some y=>
           obtain⟨y1,y2⟩:=hG.rg y (aa3 hLp)
           have hpl:=(aaS.1 hLp).1
           have hyR:y.n.toNat<R.length:=by rw[hRl];omega
           obtain⟨row,hrow⟩:=bF hyR
           have hiR:i<R.length:=by rw[hRl];exact hli
           obtain⟨row2,hrow2⟩:=bF hiR
           have hy1:decide (0≤y.n)=true:=aaV y1
           have hy2:decide (y.n<(Z.length:Int))=true:=aaV y2
           have hrw:∀d,(kr R).set i [.bool true,.bool false,aex,aex,aex,aex,aex,aex,aex,aex,aex,aex,aex,.str ⟨⟨[]⟩⟩,aew d]=kr (R.set i (Ar d)):=fun d=>pv R i (Ar d)
           rw[hrv,hLp]at hsuc
           simp only[abb,hrow]at hsuc
           rw[hrv]at h57
           simp only[jf,A.lZ,A.ow]at h57
           simp only[go_sem,simprocAttr,aF,aB,aE,aD,au,al,ao,aq,bg,aN,bb,aQ,aM,aP,aI,aO,aH,aG,an,ai,bA,bz,aaU,aaT,aa5,hli,hp,hpi,hwi,hfz,h57,hLp,hpl,hrow,hrow2,hy1,hy2,hrw]
           exact⟨trivial,cb (by simp only[go_sem,simprocAttr]<;>rfl) (by rw[hsuc]<;>rfl)⟩
      ·obtain rfl:i=Z.length:=by omega
       have hd2:decide (Z.length<Z.length)=false:=aaZ (by omega)
       obtain rfl:gR f hbd s Z=R:=hR
       have hfz1:=fun H=>(nJ (gR f hbd s Z)).fz 0 H 5 0 Z.length 15 true (by rw[tC];exact hRl)
       have hfz2:=fun H=>(gS (gN f hbd s Z).L).fz 0 H 5 (gN f hbd s Z).L.length (gN f hbd s Z).L.length 4 false A.ep
       simp only[go_sem,simprocAttr,aF,aB,aE,aD,au,al,ao,aq,bg,aN,bb,aQ,aM,aP,aI,aO,aH,aG,an,ai,bA,bz,aaU,aaT,aa5,hd2,hfz1,hfz2]
theorem Jm{z x:A.Em}(h:F8 z x=true):z.n=x.n:=by
 unfold F8 at h
 simp only[aa1,aaX]at h
 exact h.1
theorem E1(x:A.Em):F8 x x=true:=by simp[F8]
theorem FT{f:Fi}{s:Int}{Z:List Ac}{L:List A.Em}(hpre:∀(i:Nat) (x:A.Em),(aR f s Z Z.length)[i]?=some x→L[i]?=some x)
 (hack:∀(q:Nat) (y:A.Em),(aR f s Z Z.length).length≤q→L[q]?=some y→∃b,Z[y.n.toNat]?=some b∧decide (b.kd=2)=true)
 {k:Nat} {x:A.Em} (hx:(aR f s Z Z.length)[k]?=some x) (o:Option Nat) (ho:∀q,o=some q→q<L.length):CQ L o x=decide (o=some k):=by
 cases o with
 |none=>rfl
 |some q=>
  obtain⟨y,hy⟩:=bF (ho q rfl)
  unfold CQ
  simp only[hy]
  by_cases hq:q=k
  ·subst hq
   rw[hpre q x hx]at hy
   cases hy
   rw[E1];exact(aaV rfl).symm
  ·rw[aaZ (fun h=>hq (by injection h))]
   cases he:F8 y x with
   |false=>rfl
   |true=>
    exfalso
    have hn:=Jm he
    rcases aa4 q (aR f s Z Z.length).length with h1|h1
    ·obtain⟨x',hx'⟩:=bF h1
     have hxy:y=x':=by
      have h2:=hpre q x' hx'
      rw[hy]at h2
      exact acV h2
     exact hq (qB f s Z Z.length q k x' x hx' hx (by rw[←hxy,hn]))
    ·obtain⟨b,hb1,hb2⟩:=hack q y h1 hy
     obtain⟨j,a,_,ha,hk1,hxe⟩:=fe f s Z Z.length k x hx
     have hj:x.n.toNat=j:=by rw[hxe];show((j:Nat):Int).toNat=j;omega
     rw[hn,hj,ha]at hb1
     cases hb1
     rw[aaX]at hk1 hb2
     omega
structure EQ(ar:List A.Em)(Z:List Ac)(st:St)(t:Sg):Prop where
 L:st.L=t.L
 R:st.R=t.R
 lR:st.R.length=Z.length
 lQ:st.Q.length=Z.length
 lP:t.P.length=Z.length
 pre:∀(i:Nat) (x:A.Em),ar[i]?=some x→st.L[i]?=some x
 O5:∀(q:Nat) (y:A.Em),ar.length≤q→st.L[q]?=some y→∃b,Z[y.n.toNat]?=some b∧decide (b.kd=2)=true
 qp:∀(j:Nat) (z:Int×Int) (p:Nat),st.Q[j]?=some z→t.P[j]?=some p→(p=0∧z.1= -1)∨(p≠0∧z.1=p)
theorem EQ.step{f:Fi}{hb:Bd f}{s:Int}{Z:List Ac}{st:St}{t:Sg}(h:EQ (aR f s Z Z.length) Z st t){k:Nat}{x:A.Em}{a:Ac}(hx:(aR f s Z Z.length)[k]?=some x)(ha:Z[x.n.toNat]?=some a)(i:Nat) :
 EQ (aR f s Z Z.length) Z (iT f hb s Z x x.n.toNat a st i) (j6 f hb s Z x k x.n.toNat a t i):=by
 unfold iT j6
 cases hz:Z[i]? with
 |none=>exact h
 |some b=>
  have hh:=FT h.pre h.O5 hx (o6 (jf f hb) st.L (rr f s i b)) (fun q hq=>wM hq)
  simp only
  rw[hh,←h.L,←h.R]
  cases hc:(decide (b.kd=2)&&decide (o6 (jf f hb) st.L (rr f s i b)=some k))with
  |false=>simp only[abc];exact h
  |true=>
   have hkd:decide (b.kd=2)=true:=(adm.1 hc).1
   cases hdi:decide (a.d=(i:Int))with
   |false=>
    simp only[abb,abc]
    exact⟨rfl,rfl,by simpa using h.lR,h.lQ,h.lP,h.pre,h.O5,h.qp⟩
   |true=>
    simp only[abb]
    have hn:=(aaS.1 ha).1
    have hL0:0<st.L.length:=Nat.lt_of_le_of_lt (adb _) (aaS.1 (h.pre k x hx)).1
    have hLa:(aR f s Z Z.length).length≤st.L.length:=by
     rcases aa4 st.L.length (aR f s Z Z.length).length with h1|h1
     ·obtain⟨x',hx'⟩:=bF h1
      have:=(aaS.1 (h.pre _ x' hx')).1
      omega
     ·exact h1
    refine⟨rfl,rfl,by simpa using h.lR,by simpa using h.lQ,by simpa using h.lP,fun j y hy=>?_,fun q y hq hy=>?_,fun j z p hz1 hp1=>?_⟩
    ·have:=h.pre j y hy
     show(st.L++_)[j]?=_
     rw[aa6 (aaS.1 this).1];exact this
    ·rcases aa4 q st.L.length with h1|h1
     ·have hy2:(st.L++[yr x i])[q]?=some y:=hy
      rw[aa6 h1]at hy2
      exact h.O5 q y hq hy2
     ·have hy2:(st.L++[yr x i])[q]?=some y:=hy
      rw[abH h1]at hy2
      have hm:=aa3 hy2
      simp only[ab8]at hm
      subst hm
      exact⟨b,by show Z[((i:Nat):Int).toNat]?=_;rw[abD];exact hz,hkd⟩
    ·by_cases hj:j=x.n.toNat
     ·subst hj
      rw[abm (by rw[h.lQ];exact hn)]at hz1
      rw[abm (by rw[h.lP];exact hn)]at hp1
      cases hz1;cases hp1
      exact .inr ⟨by omega,rfl⟩
     ·rw[aa2 (Ne.symm hj)]at hz1 hp1
      exact h.qp j z p hz1 hp1
theorem EQ.loop{f:Fi}{hb:Bd f}{s:Int}{Z:List Ac}{st:St}{t:Sg}(h:EQ (aR f s Z Z.length) Z st t){k:Nat}{x:A.Em}{a:Ac}(hx:(aR f s Z Z.length)[k]?=some x)(ha:Z[x.n.toNat]?=some a):∀i,
 EQ (aR f s Z Z.length) Z (kj f hb s Z x x.n.toNat a st i) (iP f hb s Z x k x.n.toNat a t i)
 |0=>h
 |i+1=>(EQ.loop h hx ha i).step hx ha i
theorem EQ.fold{f:Fi}{hb:Bd f}{s:Int}{Z:List Ac}:∀(l:List Nat) {st:St} {t:Sg},EQ (aR f s Z Z.length) Z st t→EQ (aR f s Z Z.length) Z (l.foldl (gd f hb s Z (aR f s Z Z.length)) st) (l.foldl (mC f hb s Z (aR f s Z Z.length)) t)
 |[],_,_,h=>h
 |k::l,st,t,h=>by
  rw[ab1,ab1]
  refine EQ.fold l ?_
  unfold gd mC
  cases hx:(aR f s Z Z.length)[k]? with
  |none=>exact h
  |some x=>
   simp only
   cases ha:Z[x.n.toNat]? with
   |none=>exact h
   |some a=>exact h.loop hx ha Z.length
theorem EQ.zero(ar:List A.Em)(Z:List Ac):EQ ar Z (rq ar Z.length) (g0 ar Z.length):=
 ⟨rfl,rfl,by simp[rq],by simp[rq],by simp[g0],fun i x h=>h,fun q y hq hy=>by
  have:=(aaS.1 (show ar[q]?=some y from hy)).1
  omega,fun j z p h1 h2=>by
  have e1:=aa3 h1
  have e2:=aa3 h2
  simp only[rq,aee]at e1
  simp only[g0,aee]at e2
  rw[e1.2,e2.2]
  exact .inl ⟨rfl,rfl⟩⟩
theorem pK(f:Fi)(hb:Bd f)(s:Int)(Z:List Ac):EQ (aR f s Z Z.length) Z (gM f hb s Z) (gN f hb s Z):=EQ.fold _ (EQ.zero _ _)
namespace A
def CW(s:Sn)(L:List Em)(y:Em)(q:Nat)(x:Em):Bool:=decide (x.c=y.c)&&!decide (x.x<y.x)&&!decide (y.y<x.x)&&fD s L q x y.n
def Hu(s:Sn)(L:List Em)(y:Em)(q b:Nat):Prop:=b<q∧∃x,L[b]?=some x∧CW s L y b x=true∧∀q' x',q'<q→L[q']?=some x'→CW s L y q' x'=true→x.x<x'.x∨x.x=x'.x∧b≤q'
theorem qa(s:Sn)(L:List Em)(y:Em):∀q,(∃b,gu s L y q=some b∧Hu s L y q b)∨(gu s L y q=none∧∀q' x',q'<q→L[q']?=some x'→CW s L y q' x'=false)
 |0=>.inr ⟨rfl,fun q' x' h=>by omega⟩
 |q+1=>by
  have ih:=qa s L y q
  cases hx:L[q]? with
  |none=>
   have he:gu s L y (q+1)=gu s L y q:=by simp only[gu,hx]
   rw[he]
   rcases ih with⟨b,h1,h2,x,h3,h4,h5⟩|⟨h1,h2⟩
   ·refine .inl ⟨b,h1,by omega,x,h3,h4,fun q' x' hq hx' hc=>?_⟩
    rcases aa4 q' q with h|h
    ·exact h5 q' x' h hx' hc
    ·obtain rfl:q'=q:=by omega
     rw[hx]at hx';cases hx'
   ·refine .inr ⟨h1,fun q' x' hq hx'=>?_⟩
    rcases aa4 q' q with h|h
    ·exact h2 q' x' h hx'
    ·obtain rfl:q'=q:=by omega
     rw[hx]at hx';cases hx'
  |some x=>
   have he:gu s L y (q+1)=bif tJ L y (gu s L y q) x&&fD s L q x y.n then some q else gu s L y q:=by simp only[gu,hx]
   have hcn:CW s L y q x=(decide (x.c=y.c)&&!decide (x.x<y.x)&&!decide (y.y<x.x)&&fD s L q x y.n):=rfl
   rw[he]
   rcases ih with⟨b,h1,h2,z,h3,h4,h5⟩|⟨h1,h2⟩
   ·have hh:(tJ L y (gu s L y q) x&&fD s L q x y.n)=(CW s L y q x&&!decide (z.x≤x.x)):=by
     rw[h1,hcn]
     simp only[tJ,h3]
     cases decide (x.c=y.c)<;>cases decide (x.x<y.x)<;>cases decide (y.y<x.x)<;>cases decide (z.x≤x.x)<;>cases fD s L q x y.n<;>rfl
    rw[hh]
    cases hc:CW s L y q x&&!decide (z.x≤x.x)with
    |true=>
     simp only[aa1,abx,aa0]at hc
     refine .inl ⟨q,rfl,by omega,x,hx,hc.1,fun q' x' hq hx' hc'=>?_⟩
     rcases aa4 q' q with h|h
     ·have:=h5 q' x' h hx' hc'
      left;omega
     ·obtain rfl:q'=q:=by omega
      rw[hx]at hx';cases hx'
      exact .inr ⟨rfl,aa8 _⟩
    |false=>
     refine .inl ⟨b,h1,by omega,z,h3,h4,fun q' x' hq hx' hc'=>?_⟩
     rcases aa4 q' q with h|h
     ·exact h5 q' x' h hx' hc'
     ·obtain rfl:q'=q:=by omega
      rw[hx]at hx';cases hx'
      rw[hc',abo]at hc
      simp only[Bool.not_eq_false',aaX]at hc
      omega
   ·have hh:(tJ L y (gu s L y q) x&&fD s L q x y.n)=CW s L y q x:=by
     rw[h1,hcn]
     simp only[tJ]
     cases decide (x.c=y.c)<;>cases decide (x.x<y.x)<;>cases decide (y.y<x.x)<;>cases fD s L q x y.n<;>rfl
    rw[hh]
    cases hc:CW s L y q x with
    |true=>
     refine .inl ⟨q,rfl,by omega,x,hx,hc,fun q' x' hq hx' hc'=>?_⟩
     rcases aa4 q' q with h|h
     ·rw[h2 q' x' h hx']at hc';cases hc'
     ·obtain rfl:q'=q:=by omega
      rw[hx]at hx';cases hx'
      exact .inr ⟨rfl,aa8 _⟩
    |false=>
     refine .inr ⟨h1,fun q' x' hq hx'=>?_⟩
     rcases aa4 q' q with h|h
     ·exact h2 q' x' h hx'
     ·obtain rfl:q'=q:=by omega
      rw[hx]at hx';cases hx'
      exact hc
theorem BD{s:Sn}{L:List Em}{y:Em}{q b:Nat}(h:gu s L y q=some b):Hu s L y q b:=by
 rcases qa s L y q with⟨b',h1,h2⟩|⟨h1,_⟩
 ·rw[h1]at h;cases h;exact h2
 ·rw[h1]at h;cases h
theorem AU{s:Sn}{L:List Em}{y:Em}{q b:Nat}(h:Hu s L y q b):gu s L y q=some b:=by
 obtain⟨h0,x,h3,h4,h5⟩:=h
 rcases qa s L y q with⟨b',h1,h2,x',h6,h7,h8⟩|⟨_,h2⟩
 ·have a1:=h5 b' x' h2 h6 h7
  have a2:=h8 b x h0 h3 h4
  rw[h1,show b'=b by omega]
 ·rw[h2 b x h0 h3]at h4;cases h4
theorem qk{g:Em→Int}(a:Em)(i:Nat)(k:Int)(L E:List Em):∀q,q≤L.length→jF g a i k (L++E) q=jF g a i k L q
 |0,_=>rfl
 |q+1,hq=>by
  have ih:=qk (g:=g) a i k L E q (by omega)
  simp only[jF,aa6 (show q<L.length by omega),ih]
theorem oW{g:Em→Int}(h:∀x,0≤g x∧g x≤68719476736)(a:Em)(i:Nat)(k:Int)(L E:List Em):∀r,jF g a i k L L.length≤jF g a i k (L++E) (L.length+r)
 |0=>by rw[acL,qk a i k L E _ (aa8 _)];exact adV _
 |r+1=>by
  have ih:=oW h a i k L E r
  rw[←aa5,jF]
  cases(L++E)[L.length+r]? with
  |none=>exact ih
  |some x=>
   have:=h x
   simp only
   cases jW a i k (L.length+r) x<;>simp only[abb,abc]<;>omega
theorem oG{g:Em→Int}(a:Em)(i:Nat)(k:Int)(L E:List Em)(hE:∀x∈E,qW a x=false):∀r,jF g a i k (L++E) (L.length+r)=jF g a i k L L.length
 |0=>by rw[acL,qk a i k L E _ (aa8 _)]
 |r+1=>by
  have ih:=oG (g:=g) a i k L E hE r
  rw[←aa5,jF]
  cases hx:(L++E)[L.length+r]? with
  |none=>exact ih
  |some x=>
   have hm:x∈E:=by
    rw[abH (by omega)]at hx
    exact aa3 hx
   have:jW a i k (L.length+r) x=false:=by simp only[jW,hE x hm,abt]
   simp only[this,abc,Int.add_zero]
   exact ih
theorem Ax{s:Sn}(h:dP s=true){L E:List Em}(hL:(L++E).length≤1000){i:Nat}{a:Em}{k:Int}(hr:fD s (L++E) i a k=true):fD s L i a k=true:=by
 unfold fD at hr⊢
 simp only[aa1]at hr⊢
 refine⟨?_,?_⟩
 ·have:=hr.1
  unfold gg at this⊢
  rw[List.any_append]at this
  simp only[abx,acq]at this⊢
  exact this.1
 ·have:=hr.2
  unfold vP at this⊢
  simp only[aaX]at this⊢
  rw[iA h hL]at this
  rw[iA h (L:=L) (by rw[aaT]at hL;omega)]
  have h2:=oW (g:=fun x=>sig s x k) (fun x=>pr h x k) a i k L E E.length
  rw[aaT]at this
  omega
theorem BM{s:Sn}(h:dP s=true){L E:List Em}(hL:(L++E).length≤1000){i:Nat}{a:Em}{k:Int}(hE:∀x∈E,qW a x=false):fD s (L++E) i a k=fD s L i a k:=by
 unfold fD
 have h1:gg (L++E) a k=gg L a k:=by
  unfold gg
  rw[List.any_append]
  have:(E.any fun b=>decide (b.n=k)&&qW b a)=false:=by
   rw[ab3]
   intro x hx
   rw[tO,hE x hx];simp
  rw[this,aci]
 have h2:inter s (L++E) i a k=inter s L i a k:=by
  rw[iA h hL,iA h (L:=L) (by rw[aaT]at hL;omega),aaT,oG a i k L E hE]
 rw[h1,h2]
theorem y9{s:Sn}(h:dP s=true){L E:List Em}(hL:(L++E).length≤1000){y x:Em}{b:Nat}(hb:gu s L y L.length=some b)(hx:L[b]?=some x)(hxy:x.x<x.y)(hE:∀e∈E,x.y≤e.x):gu s (L++E) y (L++E).length=some b:=by
 obtain⟨h0,x',h3,h4,h5⟩:=BD hb
 rw[hx]at h3;cases h3
 have hov:∀e∈E,qW x e=false:=fun e he=>by
  have:=hE e he
  simp only[qW,aa0]
  omega
 refine AU ⟨by rw[aaT];omega,x,by rw[aa6 h0];exact hx,?_,fun q' x' hq hx' hc=>?_⟩
 ·unfold CW at h4⊢
  rw[BM h hL hov];exact h4
 ·rcases aa4 q' L.length with hlt|hge
  ·rw[aa6 hlt]at hx'
   refine h5 q' x' hlt hx' ?_
   unfold CW at hc⊢
   simp only[aa1]at hc⊢
   exact⟨hc.1,Ax h hL hc.2⟩
  ·rw[abH hge]at hx'
   have:=hE x' (aa3 hx')
   left;omega
end A
theorem uW{n:Nat}{L:List A.Em}:∀(k i:Nat),A.wY n L k i=0→∀(j:Nat) (a:A.Em),i≤j→j<i+k→L[j]?=some a→A.sj n (L.take j) a=0
 |0,i,_,j,a,h1,h2,_=>by omega
 |k+1,i,h,j,a,h1,h2,ha=>by
  obtain⟨b,hb⟩:=bF (show i<L.length by have:=(aaS.1 ha).1;omega)
  unfold A.wY at h
  rw[hb]at h
  cases he:decide (A.sj n (L.take i) b=0)with
  |false=>
   simp only[he,abc]at h
   exact absurd h (aco he)
  |true=>
   simp only[he,abb]at h
   by_cases hj:j=i
   ·subst hj
    rw[ha]at hb;cases hb
    exact abC he
   ·exact uW k (i+1) h j a (by omega) (by omega) ha
theorem qE{ok:Bool}{n:Nat}{L:List A.Em}(h:A.mu ok n L=0):ok=true∧L.length≤48∧∀(j:Nat) (a:A.Em),L[j]?=some a→A.tY a=true:=by
 unfold A.mu at h
 cases ok with
 |false=>cases h
 |true=>
  cases hl:decide (48<L.length)with
  |true=>rw[hl]at h;cases h
  |false=>
   rw[hl]at h
   simp only[abb,abc]at h
   refine⟨rfl,by have:=aco hl;omega,fun j a ha=>?_⟩
   have h0:=uW L.length 0 h j a (by omega) (by have:=(aaS.1 ha).1;omega) ha
   unfold A.sj at h0
   cases h1:U.dQ n a.n with
   |false=>rw[h1]at h0;cases h0
   |true=>
    cases h2:A.tY a with
    |true=>rfl
    |false=>rw[h1,h2]at h0;cases h0
theorem Fm{a:A.Em}(h:A.tY a=true):0≤a.x∧a.x<a.y∧a.y≤1099511627776:=by
 unfold A.tY at h
 simp only[aa1,aaX]at h
 exact⟨h.1.1.2,h.1.2,h.2⟩
theorem wG{sn:A.Sn}{L:List A.Em}{y:A.Em}{b:Nat}(h:o6 sn L y=some b):A.mu (A.dP sn) sn.N.length L=0∧A.gu sn L y L.length=some b:=by
 unfold o6 at h
 cases h1:decide (A.mu (A.dP sn) sn.N.length L=0)with
 |false=>rw[h1]at h;cases h
 |true=>
  cases h2:decide (y.n<0)||decide ((sn.N.length:Int)≤y.n)with
  |true=>rw[h1,h2]at h;cases h
  |false=>
   cases h3:A.FQ y with
   |true=>rw[h1,h2,h3]at h;cases h
   |false=>
    rw[h1,h2,h3]at h
    exact⟨abC h1,h⟩
theorem once{sn:A.Sn}{L E:List A.Em}{y x:A.Em}{b b':Nat}(hb:o6 sn L y=some b)(hx:L[b]?=some x)(hE:∀e∈E,x.y≤e.x)(hb':o6 sn (L++E) y=some b'):b'=b:=by
 obtain⟨k1,k2⟩:=wG hb
 obtain⟨k3,k4⟩:=wG hb'
 obtain⟨hok,hl,_⟩:=qE k3
 obtain⟨_,_,he⟩:=qE k1
 have hxy:=(Fm (he b x hx)).2.1
 rw[A.y9 hok (by omega) k2 hx hxy hE]at k4
 exact(acV k4).symm
structure Ir(f:Fi)(hb:Bd f)(s:Int)(Z:List Ac)(ar:List A.Em)(Y:Int)(st:St)(j p:Nat):Prop where
 ge:ar.length≤p
 ex:∃(k i:Nat) (x y:A.Em) (b:Ac) (z:Int×Int) (r:Rs) (L0 E:List A.Em),ar[k]?=some x∧x.n.toNat=j∧x.y≤Y∧st.L[p]?=some y∧y.n=(i:Int)∧Z[i]?=some b∧decide (b.kd=2)=true∧
  st.Q[j]?=some z∧z.2=ub (eH f i).1 (eH f i).2 s x.x∧st.R[i]?=some r∧r.er=z.2∧st.L=L0++E∧o6 (jf f hb) L0 (rr f s i b)=some k∧L0[k]?=some x∧∀e∈E,x.y≤e.x
def HQ(f:Fi)(hb:Bd f)(s:Int)(Z:List Ac)(ar:List A.Em)(Y:Int)(st:St)(t:Sg):Prop:=∀(j p:Nat),t.P[j]?=some p→p≠0→Ir f hb s Z ar Y st j p
theorem Ir.mono{f:Fi}{hb:Bd f}{s:Int}{Z:List Ac}{ar:List A.Em}{Y Y':Int}{st:St}{j p:Nat}(h:Ir f hb s Z ar Y st j p)(hY:Y≤Y'):Ir f hb s Z ar Y' st j p:=by
 obtain⟨g,k,i,x,y,b,z,r,L0,E,h1,h2,h3,h4⟩:=h
 exact⟨g,k,i,x,y,b,z,r,L0,E,h1,h2,by omega,h4⟩
theorem HQ.step{f:Fi}{hb:Bd f}{s:Int}{Z:List Ac}{st:St}{t:Sg}(h:EQ (aR f s Z Z.length) Z st t){k:Nat}{x:A.Em}{a:Ac}(hx:(aR f s Z Z.length)[k]?=some x)(ha:Z[x.n.toNat]?=some a)
 (g:HQ f hb s Z (aR f s Z Z.length) x.y st t) (i:Nat):HQ f hb s Z (aR f s Z Z.length) x.y (iT f hb s Z x x.n.toNat a st i) (j6 f hb s Z x k x.n.toNat a t i):=by
 unfold iT j6
 cases hz:Z[i]? with
 |none=>exact g
 |some b=>
  have hh:=FT h.pre h.O5 hx (o6 (jf f hb) st.L (rr f s i b)) (fun q hq=>wM hq)
  simp only
  rw[hh,←h.L]
  cases hc:(decide (b.kd=2)&&decide (o6 (jf f hb) st.L (rr f s i b)=some k))with
  |false=>simp only[abc];exact g
  |true=>
   obtain⟨hkd,hhr⟩:=adm.1 hc
   have hhr:=abC hhr
   have hil:=(aaS.1 hz).1
   have hLk:=h.pre k x hx
   have hem:=Fm ((qE (wG hhr).1).2.2 k x hLk)
   have hwy:bj (x.y+1000)=x.y+1000:=ax (by omega) (by omega)
   have keep:∀(j p:Nat) (L':List A.Em) (Q':List (Int×Int)) (E':List A.Em),L'=st.L++E'→(∀e∈E',x.y≤e.x)→Q'[j]?=st.Q[j]?→Ir f hb s Z (aR f s Z Z.length) x.y st j p→
    Ir f hb s Z (aR f s Z Z.length) x.y ⟨L',st.R.set i (By a (ub (eH f i).1 (eH f i).2 s x.x)),Q'⟩ j p:=by
    rintro j p L' Q' E' rfl hE' hQ' ⟨ge,k1,i1,x1,y1,b1,z1,r1,L0,E,e1,e2,e3,e4,e5,e6,e7,e8,e9,MO,Gl,Mf,J8,Ks,Rp⟩
    have e4':(st.L++E')[p]?=some y1:=by rw[aa6 (aaS.1 e4).1];exact e4
    have e15':∀e∈E++E',x1.y≤e.x:=fun e he=>by
     rcases abT.1 he with he|he
     ·exact Rp e he
     ·exact Int.le_trans e3 (hE' e he)
    by_cases hi:i1=i
    ·subst hi
     rw[hz]at e6;cases e6
     have hk:k=k1:=by
      rw[Mf]at hhr
      exact once J8 Ks Rp hhr
     subst hk
     rw[hx]at e1;cases e1
     exact⟨ge,k,i1,x,y1,b,z1,_,L0,E++E',hx,e2,e3,e4',e5,hz,e7,hQ'.trans e8,e9,abm (by rw[h.lR];exact hil),e9.symm,by rw[Mf,aaU],J8,Ks,e15'⟩
    ·exact⟨ge,k1,i1,x1,y1,b1,z1,r1,L0,E++E',e1,e2,e3,e4',e5,e6,e7,hQ'.trans e8,e9,by show(st.R.set i _)[i1]?=_;rw[aa2 (Ne.symm hi)];exact MO,Gl,by rw[Mf,aaU],J8,Ks,e15'⟩
   cases hdi:decide (a.d=(i:Int))with
   |false=>
    simp only[abb,abc]
    intro j p hp hp0
    exact keep j p st.L st.Q [] (by simp) (fun e he=>by cases he) rfl (g j p hp hp0)
   |true=>
    simp only[abb]
    intro j p hp hp0
    have hp':(t.P.set x.n.toNat st.L.length)[j]?=some p:=hp
    have hE:∀e∈[yr x i],x.y≤e.x:=fun e he=>by
     simp only[ab8]at he
     subst he
     show x.y≤bj (x.y+1000)
     omega
    by_cases hj:j=x.n.toNat
    ·subst hj
     rw[abm (by rw[h.lP];exact(aaS.1 ha).1)]at hp'
     cases hp'
     have hLa:(aR f s Z Z.length).length≤st.L.length:=by
      rcases aa4 st.L.length (aR f s Z Z.length).length with h1|h1
      ·obtain⟨x',hx'⟩:=bF h1
       have:=(aaS.1 (h.pre _ x' hx')).1
       omega
      ·exact h1
     exact⟨hLa,k,i,x,yr x i,b,_,_,st.L,[yr x i],hx,rfl,adV _,by simp,rfl,hz,hkd,abm (by rw[h.lQ];exact(aaS.1 ha).1),rfl,abm (by rw[h.lR];exact hil),rfl,rfl,hhr,hLk,hE⟩
    ·rw[aa2 (Ne.symm hj)]at hp'
     exact keep j p _ _ [yr x i] rfl hE (aa2 (Ne.symm hj)) (g j p hp' hp0)
theorem HQ.loop{f:Fi}{hb:Bd f}{s:Int}{Z:List Ac}{st:St}{t:Sg}(h:EQ (aR f s Z Z.length) Z st t){k:Nat}{x:A.Em}{a:Ac}(hx:(aR f s Z Z.length)[k]?=some x)(ha:Z[x.n.toNat]?=some a)
 (g:HQ f hb s Z (aR f s Z Z.length) x.y st t):∀i,HQ f hb s Z (aR f s Z Z.length) x.y (kj f hb s Z x x.n.toNat a st i) (iP f hb s Z x k x.n.toNat a t i)
 |0=>g
 |i+1=>HQ.step (h.loop hx ha i) hx ha (HQ.loop h hx ha g i) i
theorem HQ.fold{f:Fi}{hb:Bd f}{s:Int}{Z:List Ac}:∀(l:List Nat) {st:St} {t:Sg} {Y:Int},EQ (aR f s Z Z.length) Z st t→HQ f hb s Z (aR f s Z Z.length) Y st t→Q.qm (kA (aR f s Z Z.length)) l→(∀k∈l,Y≤kA (aR f s Z Z.length) k)→
 ∃Y',HQ f hb s Z (aR f s Z Z.length) Y' (l.foldl (gd f hb s Z (aR f s Z Z.length)) st) (l.foldl (mC f hb s Z (aR f s Z Z.length)) t)
 |[],_,_,Y,_,g,_,_=>⟨Y,g⟩
 |k::l,st,t,Y,h,g,hs,hY=>by
  obtain⟨hs1,hs2⟩:=ab7.1 hs
  rw[ab1,ab1]
  have hY2:∀k∈l,Y≤kA (aR f s Z Z.length) k:=fun k hk=>hY k (abP _ hk)
  unfold gd mC
  cases hx:(aR f s Z Z.length)[k]? with
  |none=>exact HQ.fold l h g hs2 hY2
  |some x=>
   simp only
   cases ha:Z[x.n.toNat]? with
   |none=>exact HQ.fold l h g hs2 hY2
   |some a=>
    have hk:kA (aR f s Z Z.length) k=x.y:=by unfold kA;rw[hx]
    have hYx:=hY k abz
    rw[hk]at hYx
    refine HQ.fold l (h.loop hx ha Z.length) (HQ.loop h hx ha (fun j p hp hp0=>(g j p hp hp0).mono hYx) Z.length) hs2 (fun k' hk'=>?_)
    have:=hs1 k' hk'
    rw[hk]at this
    exact this
theorem Lz(f:Fi)(hb:Bd f)(s:Int)(Z:List Ac):∃Y,HQ f hb s Z (aR f s Z Z.length) Y (gM f hb s Z) (gN f hb s Z):=by
 have h0:∀Y,HQ f hb s Z (aR f s Z Z.length) Y (rq (aR f s Z Z.length) Z.length) (g0 (aR f s Z Z.length) Z.length):=fun Y j p hp hp0=>by
  have e2:=aa3 hp
  simp only[g0,aee]at e2
  exact absurd e2.2 hp0
 have hs:Q.qm (kA (aR f s Z Z.length)) (dt (aR f s Z Z.length)):=Q.nB _ _
 unfold gM gN
 cases hl:dt (aR f s Z Z.length)with
 |nil=>exact HQ.fold [] (EQ.zero _ _) (h0 0) List.Pairwise.nil (fun k hk=>by cases hk)
 |cons k l=>
  rw[hl]at hs
  refine HQ.fold (k::l) (EQ.zero _ _) (h0 (kA (aR f s Z Z.length) k)) hs (fun k' hk'=>?_)
  rcases abK.1 hk' with rfl|hk'
  ·exact adV _
  ·exact(ab7.1 hs).1 k' hk'
def wv(f:Fi)(hb:Bd f)(st:St)(j:Nat):Option Rs:=match st.Q[j]? with
 |some z=>bif decide (z.1<0)then none else bif nT (jf f hb) st.L z.1 j then some (Ar z.2)else none
 |none=>none
def CK(R:List Rs)(j:Nat):Option Rs→List Rs
 |some r=>R.set j r
 |none=>R
theorem Bo(R:List Rs)(j:Nat)(o:Option Rs):(CK R j o).length=R.length:=by cases o<;>simp[CK]
theorem tg{R:List Rs}{j m:Nat}(o:Option Rs)(h:m≠j):(CK R j o)[m]?=R[m]?:=by
 cases o with
 |none=>rfl
 |some r=>exact aa2 (Ne.symm h)
theorem tP(f:Fi)(hb:Bd f)(st:St)(ar:List A.Em)(R:List Rs)(k:Nat):iY f hb st ar R k=match ar[k]? with
 |some x=>CK R x.n.toNat (wv f hb st x.n.toNat)
 |none=>R:=by
 unfold iY wv
 cases ar[k]? with
 |none=>rfl
 |some x=>
  simp only
  cases st.Q[x.n.toNat]? with
  |none=>rfl
  |some z=>
   simp only
   cases decide (z.1<0)with
   |true=>rfl
   |false=>
    cases nT (jf f hb) st.L z.1 x.n.toNat<;>rfl
theorem si{f:Fi}{hb:Bd f}{st:St}{ar:List A.Em}{j:Nat}(h:wv f hb st j=none):∀(l:List Nat) (R:List Rs),(l.foldl (iY f hb st ar) R)[j]?=R[j]?
 |[],R=>rfl
 |k::l,R=>by
  rw[ab1,si h l,tP]
  cases ar[k]? with
  |none=>rfl
  |some x=>
   simp only
   by_cases hj:j=x.n.toNat
   ·rw[←hj,h];rfl
   ·exact tg _ hj
theorem nR(f:Fi)(hb:Bd f)(st:St)(ar:List A.Em):∀(l:List Nat) (R:List Rs),(l.foldl (iY f hb st ar) R).length=R.length
 |[],R=>rfl
 |k::l,R=>by
  rw[ab1,nR f hb st ar l,tP]
  cases ar[k]? with
  |none=>rfl
  |some x=>exact Bo _ _ _
theorem rG{f:Fi}{hb:Bd f}{st:St}{ar:List A.Em}{j:Nat}{r:Rs}(h:wv f hb st j=some r):∀(l:List Nat) (R:List Rs),j<R.length→(R[j]?=some r∨∃k∈l,∃x,ar[k]?=some x∧x.n.toNat=j)→(l.foldl (iY f hb st ar) R)[j]?=some r
 |[],R,_,hk=>by
  rcases hk with hk|⟨k,hk,_⟩
  ·exact hk
  ·cases hk
 |k::l,R,hl,hk=>by
  rw[ab1]
  have hlen:(iY f hb st ar R k).length=R.length:=nR f hb st ar [k] R
  refine rG h l _ (by rw[hlen];exact hl) ?_
  rw[tP]
  cases hx:ar[k]? with
  |none=>
   rcases hk with hk|⟨k',hk',x',hx',hn⟩
   ·exact .inl hk
   ·rcases abK.1 hk' with rfl|hk'
    ·rw[hx]at hx';cases hx'
    ·exact .inr ⟨k',hk',x',hx',hn⟩
  |some x=>
   simp only
   by_cases hj:j=x.n.toNat
   ·refine .inl ?_
    rw[←hj,h]
    exact abm hl
   ·rw[tg _ hj]
    rcases hk with hk|⟨k',hk',x',hx',hn⟩
    ·exact .inl hk
    ·rcases abK.1 hk' with rfl|hk'
     ·rw[hx]at hx';cases hx';exact absurd hn.symm hj
     ·exact .inr ⟨k',hk',x',hx',hn⟩
theorem Lg{f:Fi}{hb:Bd f}{s:Int}{Z:List Ac}{j:Nat}{r:Rs}(hw:wv f hb (gM f hb s Z) j=some r):∃p,(gN f hb s Z).P[j]?=some p∧p≠0:=by
 have hE:=pK f hb s Z
 unfold wv at hw
 cases hz:(gM f hb s Z).Q[j]? with
 |none=>rw[hz]at hw;cases hw
 |some z=>
  rw[hz]at hw
  obtain⟨p,hp⟩:=bF (l:=(gN f hb s Z).P) (i:=j) (by rw[hE.lP,←hE.lQ];exact(aaS.1 hz).1)
  refine⟨p,hp,fun h0=>?_⟩
  rcases hE.qp j z p hz hp with⟨_,h2⟩|⟨h1,_⟩
  ·dsimp only at hw
   rw[h2]at hw;cases hw
  ·exact h1 h0
theorem Ci{f:Fi}{hb:Bd f}{s:Int}{Z:List Ac}{j:Nat}{r:Rs}(hw:wv f hb (gM f hb s Z) j=some r):∃(k:Nat) (x:A.Em),(aR f s Z Z.length)[k]?=some x∧x.n.toNat=j:=by
 obtain⟨Y,hY⟩:=Lz f hb s Z
 obtain⟨p,hp,h0⟩:=Lg hw
 obtain⟨_,k,i,x,y,b,z,r',L0,E,e1,e2,_⟩:=hY j p hp h0
 exact⟨k,x,e1,e2⟩
theorem HV{f:Fi}{hb:Bd f}{s:Int}{Z:List Ac}{m:Nat}{b:Ac}(hm:Z[m]?=some b)(hk:decide (b.kd=2)=true):wv f hb (gM f hb s Z) m=none:=by
 cases hw:wv f hb (gM f hb s Z) m with
 |none=>rfl
 |some r=>
  exfalso
  obtain⟨k,x,h1,h2⟩:=Ci hw
  obtain⟨j,a,_,ha,hk1,hxe⟩:=fe f s Z Z.length k x h1
  have hj:x.n.toNat=j:=by rw[hxe];show((j:Nat):Int).toNat=j;omega
  rw[←h2,hj,ha]at hm
  cases hm
  rw[aaX]at hk hk1
  omega
theorem Gr(f:Fi)(hb:Bd f)(s:Int)(Z:List Ac){R:List Rs}{i:Nat}(hi:i<Z.length)(hR:∀(m:Nat) (b:Ac),Z[m]?=some b→decide (b.kd=2)=true→R[m]?=(gM f hb s Z).R[m]?) :
 tL f hb (gN f hb s Z).L (gN f hb s Z).P R i=CK R i (wv f hb (gM f hb s Z) i):=by
 have hE:=pK f hb s Z
 obtain⟨Y,hY⟩:=Lz f hb s Z
 obtain⟨p,hp⟩:=bF (l:=(gN f hb s Z).P) (i:=i) (by rw[hE.lP];exact hi)
 obtain⟨z,hz⟩:=bF (l:=(gM f hb s Z).Q) (i:=i) (by rw[hE.lQ];exact hi)
 unfold tL wv
 rw[hp,hz,hE.L]
 simp only
 rcases hE.qp i z p hz hp with⟨rfl,h2⟩|⟨h1,h2⟩
 ·rw[h2];rfl
 ·rw[aaZ h1,h2,aaZ (show ¬(p:Int)<0 by omega)]
  simp only[abc]
  cases nT (jf f hb) (gN f hb s Z).L p i with
  |false=>rfl
  |true=>
   obtain⟨_,k,m,x,y,b,z',r,L0,E,e1,e2,e3,e4,e5,e6,e7,e8,e9,MO,Gl,_⟩:=hY i p hp h1
   rw[hz]at e8;cases e8
   have hn:y.n.toNat=m:=by rw[e5];omega
   simp only[abb]
   rw[←hE.L,e4]
   simp only
   rw[hn,hR m b e6 e7,MO]
   simp only
   rw[Gl]
   rfl
theorem xN(f:Fi)(hb:Bd f)(s:Int)(Z:List Ac):∀i,i≤Z.length→∀j,(kf f hb (gN f hb s Z).L (gN f hb s Z).P (gN f hb s Z).R i)[j]?=if j<i then(match wv f hb (gM f hb s Z) j with|some r=>some r|none=>(gM f hb s Z).R[j]?)else(gM f hb s Z).R[j]?
 |0,_,j=>by rw[if_neg (by omega),(pK f hb s Z).R];rfl
 |i+1,hi,j=>by
  have ih:=xN f hb s Z i (by omega)
  have hE:=pK f hb s Z
  have hlen:(kf f hb (gN f hb s Z).L (gN f hb s Z).P (gN f hb s Z).R i).length=Z.length:=by rw[oh,←hE.R,hE.lR]
  show(tL f hb (gN f hb s Z).L (gN f hb s Z).P (kf f hb (gN f hb s Z).L (gN f hb s Z).P (gN f hb s Z).R i) i)[j]?=_
  rw[Gr f hb s Z (by omega) (fun m b hm hk=>by
   rw[ih m,HV hm hk]
   split<;>rfl)]
  by_cases hj:j=i
  ·subst hj
   rw[if_pos (by omega)]
   cases hw:wv f hb (gM f hb s Z) j with
   |none=>
    show(kf _ _ _ _ _ _)[j]?=_
    rw[ih j,if_neg (by omega)]
   |some r=>exact abm (by rw[hlen];omega)
  ·rw[tg _ hj,ih j]
   by_cases h1:j<i
   ·rw[if_pos h1,if_pos (by omega)]
   ·rw[if_neg h1,if_neg (by omega)]
theorem F5(f:Fi)(hb:Bd f)(s:Int)(Z:List Ac):o9 f hb s Z=gR f hb s Z:=by
 have hE:=pK f hb s Z
 apply acU
 intro j
 unfold o9 gR
 rw[xN f hb s Z Z.length (aa8 _) j]
 cases hw:wv f hb (gM f hb s Z) j with
 |none=>
  rw[si hw]
  split<;>rfl
 |some r=>
  obtain⟨p,hp,_⟩:=Lg hw
  have hjl:j<Z.length:=by rw[←hE.lP];exact(aaS.1 hp).1
  obtain⟨k,x,h1,h2⟩:=Ci hw
  rw[if_pos hjl]
  exact rG hw _ _ (by rw[hE.lR];exact hjl) (.inr ⟨k,(Q.kH _ _ _).2 (abr.2 (aaS.1 h1).1),x,h1,h2⟩)
theorem MX(f:Fi)(hb:Bd f)(s:Int)(Z:List Ac):PX f hb s Z=bif decide (wO f s Z=0)then .bk [.ay 15 (kr (o9 f hb s Z)) true,.ay 4 (A.bK (gM f hb s Z).L) false,aex]else .bk [.ay 0 [] true,.ay 0 [] true,aew (wO f s Z)]:=by
 unfold PX wO
 rw[F5,(pK f hb s Z).L]
 cases he:decide (wQ f s Z=0)with
 |false=>simp only[abc,he]
 |true=>cases C5 f s Z<;>rfl
theorem SY(n:Nat)(H:ae)(R:List Rs)(f g:Bool)(hR:R.length≤maxLen):aa T (n+1) (.fn 18) [.ay 15 (kr R) f,.ay 15 (kr R) g] H=some (.bool true,H):=by
 refine ab Yc (by rfl) ?_
 simp only[W6,ah,go_sem,simprocAttr]
 refine aY (fun i=>([(0,.ay 15 (kr R) f),(1,.ay 15 (kr R) g),(12,aew R.length),(13,aew i)],⟨[],[],0⟩)) (fun _=>True) R.length ?_ trivial ?_
 ·simp only[go_sem,simprocAttr]<;>rfl
 ·intro i hi _
  rcases aa4 i R.length with hlt|hge
  ·obtain⟨r,hr⟩:=bF hlt
   have hw:=br hlt hR
   simp only[go_sem,simprocAttr,hlt,hr,hw,ace,abn,acg]
   exact⟨by first|trivial|omega,by first|trivial|rfl,trivial⟩
  ·obtain rfl:i=R.length:=by omega
   have hd:decide (R.length<R.length)=false:=aaZ (by omega)
   simp only[go_sem,simprocAttr,hd]
theorem T5(n:Nat)(H:ae)(L:List A.Em)(f g:Bool)(hL:L.length≤maxLen):aa T (n+1) (.fn 19) [.ay 4 (A.bK L) f,.ay 4 (A.bK L) g] H=some (.bool true,H):=by
 refine ab Re (by rfl) ?_
 simp only[Xo,ah,go_sem,simprocAttr]
 refine aY (fun i=>([(0,.ay 4 (A.bK L) f),(1,.ay 4 (A.bK L) g),(12,aew L.length),(13,aew i)],⟨[],[],0⟩)) (fun _=>True) L.length ?_ trivial ?_
 ·simp only[go_sem,simprocAttr]<;>rfl
 ·intro i hi _
  rcases aa4 i L.length with hlt|hge
  ·obtain⟨r,hr⟩:=bF hlt
   have hw:=br hlt hL
   simp only[go_sem,simprocAttr,hlt,hr,hw,ace,abn,acg]
   exact⟨by first|trivial|omega,by first|trivial|rfl,trivial⟩
  ·obtain rfl:i=L.length:=by omega
   have hd:decide (L.length<L.length)=false:=aaZ (by omega)
   simp only[go_sem,simprocAttr,hd]
theorem SD(n:Nat)(H:ae):aa T (n+1) (.fn 19) [.ay 0 [] true,.ay 4 [] false] H=some (.bool true,H):=eB Re (by rfl) (fk (T:=T) 100 (n+1) (.fn 19) [.ay 0 [] true,.ay 4 [] false] ah (.bool true,ah) (by kernel_rfl))
theorem Uz(n:Nat)(H:ae):aa T (n+1) (.fn 18) [.ay 0 [] true,.ay 0 [] true] H=some (.bool true,H):=eB Yc (by rfl) (fk (T:=T) 100 (n+1) (.fn 18) [.ay 0 [] true,.ay 0 [] true] ah (.bool true,ah) (by kernel_rfl))
theorem Ue(n:Nat)(H:ae):aa T (n+1) (.fn 19) [.ay 0 [] true,.ay 0 [] true] H=some (.bool true,H):=eB Re (by rfl) (fk (T:=T) 100 (n+1) (.fn 19) [.ay 0 [] true,.ay 0 [] true] ah (.bool true,ah) (by kernel_rfl))
def uH(T:FuncId→Option aC)(fu:Nat)(rec:Rec):Rec
 | .fn f,xs,H=>match T f with
   |none=>none
   |some F=>bif eI F xs then
     ((eM rec fu F.body (dV xs) ah).bind fun o=>match o.1 with
       | .exit _=>none
       |_=>(results1 o.2.1 o.2.2 F.res).bind fun v=>eh 0 o.2.2 cE v).map fun v=>(v,H)
    else(eM rec fu F.body (dV xs) {bl:=H.bl,bV:=[],ro:=min H.ro H.bl.length}).bind fun o=>match o.1 with
     | .exit _=>none
     |_=>(results1 o.2.1 o.2.2 F.res).bind fun v=>cR F.keep H v o.2.2
 | .qX f,xs,H=>match T f with
   |none=>none
   |some F=>(eM rec fu F.body (dV xs) {bl:=H.bl,bV:=[],ro:=min H.ro H.bl.length}).bind fun o=>match o.1 with
     | .exit _=>none
     |_=>(results1 o.2.1 o.2.2 F.res).bind fun v=>cR true H v o.2.2
 | .fA b,xs,H=>match bn H b with
   |some (.loop q .ready _)=>
    bif q.ps.length==xs.length then
     (eM rec fu q.assign ((q.ps.zip xs).reverse++q.env) {bl:=H.bl,bV:=[],ro:=min H.ro H.bl.length}).bind fun o=>match o.1 with
      | .normal=>(eE b o.2.2).bind fun H'=>(eM rec fu q.body o.2.1 H').bind fun o=>
         (fi b (match o.1 with| .normal=>.ready|_=>.done) o.1 o.2.2).bind fun H'=>
          (da H.bl.length H H').map fun H'=>(.bool (match o.1 with| .normal=>true|_=>false),H')
      |_=>none
    else none
   |_=>none
theorem BU{T:FuncId→Option aC}(fu n:Nat){rec:Rec}(hr:∀f xs H r,rec f xs H=some r→aa T n f xs H=some r):∀f xs H r,uH T fu rec f xs H=some r→aa T (n+1) f xs H=some r:=by
 intro f xs H r h
 cases f with
 |fn f=>
  simp only[uH]at h
  simp only[aa]
  split at h
  ·cases h
  ·rename_i F hF
   rw[hF]
   dsimp only
   cases hp:eI F xs with
   |true=>
    rw[hp]at h
    simp only[abb]at h⊢
    obtain⟨v,hv,rfl⟩:=aaW.1 h
    obtain⟨o,h1,h2⟩:=aaY.1 hv
    rw[fV hr fu _ _ _ _ h1]
    obtain⟨x,e',H'⟩:=o
    cases x with
    |exit j=>cases h2
    |normal=>simp only at h2;simp only[h2,abL]
    |ret=>simp only at h2;simp only[h2,abL]
   |false=>
    rw[hp]at h
    simp only[abc]at h⊢
    obtain⟨o,h1,h2⟩:=aaY.1 h
    rw[fV hr fu _ _ _ _ h1]
    obtain⟨x,e',H'⟩:=o
    cases x with
    |exit j=>cases h2
    |normal=>exact h2
    |ret=>exact h2
 |qX f=>
  simp only[uH]at h
  simp only[aa]
  split at h
  ·cases h
  ·rename_i F hF
   rw[hF]
   dsimp only
   obtain⟨o,h1,h2⟩:=aaY.1 h
   rw[fV hr fu _ _ _ _ h1]
   obtain⟨x,e',H'⟩:=o
   cases x with
   |exit j=>cases h2
   |normal=>exact h2
   |ret=>exact h2
 |fA b=>
  simp only[uH]at h
  simp only[aa]
  split at h
  ·rename_i q pend hg
   rw[hg]
   dsimp only
   cases hp:q.ps.length==xs.length with
   |false=>rw[hp]at h;cases h
   |true=>
    rw[hp]at h
    simp only[abb]at h⊢
    obtain⟨o,h1,h2⟩:=aaY.1 h
    rw[fV hr fu _ _ _ _ h1]
    obtain⟨x,e',H'⟩:=o
    cases x with
    |exit j=>cases h2
    |ret=>cases h2
    |normal=>
     simp only at h2⊢
     obtain⟨H1,h3,h4⟩:=aaY.1 h2
     rw[h3]
     simp only[abO]
     obtain⟨o,h5,h6⟩:=aaY.1 h4
     rw[fV hr fu _ _ _ _ h5]
     exact h6
  ·cases h
def xL(T:FuncId→Option aC)(fu:Nat)(O:Nat→P3→List SV→Option SV):Nat→Rec
 |0,_,_,_=>none
 |n+1,c,xs,H=>match O n c xs with
  |some v=>some (v,H)
  |none=>uH T fu (xL T fu O n) c xs H
theorem u5{T:FuncId→Option aC}(fu:Nat){O:Nat→P3→List SV→Option SV}(hO:∀n c xs v,O n c xs=some v→∀H,aa T (n+1) c xs H=some (v,H)):∀n f xs H r,xL T fu O n f xs H=some r→aa T n f xs H=some r:=by
 intro n
 induction n with
 |zero=>intro f xs H r h;simp[xL]at h
 |succ n ih=>
  intro f xs H r h
  simp only[xL]at h
  split at h
  ·rename_i v hv
   rw[←h]
   exact hO n f xs v hv H
  ·exact BU fu n ih f xs H r h
def LD(m f:Nat)(ys:List SV)(w:SV):Nat→P3→List SV→Option SV
 |n,.fn g,xs=>bif decide (g=f)&&decide (m≤n+1)&&gD (.agg xs) (.agg ys)then some w else none
 |_,_,_=>none
theorem yw{T:FuncId→Option aC}{m f:Nat}{ys:List SV}{w:SV}(h:∀n H,aa T (n+m) (.fn f) ys H=some (w,H)):∀n c xs v,LD m f ys w n c xs=some v→∀H,aa T (n+1) c xs H=some (v,H):=by
 intro n c xs v hv H
 cases c with
 |fn g=>
  simp only[LD]at hv
  cases hc:(decide (g=f)&&decide (m≤n+1)&&gD (.agg xs) (.agg ys))with
  |false=>rw[hc]at hv;cases hv
  |true=>
   rw[hc]at hv
   simp only[aa1,aaX]at hc
   obtain⟨⟨rfl,h1⟩,h2⟩:=hc
   have h3:=mD _ _ h2
   injection h3 with h3
   subst h3
   have h4:=h (n+1-m) H
   rw[show n+1-m+m=n+1 by omega]at h4
   rw[h4]
   simp only[abb,abd]at hv
   rw[hv]
 |qX g=>cases hv
 |fA b=>cases hv
end Go.Sh
