/- A part of the proof: texts Ktfxd, Ktfxe, Ktfxf, Ktfxg, Ktfxh, Ktfxi, Ktfxj, Ktfxk, Ktfma, Ktfmb, Ktfmc, Ktfmd, Ktfme2, Ktfmf, Ktfmg, Ktfmh, Ktfmi, Ktfmj, Ktfmk, Ktfml, Ktfmm, ShLs, ShLi. -/
import Derived.Test.YtlkjiffohmkidaaGreatB14
import Derived.Test.YtlkjiffohmkidaaGreatB9
namespace Go.Sh
set_option linter.unusedSectionVars false
set_option linter.unnecessarySimpa false
set_option linter.unusedSimpArgs false
set_option linter.unusedVariables false
set_option maxRecDepth 100000
set_option maxHeartbeats 4000000
section
namespace F
theorem gd(L:List aj)(W A:Nat)(x y:aj):((L.set A x).set W y).drop L.length=[]:=Qg (by simp)
theorem M4:T 67=some rL:=Na
section
variable(L:List aj)(W A ro:Nat)(es:List (Nat×Nat))(bs:List Bool)(hWA:W<A)(hA:A<L.length)(hro:ro≤W)
variable(V K:Nat)(hV:L[V]?=some (.box [.ptr W 0 0 0]))(hVW:W≠V)(hVA:A≠V)(c l:Int)(a b:ByteArray)(p r m:Int)(hK:L[K]?=some (.box (hd c l a b p r m)))(hKW:W≠K)(hKA:A≠K)(hb:bs.length≤500)
include hWA hA hro hV hVW hVA hK hKW hKA hb
theorem K7(n:Nat)(hc:0≤c∧c≤255):ab T (n+4) (.fn 117) [.ptr V 0 0 0,.ptr K 0 0 0] (gH L W A bs es ro)=some (.ax [],gH L W A (bs++mh c) (es++gk W A bs (mh c).length) ro):=by
 refine ao HY (bQ (by simp[SV.refs.au,SV.refs])) ?_
 have u1:=gu L W A ro hWA hA hro n
 have l2:decide (W<L.length)=true:=NN (by omega)
 have l4:decide (L.length<A+1)=false:=NQ (by omega)
 have l6:decide (L.length≤L.length)=true:=NN (NV _)
 have gV:∀x y,((L.set A x).set W y)[V]?=some (.box [.ptr W 0 0 0]):=fun x y=>(go V hVW hVA x y).trans hV
 have gK:∀x y,((L.set A x).set W y)[K]?=some (.box (hd c l a b p r m)):=fun x y=>(go K hKW hKA x y).trans hK
 have f1:∀es,ab T (n+3) (.fn 118) [.ptr W 0 0 0,.bool true] (gH L W A bs es (min ro L.length))=some (.ax [],gH L W A (bs++bits 1 1) (es++gk W A bs 1) (min ro L.length)):=fun es=>jI L W A (min ro L.length) es bs hWA hA (by omega) n true (by omega)
 have f0:∀es,ab T (n+3) (.fn 118) [.ptr W 0 0 0,.bool false] (gH L W A bs es (min ro L.length))=some (.ax [],gH L W A (bs++bits 1 0) (es++gk W A bs 1) (min ro L.length)):=fun es=>jI L W A (min ro L.length) es bs hWA hA (by omega) n false (by omega)
 unfold mh
 by_cases h0:c=0
 ·have d:decide (c=0)=true:=NN h0
  rw[d]
  simp only[AG,go_sem,simprocAttr,gV,gK,d,f0,gt,l2,l4,l6,NZ,NU,NW,ite_self,if_true,gd,OS]
  try simp only[NR,NO,aa,N6,Oa,Nat.reduceAdd]
 ·have d:decide (c=0)=false:=NQ h0
  rw[d]
  have a0:∀es,ab T (n+3) (.fn 119) [.ptr W 0 0 0,Ru 8,Ru (c)] (gH L W A (bs++bits 1 1) es (min ro L.length))=some (.ax [],gH L W A (bs++bits 1 1++bits 8 c.toNat) (es++gk W A (bs++bits 1 1) 8) (min ro L.length)):=fun es=>u1 8 (c) es (bs++bits 1 1) (by omega) (by omega) (by omega) (by omega) (by first|omega|(simp only[NO,aa];omega))
  have k0:gk W A bs 1++gk W A (bs++bits 1 1) 8=gk W A bs 9:=bW (by simp only[NO,aa])
  simp only[AG,go_sem,simprocAttr,gV,gK,d,f1,a0,k0,gt,l2,l4,l6,NZ,NU,NW,ite_self,if_true,gd,OS]
  try simp only[NR,NO,aa,N6,Oa,Nat.reduceAdd]
theorem HZ(n:Nat)(hl:0≤l∧l≤255):ab T (n+4) (.fn 120) [.ptr K 0 0 0,.ptr V 0 0 0] (gH L W A bs es ro)=some (.ax [],gH L W A (bs++ob l) (es++gk W A bs (ob l).length) ro):=by
 refine ao J0 (bQ (by simp[SV.refs.au,SV.refs])) ?_
 have u1:=gu L W A ro hWA hA hro n
 have l2:decide (W<L.length)=true:=NN (by omega)
 have l4:decide (L.length<A+1)=false:=NQ (by omega)
 have l6:decide (L.length≤L.length)=true:=NN (NV _)
 have gV:∀x y,((L.set A x).set W y)[V]?=some (.box [.ptr W 0 0 0]):=fun x y=>(go V hVW hVA x y).trans hV
 have gK:∀x y,((L.set A x).set W y)[K]?=some (.box (hd c l a b p r m)):=fun x y=>(go K hKW hKA x y).trans hK
 have f1:∀es,ab T (n+3) (.fn 118) [.ptr W 0 0 0,.bool true] (gH L W A bs es (min ro L.length))=some (.ax [],gH L W A (bs++bits 1 1) (es++gk W A bs 1) (min ro L.length)):=fun es=>jI L W A (min ro L.length) es bs hWA hA (by omega) n true (by omega)
 have f0:∀es,ab T (n+3) (.fn 118) [.ptr W 0 0 0,.bool false] (gH L W A bs es (min ro L.length))=some (.ax [],gH L W A (bs++bits 1 0) (es++gk W A bs 1) (min ro L.length)):=fun es=>jI L W A (min ro L.length) es bs hWA hA (by omega) n false (by omega)
 have h121:=fun H=>Ft (n+2) H
 have h67:=fun H=>uj (T:=T) (f:=67) (n:=n+2) (H:=H) (v:=.aB 1 [[Ru (-1)],[Ru 1],[Ru 64],[Ru 255]] true) (M:=[-1,1,64,255]) (x:=l) M4 (.aB 1 true (.inl rfl)) (by decide)
 unfold ob
 have m1:max (1:Int) 0=1:=by decide
 have m2:max (2:Int) 0=2:=by decide
 have m3:max (3:Int) 0=3:=by decide
 have m4:max (-1:Int) 0=0:=by decide
 have d0:decide (l= -1)=false:=NQ (by omega)
 by_cases e1:l=1
 ·subst e1
  have hi:iK (fun y=>decide ((1:Int)=y)) [-1,1,64,255]=1:=by decide
  rw[hi]at h67
  have a0:∀es,ab T (n+3) (.fn 119) [.ptr W 0 0 0,Ru 2,Ru (1)] (gH L W A (bs) es (min ro L.length))=some (.ax [],gH L W A (bs++bits 2 1) (es++gk W A (bs) 2) (min ro L.length)):=fun es=>u1 2 (1) es (bs) (by omega) (by omega) (by omega) (by omega) (by first|omega|(simp only[NO,aa];omega))
  simp only[wD,go_sem,simprocAttr,gV,gK,h121,h67,m1,m2,m3,m4,a0,gt,l2,l4,l6,NZ,NU,NW,ite_self,if_true,gd,OS]
  try simp only[NR,NO,aa,N6,Oa,Nat.reduceAdd]
 by_cases e2:l=64
 ·subst e2
  have hi:iK (fun y=>decide ((64:Int)=y)) [-1,1,64,255]=2:=by decide
  rw[hi]at h67
  have a0:∀es,ab T (n+3) (.fn 119) [.ptr W 0 0 0,Ru 2,Ru (2)] (gH L W A (bs) es (min ro L.length))=some (.ax [],gH L W A (bs++bits 2 2) (es++gk W A (bs) 2) (min ro L.length)):=fun es=>u1 2 (2) es (bs) (by omega) (by omega) (by omega) (by omega) (by first|omega|(simp only[NO,aa];omega))
  simp only[wD,go_sem,simprocAttr,gV,gK,h121,h67,m1,m2,m3,m4,a0,gt,l2,l4,l6,NZ,NU,NW,ite_self,if_true,gd,OS]
  try simp only[NR,NO,aa,N6,Oa,Nat.reduceAdd]
 by_cases e3:l=255
 ·subst e3
  have hi:iK (fun y=>decide ((255:Int)=y)) [-1,1,64,255]=3:=by decide
  rw[hi]at h67
  have a0:∀es,ab T (n+3) (.fn 119) [.ptr W 0 0 0,Ru 2,Ru (3)] (gH L W A (bs) es (min ro L.length))=some (.ax [],gH L W A (bs++bits 2 3) (es++gk W A (bs) 2) (min ro L.length)):=fun es=>u1 2 (3) es (bs) (by omega) (by omega) (by omega) (by omega) (by first|omega|(simp only[NO,aa];omega))
  simp only[wD,go_sem,simprocAttr,gV,gK,h121,h67,m1,m2,m3,m4,a0,gt,l2,l4,l6,NZ,NU,NW,ite_self,if_true,gd,OS]
  try simp only[NR,NO,aa,N6,Oa,Nat.reduceAdd]
 have hi:iK (fun y=>decide (l=y)) [-1,1,64,255]= -1:=by
  simp[iK,e1,e2,e3,show ¬l= -1 by omega]
 rw[hi]at h67
 have d1:decide (l=1)=false:=NQ e1
 have d2:decide (l=64)=false:=NQ e2
 have d3:decide (l=255)=false:=NQ e3
 rw[d1,d2,d3]
 have a0:∀es,ab T (n+3) (.fn 119) [.ptr W 0 0 0,Ru 2,Ru (0)] (gH L W A (bs) es (min ro L.length))=some (.ax [],gH L W A (bs++bits 2 0) (es++gk W A (bs) 2) (min ro L.length)):=fun es=>u1 2 (0) es (bs) (by omega) (by omega) (by omega) (by omega) (by first|omega|(simp only[NO,aa];omega))
 have a1:∀es,ab T (n+3) (.fn 119) [.ptr W 0 0 0,Ru 8,Ru (l)] (gH L W A (bs++bits 2 0) es (min ro L.length))=some (.ax [],gH L W A (bs++bits 2 0++bits 8 l.toNat) (es++gk W A (bs++bits 2 0) 8) (min ro L.length)):=fun es=>u1 8 (l) es (bs++bits 2 0) (by omega) (by omega) (by omega) (by omega) (by first|omega|(simp only[NO,aa];omega))
 have k1:gk W A bs 2++gk W A (bs++bits 2 0) 8=gk W A bs 10:=bW (by simp only[NO,aa])
 simp only[wD,go_sem,simprocAttr,gV,gK,h121,h67,m1,m2,m3,m4,a0,a1,k1,gt,l2,l4,l6,NZ,NU,NW,ite_self,if_true,gd,OS]
 try simp only[NR,NO,aa,N6,Oa,Nat.reduceAdd]
theorem JD(n:Nat)(hm:0≤m∧m≤4095):ab T (n+4) (.fn 127) [.ptr K 0 0 0,.ptr V 0 0 0] (gH L W A bs es ro)=some (.ax [],gH L W A (bs++l8 m) (es++gk W A bs (l8 m).length) ro):=by
 refine ao KR (bQ (by simp[SV.refs.au,SV.refs])) ?_
 have u1:=gu L W A ro hWA hA hro n
 have l2:decide (W<L.length)=true:=NN (by omega)
 have l4:decide (L.length<A+1)=false:=NQ (by omega)
 have l6:decide (L.length≤L.length)=true:=NN (NV _)
 have gV:∀x y,((L.set A x).set W y)[V]?=some (.box [.ptr W 0 0 0]):=fun x y=>(go V hVW hVA x y).trans hV
 have gK:∀x y,((L.set A x).set W y)[K]?=some (.box (hd c l a b p r m)):=fun x y=>(go K hKW hKA x y).trans hK
 have f1:∀es,ab T (n+3) (.fn 118) [.ptr W 0 0 0,.bool true] (gH L W A bs es (min ro L.length))=some (.ax [],gH L W A (bs++bits 1 1) (es++gk W A bs 1) (min ro L.length)):=fun es=>jI L W A (min ro L.length) es bs hWA hA (by omega) n true (by omega)
 have f0:∀es,ab T (n+3) (.fn 118) [.ptr W 0 0 0,.bool false] (gH L W A bs es (min ro L.length))=some (.ax [],gH L W A (bs++bits 1 0) (es++gk W A bs 1) (min ro L.length)):=fun es=>jI L W A (min ro L.length) es bs hWA hA (by omega) n false (by omega)
 unfold l8
 by_cases h0:63<m
 ·have d:decide (63<m)=true:=NN h0
  rw[d]
  have a0:∀es,ab T (n+3) (.fn 119) [.ptr W 0 0 0,Ru 12,Ru (m)] (gH L W A (bs++bits 1 1) es (min ro L.length))=some (.ax [],gH L W A (bs++bits 1 1++bits 12 m.toNat) (es++gk W A (bs++bits 1 1) 12) (min ro L.length)):=fun es=>u1 12 (m) es (bs++bits 1 1) (by omega) (by omega) (by omega) (by omega) (by first|omega|(simp only[NO,aa];omega))
  have k0:gk W A bs 1++gk W A (bs++bits 1 1) 12=gk W A bs 13:=bW (by simp only[NO,aa])
  simp only[AX,go_sem,simprocAttr,gV,gK,d,f1,a0,k0,gt,l2,l4,l6,NZ,NU,NW,ite_self,if_true,gd,OS]
  try simp only[NR,NO,aa,N6,Oa,Nat.reduceAdd]
 ·have d:decide (63<m)=false:=NQ h0
  rw[d]
  have a0:∀es,ab T (n+3) (.fn 119) [.ptr W 0 0 0,Ru 6,Ru (m)] (gH L W A (bs++bits 1 0) es (min ro L.length))=some (.ax [],gH L W A (bs++bits 1 0++bits 6 m.toNat) (es++gk W A (bs++bits 1 0) 6) (min ro L.length)):=fun es=>u1 6 (m) es (bs++bits 1 0) (by omega) (by omega) (by omega) (by omega) (by first|omega|(simp only[NO,aa];omega))
  have k0:gk W A bs 1++gk W A (bs++bits 1 0) 6=gk W A bs 7:=bW (by simp only[NO,aa])
  simp only[AX,go_sem,simprocAttr,gV,gK,d,f0,a0,k0,gt,l2,l4,l6,NZ,NU,NW,ite_self,if_true,gd,OS]
  try simp only[NR,NO,aa,N6,Oa,Nat.reduceAdd]
theorem Ky(n:Nat)(hp:0≤p∧p≤65535)(hr:0≤r∧r≤65535):ab T (n+5) (.fn 125) [.ptr V 0 0 0,.ptr K 0 0 0] (gH L W A bs es ro)=some (.ax [],gH L W A (bs++pT p r) (es++gk W A bs (pT p r).length) ro):=by
 refine ao KL (bQ (by simp[SV.refs.au,SV.refs])) ?_
 have u1:=gu L W A ro hWA hA hro n
 have l2:decide (W<L.length)=true:=NN (by omega)
 have l4:decide (L.length<A+1)=false:=NQ (by omega)
 have l6:decide (L.length≤L.length)=true:=NN (NV _)
 have gV:∀x y,((L.set A x).set W y)[V]?=some (.box [.ptr W 0 0 0]):=fun x y=>(go V hVW hVA x y).trans hV
 have gK:∀x y,((L.set A x).set W y)[K]?=some (.box (hd c l a b p r m)):=fun x y=>(go K hKW hKA x y).trans hK
 have f1:∀es,ab T (n+3) (.fn 118) [.ptr W 0 0 0,.bool true] (gH L W A bs es (min ro L.length))=some (.ax [],gH L W A (bs++bits 1 1) (es++gk W A bs 1) (min ro L.length)):=fun es=>jI L W A (min ro L.length) es bs hWA hA (by omega) n true (by omega)
 have f0:∀es,ab T (n+3) (.fn 118) [.ptr W 0 0 0,.bool false] (gH L W A bs es (min ro L.length))=some (.ax [],gH L W A (bs++bits 1 0) (es++gk W A bs 1) (min ro L.length)):=fun es=>jI L W A (min ro L.length) es bs hWA hA (by omega) n false (by omega)
 have h126:=fun es=>IH L W A (min ro L.length) es bs hWA hA (by omega) n p r hp.1 hp.2 hr.1 hr.2 (by omega)
 simp only[Dx,go_sem,simprocAttr,gV,gK,h126,gt,l2,l4,l6,NZ,NU,NW,ite_self,if_true]
theorem I1(n:Nat)(M:Nat)(P:List ByteArray)(fl:Bool)(hM:L[M]?=some (.box [.aB 1 (fx P) fl]))(hMW:W≠M)(hMA:A≠M)(hP:P.length≤8)(ha:a.size≤100):ab T (n+5) (.fn 122) [.ptr V 0 0 0,.ptr M 0 0 0,.ptr K 0 0 0] (gH L W A bs es ro)=some (.ax [],gH L W A (bs++fT P a) (es++gk W A bs (fT P a).length) ro):=by
 refine ao Ig (bQ (by simp[SV.refs.au,SV.refs])) ?_
 have u1:=gu L W A ro hWA hA hro n
 have l2:decide (W<L.length)=true:=NN (by omega)
 have l4:decide (L.length<A+1)=false:=NQ (by omega)
 have l6:decide (L.length≤L.length)=true:=NN (NV _)
 have gV:∀x y,((L.set A x).set W y)[V]?=some (.box [.ptr W 0 0 0]):=fun x y=>(go V hVW hVA x y).trans hV
 have gK:∀x y,((L.set A x).set W y)[K]?=some (.box (hd c l a b p r m)):=fun x y=>(go K hKW hKA x y).trans hK
 have f1:∀es,ab T (n+3) (.fn 118) [.ptr W 0 0 0,.bool true] (gH L W A bs es (min ro L.length))=some (.ax [],gH L W A (bs++bits 1 1) (es++gk W A bs 1) (min ro L.length)):=fun es=>jI L W A (min ro L.length) es bs hWA hA (by omega) n true (by omega)
 have f0:∀es,ab T (n+3) (.fn 118) [.ptr W 0 0 0,.bool false] (gH L W A bs es (min ro L.length))=some (.ax [],gH L W A (bs++bits 1 0) (es++gk W A bs 1) (min ro L.length)):=fun es=>jI L W A (min ro L.length) es bs hWA hA (by omega) n false (by omega)
 have gM:∀x y,((L.set A x).set W y)[M]?=some (.box [.aB 1 (fx P) fl]):=fun x y=>(go M hMW hMA x y).trans hM
 have h123:=fun es=>Fs L W A (min ro L.length) es bs hWA hA (by omega) n P a fl hP ha (by omega)
 simp only[Fc,go_sem,simprocAttr,gV,gK,gM,h123,gt,l2,l4,l6,NZ,NU,NW,ite_self,if_true]
theorem Kf(n:Nat)(M:Nat)(P:List ByteArray)(fl:Bool)(hM:L[M]?=some (.box [.aB 1 (fx P) fl]))(hMW:W≠M)(hMA:A≠M)(hP:P.length≤8)(ha:b.size≤100):ab T (n+5) (.fn 124) [.ptr V 0 0 0,.ptr M 0 0 0,.ptr K 0 0 0] (gH L W A bs es ro)=some (.ax [],gH L W A (bs++fT P b) (es++gk W A bs (fT P b).length) ro):=by
 refine ao Km (bQ (by simp[SV.refs.au,SV.refs])) ?_
 have u1:=gu L W A ro hWA hA hro n
 have l2:decide (W<L.length)=true:=NN (by omega)
 have l4:decide (L.length<A+1)=false:=NQ (by omega)
 have l6:decide (L.length≤L.length)=true:=NN (NV _)
 have gV:∀x y,((L.set A x).set W y)[V]?=some (.box [.ptr W 0 0 0]):=fun x y=>(go V hVW hVA x y).trans hV
 have gK:∀x y,((L.set A x).set W y)[K]?=some (.box (hd c l a b p r m)):=fun x y=>(go K hKW hKA x y).trans hK
 have f1:∀es,ab T (n+3) (.fn 118) [.ptr W 0 0 0,.bool true] (gH L W A bs es (min ro L.length))=some (.ax [],gH L W A (bs++bits 1 1) (es++gk W A bs 1) (min ro L.length)):=fun es=>jI L W A (min ro L.length) es bs hWA hA (by omega) n true (by omega)
 have f0:∀es,ab T (n+3) (.fn 118) [.ptr W 0 0 0,.bool false] (gH L W A bs es (min ro L.length))=some (.ax [],gH L W A (bs++bits 1 0) (es++gk W A bs 1) (min ro L.length)):=fun es=>jI L W A (min ro L.length) es bs hWA hA (by omega) n false (by omega)
 have gM:∀x y,((L.set A x).set W y)[M]?=some (.box [.aB 1 (fx P) fl]):=fun x y=>(go M hMW hMA x y).trans hM
 have h123:=fun es=>Fs L W A (min ro L.length) es bs hWA hA (by omega) n P b fl hP ha (by omega)
 simp only[Dy,go_sem,simprocAttr,gV,gK,gM,h123,gt,l2,l4,l6,NZ,NU,NW,ite_self,if_true]
end
end F
end
namespace F
def fk(P:List ByteArray)(c l:Int)(a b:ByteArray)(p r m:Int):Nat→List Bool
 |0=>[]
 |1=>mh c
 |2=>mh c++ob l
 |3=>mh c++ob l++fT P a
 |4=>mh c++ob l++fT P a++fT P b
 |5=>mh c++ob l++fT P a++fT P b++pT p r
 |_=>mh c++ob l++fT P a++fT P b++pT p r++l8 m
theorem vf(W A w:Nat):gk W A [] w=List.replicate (nb w) (W,A+1):=by
 unfold gk
 rw[Oc,OY];rfl
theorem nr(bl:List aj)(x0 x1 x2 x3 x4 x5:aj)(bs:List Bool):gL (bl++[x0,x1,x2,x3,x4,x5]) (bl.length+2) (bl.length+4) bs=bl++[x0,x1,gB (bl.length+4) bs,x3,wA bs,x5]:=by
 unfold gL
 rw[aZ,aZ];rfl
theorem yI(c:Int):(mh c).length≤9:=by unfold mh;cases decide (c=0)<;>simp only[N6,Oa,NO,aa]<;>omega
theorem yA(l:Int):(ob l).length≤10:=by
 unfold ob;cases decide (l=1)<;>cases decide (l=64)<;>cases decide (l=255)<;>simp only[N6,Oa,NO,aa]<;>omega
theorem zx(p r:Int):(pT p r).length≤34:=by
 unfold pT;cases(mu p&&mu r)<;>cases decide (p=r)<;>cases dp (p-61440) 255<;>simp only[N6,Oa,NO,aa]<;>omega
theorem yE(m:Int):(l8 m).length≤13:=by unfold l8;cases decide (63<m)<;>simp only[N6,Oa,NO,aa]<;>omega
theorem uW(P:List ByteArray)(a:ByteArray):(j0 P a).size≤a.size:=by
 unfold j0;cases decide (0≤fd P a)
 ·exact NV _
 ·exact AE ..
theorem ti(P:List ByteArray)(a:ByteArray):(fT P a).length≤4+8*a.size:=by
 have:=uW P a
 unfold fT;cases decide (0≤fd P a)<;>simp only[N6,Oa,NO,aa,cj,Oc]<;>omega
theorem pP(P:List ByteArray)(c l:Int)(a b:ByteArray)(p r m:Int)(ha:a.size=4)(hb:b.size=4)(j:Nat):(fk P c l a b p r m j).length≤200:=by
 have:=yI c;have:=yA l;have:=zx p r;have:=yE m;have:=ti P a;have:=ti P b
 unfold fk
 split<;>(try simp only[NO,Oc])<;>omega
theorem kG{c l:Int}{a b:ByteArray}{p r m:Int}(h:uv c l a b p r m=true):(0≤c∧c≤255)∧(0≤l∧l≤255)∧a.size=4∧b.size=4∧(0≤p∧p≤65535)∧(0≤r∧r≤65535)∧(0≤m∧m≤4095):=by
 unfold uv at h
 simp only[NX,NY,fS]at h
 exact h
theorem EF(n:Nat)(bl:List aj)(es:List (Nat×Nat))(ro:Nat):ab T (n+1) (.n8 116) [] ⟨bl,es,ro⟩=some (.ptr bl.length 0 0 0,⟨bl++[.box [.aB 0 [] true,Rv,Rv]],es,ro⟩):=by
 refine eH Ef ?_
 simp only[BV,go_sem,simprocAttr]
abbrev lU(bl:List aj)(P:List ByteArray)(fl:Bool)(h:List SV)(bs:List Bool):List aj:=bl++[.box [.aB 1 (fx P) fl],.box h,gB (bl.length+4) bs,.box [.ptr (bl.length+2) 0 0 0],wA bs,
 .arr 0 1 [[.fn 117 [.ptr (bl.length+3) 0 0 0,.ptr (bl.length+1) 0 0 0]],[.fn 120 [.ptr (bl.length+1) 0 0 0,.ptr (bl.length+3) 0 0 0]],[.fn 122 [.ptr (bl.length+3) 0 0 0,.ptr bl.length 0 0 0,.ptr (bl.length+1) 0 0 0]],[.fn 124 [.ptr (bl.length+3) 0 0 0,.ptr bl.length 0 0 0,.ptr (bl.length+1) 0 0 0]],[.fn 125 [.ptr (bl.length+3) 0 0 0,.ptr (bl.length+1) 0 0 0]],[.fn 127 [.ptr (bl.length+1) 0 0 0,.ptr (bl.length+3) 0 0 0]]] true]
theorem LF(n:Nat)(bl:List aj)(es:List (Nat×Nat))(ro:Nat)(P:List ByteArray)(fl:Bool)(c l:Int)(a b:ByteArray)(p r m:Int)(hP:P.length≤8)(hh:uv c l a b p r m=true) :
 ab T (n+6) (.n8 70) [.aB 1 (fx P) fl,.agg (hd c l a b p r m)] ⟨bl,es,ro⟩=some (.ptr (bl.length+2) 0 0 0,⟨lU bl P fl (hd c l a b p r m) (fk P c l a b p r m 6),es++List.replicate (nb (fk P c l a b p r m 6).length+1) (bl.length+2,bl.length+5),ro⟩):=by
 obtain⟨hc,hl,ha,hb,hp,hr,hm⟩:=kG hh
 refine eH Mp ?_
 have h116:=fun bl es ro=>EF (n+4) bl es ro
 simp only[Ly,go_sem,simprocAttr,h116,a8,aF,bb,aZ,aP,aN,aO,aM,cu,bK,cx,bH,bI,bN,bn,bJ,bk,bm,aS,bp,ew,eu,NR,NO,N9,Nat.reduceMod,Nat.reduceDiv]
 obtain⟨X5,hX5⟩:∃X:aj,X=.arr 0 1 [[.fn 117 [.ptr (bl.length+3) 0 0 0,.ptr (bl.length+1) 0 0 0]],[.fn 120 [.ptr (bl.length+1) 0 0 0,.ptr (bl.length+3) 0 0 0]],[.fn 122 [.ptr (bl.length+3) 0 0 0,.ptr bl.length 0 0 0,.ptr (bl.length+1) 0 0 0]],[.fn 124 [.ptr (bl.length+3) 0 0 0,.ptr bl.length 0 0 0,.ptr (bl.length+1) 0 0 0]],[.fn 125 [.ptr (bl.length+3) 0 0 0,.ptr (bl.length+1) 0 0 0]],[.fn 127 [.ptr (bl.length+1) 0 0 0,.ptr (bl.length+3) 0 0 0]]] true:=⟨_,rfl⟩
 have hW:∀B,lU bl P fl (hd c l a b p r m) B=bl++[.box [.aB 1 (fx P) fl],.box (hd c l a b p r m),gB (bl.length+4) B,.box [.ptr (bl.length+2) 0 0 0],wA B,X5]:=fun B=>by rw[hX5]
 have hlen:=pP P c l a b p r m ha hb
 have hA:∀x2 x4,bl.length+4<(bl++[aj.box [.aB 1 (fx P) fl],.box (hd c l a b p r m),x2,.box [.ptr (bl.length+2) 0 0 0],x4,X5]).length:=fun x2 x4=>by rw[NO];simp
 have q0:∀es,ab T (n+5) (.fn 117) [.ptr (bl.length+3) 0 0 0,.ptr (bl.length+1) 0 0 0] ⟨lU bl P fl (hd c l a b p r m) (fk P c l a b p r m 0),es,min ro bl.length⟩=some (.ax [],⟨lU bl P fl (hd c l a b p r m) (fk P c l a b p r m 1),es++gk (bl.length+2) (bl.length+4) (fk P c l a b p r m 0) (mh c).length,min ro bl.length⟩):=fun es=>by
  have h:=K7 (bl++[.box [.aB 1 (fx P) fl],.box (hd c l a b p r m),.dead,.box [.ptr (bl.length+2) 0 0 0],.dead,X5]) (bl.length+2) (bl.length+4) (min ro bl.length) es (fk P c l a b p r m 0) (by omega) (hA ..) (by omega) (bl.length+3) (bl.length+1) (aF ..) (by omega) (by omega) c l a b p r m (aF ..) (by omega) (by omega) (by have:=hlen 0;omega) (n+1) hc
  rw[hW,hW]
  simp only[gH,nr]at h
  exact h
 have k0:List.replicate (nb (fk P c l a b p r m 0).length) (bl.length+2,bl.length+5)++gk (bl.length+2) (bl.length+4) (fk P c l a b p r m 0) (mh c).length=List.replicate (nb (fk P c l a b p r m 1).length) (bl.length+2,bl.length+5):=by
  rw[←vf (bl.length+2) (bl.length+4),←vf (bl.length+2) (bl.length+4),bW (by simp)]
  congr 1
  exact OY _
 have q1:∀es,ab T (n+5) (.fn 120) [.ptr (bl.length+1) 0 0 0,.ptr (bl.length+3) 0 0 0] ⟨lU bl P fl (hd c l a b p r m) (fk P c l a b p r m 1),es,min ro bl.length⟩=some (.ax [],⟨lU bl P fl (hd c l a b p r m) (fk P c l a b p r m 2),es++gk (bl.length+2) (bl.length+4) (fk P c l a b p r m 1) (ob l).length,min ro bl.length⟩):=fun es=>by
  have h:=HZ (bl++[.box [.aB 1 (fx P) fl],.box (hd c l a b p r m),.dead,.box [.ptr (bl.length+2) 0 0 0],.dead,X5]) (bl.length+2) (bl.length+4) (min ro bl.length) es (fk P c l a b p r m 1) (by omega) (hA ..) (by omega) (bl.length+3) (bl.length+1) (aF ..) (by omega) (by omega) c l a b p r m (aF ..) (by omega) (by omega) (by have:=hlen 1;omega) (n+1) hl
  rw[hW,hW]
  simp only[gH,nr]at h
  exact h
 have k1:List.replicate (nb (fk P c l a b p r m 1).length) (bl.length+2,bl.length+5)++gk (bl.length+2) (bl.length+4) (fk P c l a b p r m 1) (ob l).length=List.replicate (nb (fk P c l a b p r m 2).length) (bl.length+2,bl.length+5):=by
  rw[←vf (bl.length+2) (bl.length+4),←vf (bl.length+2) (bl.length+4),bW (by simp)]
  congr 1
  exact(NO ..).symm
 have q2:∀es,ab T (n+5) (.fn 122) [.ptr (bl.length+3) 0 0 0,.ptr bl.length 0 0 0,.ptr (bl.length+1) 0 0 0] ⟨lU bl P fl (hd c l a b p r m) (fk P c l a b p r m 2),es,min ro bl.length⟩=some (.ax [],⟨lU bl P fl (hd c l a b p r m) (fk P c l a b p r m 3),es++gk (bl.length+2) (bl.length+4) (fk P c l a b p r m 2) (fT P a).length,min ro bl.length⟩):=fun es=>by
  have h:=I1 (bl++[.box [.aB 1 (fx P) fl],.box (hd c l a b p r m),.dead,.box [.ptr (bl.length+2) 0 0 0],.dead,X5]) (bl.length+2) (bl.length+4) (min ro bl.length) es (fk P c l a b p r m 2) (by omega) (hA ..) (by omega) (bl.length+3) (bl.length+1) (aF ..) (by omega) (by omega) c l a b p r m (aF ..) (by omega) (by omega) (by have:=hlen 2;omega) n bl.length P fl (a8 ..) (by omega) (by omega) hP (by omega)
  rw[hW,hW]
  simp only[gH,nr]at h
  exact h
 have k2:List.replicate (nb (fk P c l a b p r m 2).length) (bl.length+2,bl.length+5)++gk (bl.length+2) (bl.length+4) (fk P c l a b p r m 2) (fT P a).length=List.replicate (nb (fk P c l a b p r m 3).length) (bl.length+2,bl.length+5):=by
  rw[←vf (bl.length+2) (bl.length+4),←vf (bl.length+2) (bl.length+4),bW (by simp)]
  congr 1
  exact(NO ..).symm
 have q3:∀es,ab T (n+5) (.fn 124) [.ptr (bl.length+3) 0 0 0,.ptr bl.length 0 0 0,.ptr (bl.length+1) 0 0 0] ⟨lU bl P fl (hd c l a b p r m) (fk P c l a b p r m 3),es,min ro bl.length⟩=some (.ax [],⟨lU bl P fl (hd c l a b p r m) (fk P c l a b p r m 4),es++gk (bl.length+2) (bl.length+4) (fk P c l a b p r m 3) (fT P b).length,min ro bl.length⟩):=fun es=>by
  have h:=Kf (bl++[.box [.aB 1 (fx P) fl],.box (hd c l a b p r m),.dead,.box [.ptr (bl.length+2) 0 0 0],.dead,X5]) (bl.length+2) (bl.length+4) (min ro bl.length) es (fk P c l a b p r m 3) (by omega) (hA ..) (by omega) (bl.length+3) (bl.length+1) (aF ..) (by omega) (by omega) c l a b p r m (aF ..) (by omega) (by omega) (by have:=hlen 3;omega) n bl.length P fl (a8 ..) (by omega) (by omega) hP (by omega)
  rw[hW,hW]
  simp only[gH,nr]at h
  exact h
 have k3:List.replicate (nb (fk P c l a b p r m 3).length) (bl.length+2,bl.length+5)++gk (bl.length+2) (bl.length+4) (fk P c l a b p r m 3) (fT P b).length=List.replicate (nb (fk P c l a b p r m 4).length) (bl.length+2,bl.length+5):=by
  rw[←vf (bl.length+2) (bl.length+4),←vf (bl.length+2) (bl.length+4),bW (by simp)]
  congr 1
  exact(NO ..).symm
 have q4:∀es,ab T (n+5) (.fn 125) [.ptr (bl.length+3) 0 0 0,.ptr (bl.length+1) 0 0 0] ⟨lU bl P fl (hd c l a b p r m) (fk P c l a b p r m 4),es,min ro bl.length⟩=some (.ax [],⟨lU bl P fl (hd c l a b p r m) (fk P c l a b p r m 5),es++gk (bl.length+2) (bl.length+4) (fk P c l a b p r m 4) (pT p r).length,min ro bl.length⟩):=fun es=>by
  have h:=Ky (bl++[.box [.aB 1 (fx P) fl],.box (hd c l a b p r m),.dead,.box [.ptr (bl.length+2) 0 0 0],.dead,X5]) (bl.length+2) (bl.length+4) (min ro bl.length) es (fk P c l a b p r m 4) (by omega) (hA ..) (by omega) (bl.length+3) (bl.length+1) (aF ..) (by omega) (by omega) c l a b p r m (aF ..) (by omega) (by omega) (by have:=hlen 4;omega) n hp hr
  rw[hW,hW]
  simp only[gH,nr]at h
  exact h
 have k4:List.replicate (nb (fk P c l a b p r m 4).length) (bl.length+2,bl.length+5)++gk (bl.length+2) (bl.length+4) (fk P c l a b p r m 4) (pT p r).length=List.replicate (nb (fk P c l a b p r m 5).length) (bl.length+2,bl.length+5):=by
  rw[←vf (bl.length+2) (bl.length+4),←vf (bl.length+2) (bl.length+4),bW (by simp)]
  congr 1
  exact(NO ..).symm
 have q5:∀es,ab T (n+5) (.fn 127) [.ptr (bl.length+1) 0 0 0,.ptr (bl.length+3) 0 0 0] ⟨lU bl P fl (hd c l a b p r m) (fk P c l a b p r m 5),es,min ro bl.length⟩=some (.ax [],⟨lU bl P fl (hd c l a b p r m) (fk P c l a b p r m 6),es++gk (bl.length+2) (bl.length+4) (fk P c l a b p r m 5) (l8 m).length,min ro bl.length⟩):=fun es=>by
  have h:=JD (bl++[.box [.aB 1 (fx P) fl],.box (hd c l a b p r m),.dead,.box [.ptr (bl.length+2) 0 0 0],.dead,X5]) (bl.length+2) (bl.length+4) (min ro bl.length) es (fk P c l a b p r m 5) (by omega) (hA ..) (by omega) (bl.length+3) (bl.length+1) (aF ..) (by omega) (by omega) c l a b p r m (aF ..) (by omega) (by omega) (by have:=hlen 5;omega) (n+1) hm
  rw[hW,hW]
  simp only[gH,nr]at h
  exact h
 have k5:List.replicate (nb (fk P c l a b p r m 5).length) (bl.length+2,bl.length+5)++gk (bl.length+2) (bl.length+4) (fk P c l a b p r m 5) (l8 m).length=List.replicate (nb (fk P c l a b p r m 6).length) (bl.length+2,bl.length+5):=by
  rw[←vf (bl.length+2) (bl.length+4),←vf (bl.length+2) (bl.length+4),bW (by simp)]
  congr 1
  exact(NO ..).symm
 refine bz (fun j=>([(5,.ptr (bl.length+3) 0 0 0),(17,.bG (bl.length+5) 0 0 6),(18,Ru 6),(19,Ru j)],⟨lU bl P fl (hd c l a b p r m) (fk P c l a b p r m j),List.replicate (nb (fk P c l a b p r m j).length) (bl.length+2,bl.length+5),min ro bl.length⟩)) (fun _=>True) 6 ?_ trivial ?_
 ·simp only[go_sem,simprocAttr,a8,aF,bb,aZ,aP,aN,aO,aM,cu,bK,cx,bH,bI,bN,bn,bJ,bk,bm,aS,bp,ew,eu,NR,NO,N9]
  have n0:nb 0=0:=by decide
  have p0:n9 []=[]:=rfl
  simp only[fk,gB,wA,gk,n0,p0,Oc,Ph,Po,PE]
  try rfl
 ·intro j hj _
  match j,hj with
  |0,_=>
   have hs1:bX 1=1:=by decide
   have hx:decide (((0:Nat):Int)<6)=true:=by decide
   have h0:decide ((0:Int)≤((0:Nat):Int))=true:=by decide
   simp only[go_sem,simprocAttr,a8,aF,bb,aZ,aP,aN,aO,aM,cu,bK,cx,bH,bI,bN,bn,bJ,bk,bm,aS,bp,ew,eu,NR,NO,N9,q0,k0,hs1,hx,h0,NU,NW,ite_self,if_true]
   exact⟨by omega,by first|trivial|rfl,trivial⟩
  |1,_=>
   have hs1:bX 2=2:=by decide
   have hx:decide (((1:Nat):Int)<6)=true:=by decide
   have h0:decide ((0:Int)≤((1:Nat):Int))=true:=by decide
   simp only[go_sem,simprocAttr,a8,aF,bb,aZ,aP,aN,aO,aM,cu,bK,cx,bH,bI,bN,bn,bJ,bk,bm,aS,bp,ew,eu,NR,NO,N9,q1,k1,hs1,hx,h0,NU,NW,ite_self,if_true]
   exact⟨by omega,by first|trivial|rfl,trivial⟩
  |2,_=>
   have hs1:bX 3=3:=by decide
   have hx:decide (((2:Nat):Int)<6)=true:=by decide
   have h0:decide ((0:Int)≤((2:Nat):Int))=true:=by decide
   simp only[go_sem,simprocAttr,a8,aF,bb,aZ,aP,aN,aO,aM,cu,bK,cx,bH,bI,bN,bn,bJ,bk,bm,aS,bp,ew,eu,NR,NO,N9,q2,k2,hs1,hx,h0,NU,NW,ite_self,if_true]
   exact⟨by omega,by first|trivial|rfl,trivial⟩
  |3,_=>
   have hs1:bX 4=4:=by decide
   have hx:decide (((3:Nat):Int)<6)=true:=by decide
   have h0:decide ((0:Int)≤((3:Nat):Int))=true:=by decide
   simp only[go_sem,simprocAttr,a8,aF,bb,aZ,aP,aN,aO,aM,cu,bK,cx,bH,bI,bN,bn,bJ,bk,bm,aS,bp,ew,eu,NR,NO,N9,q3,k3,hs1,hx,h0,NU,NW,ite_self,if_true]
   exact⟨by omega,by first|trivial|rfl,trivial⟩
  |4,_=>
   have hs1:bX 5=5:=by decide
   have hx:decide (((4:Nat):Int)<6)=true:=by decide
   have h0:decide ((0:Int)≤((4:Nat):Int))=true:=by decide
   simp only[go_sem,simprocAttr,a8,aF,bb,aZ,aP,aN,aO,aM,cu,bK,cx,bH,bI,bN,bn,bJ,bk,bm,aS,bp,ew,eu,NR,NO,N9,q4,k4,hs1,hx,h0,NU,NW,ite_self,if_true]
   exact⟨by omega,by first|trivial|rfl,trivial⟩
  |5,_=>
   have hs1:bX 6=6:=by decide
   have hx:decide (((5:Nat):Int)<6)=true:=by decide
   have h0:decide ((0:Int)≤((5:Nat):Int))=true:=by decide
   simp only[go_sem,simprocAttr,a8,aF,bb,aZ,aP,aN,aO,aM,cu,bK,cx,bH,bI,bN,bn,bJ,bk,bm,aS,bp,ew,eu,NR,NO,N9,q5,k5,hs1,hx,h0,NU,NW,ite_self,if_true]
   exact⟨by omega,by first|trivial|rfl,trivial⟩
  |6,_=>
   have hx:decide (((6:Nat):Int)<6)=false:=by decide
   simp only[go_sem,simprocAttr,a8,aF,bb,aZ,aP,aN,aO,aM,cu,bK,cx,bH,bI,bN,bn,bJ,bk,bm,aS,bp,ew,eu,NR,NO,N9,hx]
end F
namespace F
theorem MO(L:List aj)(W A ro:Nat)(es:List (Nat×Nat))(bs:List Bool)(hWA:W<A)(hA:A<L.length)(n:Nat):ab T (n+1) (.fn 71) [.ptr W 0 0 0] (gH L W A bs es ro)=some (.ax [.str (fv bs),Rv],gH L W A bs es ro):=by
 refine ao It (bQ (by simp[SV.refs.au,SV.refs])) ?_
 have ht:List.take (nb bs.length) (n9 bs)=n9 bs:=OR (by rw[di];exact NV _)
 have hl:decide (nb bs.length≤(n9 bs).length)=true:=NN (by rw[di];exact NV _)
 have hl2:decide (nb bs.length≤nb bs.length)=true:=NN (NV _)
 have l6:decide (L.length≤L.length)=true:=NN (NV _)
 have gw:=fun x y=>gw hWA hA x y
 have ga:=fun x y=>ga hWA hA x y
 simp only[GK,go_sem,simprocAttr,gw,ga,gt,l6,NZ,ht,hl,hl2,toB_pkS,fv]
theorem Fm(n:Nat)(bl:List aj)(es:List (Nat×Nat))(ro:Nat)(P:List ByteArray)(fl:Bool)(h:List SV)(bs:List Bool):ab T (n+1) (.fn 71) [.ptr (bl.length+2) 0 0 0] ⟨lU bl P fl h bs,es,ro⟩=some (.ax [.str (fv bs),Rv],⟨lU bl P fl h bs,es,ro⟩):=by
 obtain⟨X5,hX5⟩:∃X:aj,lU bl P fl h bs=bl++[.box [.aB 1 (fx P) fl],.box h,gB (bl.length+4) bs,.box [.ptr (bl.length+2) 0 0 0],wA bs,X]:=⟨_,rfl⟩
 have h:=MO (bl++[.box [.aB 1 (fx P) fl],.box h,.dead,.box [.ptr (bl.length+2) 0 0 0],.dead,X5]) (bl.length+2) (bl.length+4) ro es bs (by omega) (by rw[NO];simp) n
 rw[hX5]
 simp only[gH,nr]at h
 exact h
def ld(P:List ByteArray)(c l:Int)(a b:ByteArray)(p r m:Int):List Bool:=fk P c l a b p r m 6
def JX(P:List ByteArray)(c l:Int)(a b:ByteArray)(p r m:Int):SV:=bif th P&&uv c l a b p r m then .ax [.str (fv (ld P c l a b p r m)),Rv]else .ax [.str .empty,Ru 1]
theorem kH{P:List ByteArray}(h:th P=true):P.length≤8:=by
 unfold th at h;simp only[NX,NY]at h;exact h.1
theorem MR(n:Nat)(H:ae)(P:List ByteArray)(fl:Bool)(c l:Int)(a b:ByteArray)(p r m:Int)(hP:P.length≤1000)(hq:∀q∈P,q.size≤9223372036854775807) :
 ab T (n+7) (.fn 27) [.aB 1 (fx P) fl,.agg (hd c l a b p r m)] H=some (JX P c l a b p r m,H):=by
 refine aw MD (by rfl) ?_
 have h68:=fun H=>Lu (n+1) H P fl hP hq
 have h69:=fun H=>LO (n+4) H c l a b p r m
 unfold JX
 cases hC:th P with
 |false=>
  rw[hC]at h68
  simp only[GA,av,go_sem,simprocAttr,h68]
  rfl
 |true=>
  rw[hC]at h68
  cases hH:uv c l a b p r m with
  |false=>
   rw[hH]at h69
   simp only[GA,av,go_sem,simprocAttr,h68,h69]
   rfl
  |true=>
   rw[hH]at h69
   have h70:∀es ro,ab T (n+6) (.n8 70) [.aB 1 (fx P) fl,.agg (hd c l a b p r m)] ⟨[.box (hd c l a b p r m)],es,ro⟩=some (.ptr 3 0 0 0,⟨lU [.box (hd c l a b p r m)] P fl (hd c l a b p r m) (ld P c l a b p r m),es++List.replicate (nb (ld P c l a b p r m).length+1) (3,6),ro⟩):=fun es ro=>
    LF n [.box (hd c l a b p r m)] es ro P fl c l a b p r m (kH hC) hH
   have h71:∀es ro,ab T (n+6) (.fn 71) [.ptr 3 0 0 0] ⟨lU [.box (hd c l a b p r m)] P fl (hd c l a b p r m) (ld P c l a b p r m),es,ro⟩=some (.ax [.str (fv (ld P c l a b p r m)),Rv],⟨lU [.box (hd c l a b p r m)] P fl (hd c l a b p r m) (ld P c l a b p r m),es,ro⟩):=fun es ro=>
    Fm (n+5) [.box (hd c l a b p r m)] es ro P fl (hd c l a b p r m) _
   obtain⟨Z,hZ⟩:∃Z,lU [.box (hd c l a b p r m)] P fl (hd c l a b p r m) (ld P c l a b p r m)=Z:=⟨_,rfl⟩
   rw[hZ]at h70 h71
   simp only[GA,av,go_sem,simprocAttr,h68,h69,h70,h71]
end F
section
namespace F
section
variable(b0:aj)(tl:List aj)(es:List (Nat×Nat))(s:ByteArray)(hs:s.size≤1000)
include hs
theorem rU(n w v p:Nat)(hA:At s p (bits w v))(hv:v<2 ^ w)(h1:1≤w)(hw:w≤62) :
 ab T (n+3) (.fn 79) [.ptr 1 0 0 0,Ru w] (dH b0 s (p,0) tl es)=some (Ru v,dH b0 s (p+w,0) tl es):=by
 have h:=Lo b0 tl es s n w (p,0) hs (by have:=hA.2;simp only at this ⊢;omega) h1 hw
 rw[eb hA,O7 hv]at h
 exact h
theorem rF(n p:Nat)(f:Bool)(hA:At s p (bits 1 (bt f))) :
 ab T (n+3) (.fn 146) [.ptr 1 0 0 0] (dH b0 s (p,0) tl es)=some (.bool f,dH b0 s (p+1,0) tl es):=by
 have h:=D9 b0 tl es s n (p,0) hs (by have:=hA.2;simp only at this ⊢;omega)
 rw[eb hA]at h
 have e:decide (bt f%2 ^ 1=1)=f:=by cases f<;>rfl
 rw[e]at h
 exact h
end
theorem rG{s x:ByteArray}{p:Nat}:∀m,At s p (cT x m)→∀j,j<m→At s (p+8*j) (bits 8 ((x.data[j]?).getD 0).toNat)
 |0,_,j,hj=>by omega
 |m+1,h,j,hj=>by
  obtain⟨h1,h2⟩:=aX (show At s p (cT x m++bits 8 ((x.data[m]?).getD 0).toNat)from h)
  rw[cj]at h2
  rcases Oh j m with hlt|hge
  ·exact rG m h1 j hlt
  ·rw[show j=m by omega];exact h2
theorem qH{a:ByteArray}{k:Nat}{y:UInt8}(h:a.data[k]?=some y):a.extract 0 k++⟨[y].toArray⟩=a.extract 0 (k+1):=by
 obtain⟨hk,hy⟩:=N8.1 h
 apply ByteArray.ext
 rw[Qw,Qi,Qi,Array.extract_succ_right (by omega) hk,hy]
 simp
theorem qM{a:ByteArray}{k:Nat}(h:a.size=k):a.extract 0 k=a:=by subst h;exact ByteArray.extract_zero_size
end F
end
section
namespace F
theorem Eh{a:ByteArray}{k j:Nat}(h:j<a.size-k):(a.extract k a.size).data[j]?=a.data[k+j]?:=by
 have h':j<a.data.size-k:=h
 rw[Qi,Qf,if_pos (by show j<min a.data.size a.data.size-k;omega)]
theorem Lf{a:ByteArray}{k:Nat}(h:k≤a.size):(a.extract 0 k).size=k:=by rw[P4];omega
section
variable(b0:aj)(tl:List aj)(es:List (Nat×Nat))(s:ByteArray)(hs:s.size≤1000)
include hs
theorem Eu(n p:Nat)(P:List ByteArray)(fl:Bool)(a:ByteArray)(hC:th P=true)(ha:a.size=4)(hA:At s p (fT P a)) :
 ab T (n+4) (.fn 147) [.ptr 1 0 0 0,.aB 1 (fx P) fl] (dH b0 s (p,0) tl es)=some (.ax [.str a,.bool true],dH b0 s (p+(fT P a).length,0) tl es):=by
 refine ao JG (by rfl) ?_
 have hP:=kH hC
 have hN:decide (max 2 0≤tl.length+1+1)=true:=NN (by omega)
 have l2:decide (2≤tl.length+1+1)=true:=NN (by omega)
 have lq:decide (0≤tl.length+1+1)=true:=NN (by omega)
 rcases Av P a with hf|⟨i,q,hi,hf,hq,hp⟩
 ·have hd:decide ((0:Int)≤fd P a)=false:=NQ (by omega)
  have hc:j0 P a=a:=by unfold j0;rw[hd];rfl
  have hE:fT P a=bits 1 0++cT a a.size:=by unfold fT;rw[hd,hc];rfl
  rw[hE]at hA⊢
  obtain⟨A1,A2⟩:=aX hA
  rw[aa]at A2
  have r1:=fun es=>rF b0 tl es s hs n p false A1
  obtain⟨k0,hk0⟩:∃k0:Nat,k0=0:=⟨0,rfl⟩
  have hlen:p+(bits 1 0++cT a a.size).length=p+1+8*(4-k0):=by rw[NO,aa,cj,ha];omega
  rw[hlen]
  obtain⟨p0,hp0⟩:∃p0,p+1=p0:=⟨_,rfl⟩
  rw[hp0]at r1 A2⊢
  have hB:∀j,j<4-k0→∀y,a.data[k0+j]?=some y→At s (p0+8*j) (bits 8 y.toNat):=fun j hj y hy=>by
   have h:=rG a.size A2 j (by omega)
   rw[hk0,OY]at hy
   rw[hy]at h;exact h
  have h00:a.extract 0 k0=⟨[].toArray⟩:=by rw[hk0];apply ByteArray.ext;simp
  simp only[Bf,go_sem,simprocAttr,r1]
  refine bz (fun j=>([(0,.ptr 1 0 0 0),(6,.str (a.extract 0 (k0+j)))],⟨b0::rX s (p0+8*j) 0::tl,[],0⟩)) (fun _=>True) (4-k0) ?_ trivial ?_
  ·simp only[go_sem,simprocAttr,hN,l2,h00,Ph,Rg]
   try rfl
  ·intro j hj _
   have hsz:(a.extract 0 (k0+j)).size=k0+j:=Lf (by omega)
   rcases Oh j (4-k0)with hlt|hge
   ·have hx:decide (((k0+j:Nat):Int)<4)=true:=NN (by omega)
    have hx2:decide (k0+j≤4611686018427387903)=true:=NN (by omega)
    obtain⟨y,hy⟩:∃y,a.data[k0+j]?=some y:=⟨_,Od (show k0+j<a.size by omega)⟩
    have hyl:=Pw y
    have r8:∀es,ab T (n+3) (.fn 79) [.ptr 1 0 0 0,Ru 8] ⟨b0::rX s (p0+8*j) 0::tl,es,0⟩=some (Ru (y.toNat:Nat),⟨b0::rX s (p0+8*(j+1)) 0::tl,es,0⟩):=fun es=>rU b0 tl es s hs n 8 y.toNat (p0+8*j) (hB j hlt y hy) (by omega) (by omega) (by omega)
    have hu:IntKind.u8.wrap (y.toNat:Int)=(y.toNat:Int):=jK (by omega) (by omega)
    have hy2:UInt8.ofNat y.toNat=y:=UInt8.ofNat_toNat
    have hE2:=qH hy
    have h1:ByteArray.size ⟨[y].toArray⟩=1:=rfl
    simp only[go_sem,simprocAttr,hsz,hx,r8,hu,toB_cons,toB_nil,hy2,Oo,h1,hx2,hE2,hN,l2]
    exact⟨hlt,by first|trivial|rfl,trivial⟩
   ·obtain rfl:j=4-k0:=by omega
    have hx:decide (((k0+(4-k0):Nat):Int)<4)=false:=NQ (by omega)
    have hx3:decide ((a.size:Int)<4)=false:=NQ (by omega)
    have hfu:a.extract 0 (k0+(4-k0))=a:=qM (by omega)
    simp only[go_sem,simprocAttr,hsz,hx,hx3,hN,l2,hfu]
 ·have hd:decide ((0:Int)≤fd P a)=true:=NN (by omega)
  have hc:j0 P a=a.extract q.size a.size:=by unfold j0;rw[hd,hf,N0,hq];rfl
  have hE:fT P a=bits 1 1++(bits 3 i++cT (a.extract q.size a.size) (a.extract q.size a.size).size):=by unfold fT;rw[hd,hf,N0,hc];rfl
  have hpq:q.size≤a.size∧a.extract 0 q.size=q:=by unfold qc at hp;simp only[NX,NY]at hp;exact hp
  have hxs:(a.extract q.size a.size).size=4-q.size:=by rw[P4];omega
  rw[hE]at hA⊢
  obtain⟨A1,A2⟩:=aX hA
  rw[aa]at A2
  obtain⟨A2,A3⟩:=aX A2
  rw[aa]at A3
  have hlen:p+(bits 1 1++(bits 3 i++cT (a.extract q.size a.size) (a.extract q.size a.size).size)).length=p+1+3+8*(4-q.size):=by rw[NO,NO,aa,aa,cj,hxs];omega
  rw[hlen]
  obtain⟨p0,hp0⟩:∃p0,p+1+3=p0:=⟨_,rfl⟩
  rw[hp0]at A3⊢
  have hB:∀j,j<4-q.size→∀y,a.data[q.size+j]?=some y→At s (p0+8*j) (bits 8 y.toNat):=fun j hj y hy=>by
   have h:=rG _ A3 j (by omega)
   rw[Eh (by omega),hy]at h;exact h
  have d0:decide ((0:Int)≤(i:Int))=true:=NN (by omega)
  have d1:decide ((i:Int)<(P.length:Int))=true:=NN (by omega)
  have d2:decide ((P.length:Int)≤(i:Int))=false:=NQ (by omega)
  have hL2:(fx P)[i]?=some [.str q]:=by simp[fx,hq]
  have h00:a.extract 0 q.size=q:=hpq.2
  have hr2:∀es,ab T (n+3) (.fn 79) [.ptr 1 0 0 0,Ru 3] (dH b0 s (p+1,0) tl es)=some (Ru (i:Nat),dH b0 s (p0,0) tl es):=fun es=>by
   have:=rU b0 tl es s hs n 3 i (p+1) A2 (by omega) (by omega) (by omega)
   rw[hp0]at this;exact this
  have hr1:∀es,ab T (n+3) (.fn 146) [.ptr 1 0 0 0] (dH b0 s (p,0) tl es)=some (.bool true,dH b0 s (p+1,0) tl es):=fun es=>rF b0 tl es s hs n p true A1
  simp only[Bf,go_sem,simprocAttr,hr1,hr2,d0,d1,d2,hL2,Oe,N0]
  refine bz (fun j=>([(0,.ptr 1 0 0 0),(6,.str (a.extract 0 (q.size+j)))],⟨b0::rX s (p0+8*j) 0::tl,[],0⟩)) (fun _=>True) (4-q.size) ?_ trivial ?_
  ·simp only[go_sem,simprocAttr,hN,l2,h00,Ph,Rg]
   try rfl
  ·intro j hj _
   have hsz:(a.extract 0 (q.size+j)).size=q.size+j:=Lf (by omega)
   rcases Oh j (4-q.size)with hlt|hge
   ·have hx:decide (((q.size+j:Nat):Int)<4)=true:=NN (by omega)
    have hx2:decide (q.size+j≤4611686018427387903)=true:=NN (by omega)
    obtain⟨y,hy⟩:∃y,a.data[q.size+j]?=some y:=⟨_,Od (show q.size+j<a.size by omega)⟩
    have hyl:=Pw y
    have r8:∀es,ab T (n+3) (.fn 79) [.ptr 1 0 0 0,Ru 8] ⟨b0::rX s (p0+8*j) 0::tl,es,0⟩=some (Ru (y.toNat:Nat),⟨b0::rX s (p0+8*(j+1)) 0::tl,es,0⟩):=fun es=>rU b0 tl es s hs n 8 y.toNat (p0+8*j) (hB j hlt y hy) (by omega) (by omega) (by omega)
    have hu:IntKind.u8.wrap (y.toNat:Int)=(y.toNat:Int):=jK (by omega) (by omega)
    have hy2:UInt8.ofNat y.toNat=y:=UInt8.ofNat_toNat
    have hE2:=qH hy
    have h1:ByteArray.size ⟨[y].toArray⟩=1:=rfl
    simp only[go_sem,simprocAttr,hsz,hx,r8,hu,toB_cons,toB_nil,hy2,Oo,h1,hx2,hE2,hN,l2]
    exact⟨hlt,by first|trivial|rfl,trivial⟩
   ·obtain rfl:j=4-q.size:=by omega
    have hx:decide (((q.size+(4-q.size):Nat):Int)<4)=false:=NQ (by omega)
    have hx3:decide ((a.size:Int)<4)=false:=NQ (by omega)
    have hfu:a.extract 0 (q.size+(4-q.size))=a:=qM (by omega)
    simp only[go_sem,simprocAttr,hsz,hx,hx3,hN,l2,hfu]
end
end F
end
section
namespace F
section
variable(b0:aj)(tl:List aj)(es:List (Nat×Nat))(s:ByteArray)(hs:s.size≤1000)
include hs
theorem rI(n w p:Nat)(x:Int)(hA:At s p (bits w x.toNat))(h0:0≤x)(hv:x<2 ^ w)(h1:1≤w)(hw:w≤62) :
 ab T (n+3) (.fn 79) [.ptr 1 0 0 0,Ru w] (dH b0 s (p,0) tl es)=some (Ru x,dH b0 s (p+w,0) tl es):=by
 obtain⟨v,rfl⟩:∃v:Nat,x=(v:Int):=⟨x.toNat,by omega⟩
 have q6:v<2 ^ w:=by
  have:((2:Int) ^ w)=((2 ^ w:Nat):Int):=by rw[PV];rfl
  omega
 exact rU b0 tl es s hs n w v p hA q6 h1 hw
theorem Ke(n q:Nat)(p r:Int)(hp:0≤p∧p≤65535)(hr:0≤r∧r≤65535)(hA:At s q (pT p r)) :
 ab T (n+4) (.fn 148) [.ptr 1 0 0 0] (dH b0 s (q,0) tl es)=some (.ax [Ru p,Ru r],dH b0 s (q+(pT p r).length,0) tl es):=by
 refine ao I9 (by rfl) ?_
 have lq:decide (0≤tl.length+1+1)=true:=NN (by omega)
 have hnp:=mA hp.1 hp.2
 have hnr:=mA hr.1 hr.2
 unfold pT at hA⊢
 cases hn:mu p&&mu r with
 |true=>
  rw[NX]at hn
  rw[hn.1]at hnp;rw[hn.2]at hnr
  have hp2:=fS.1 hnp.symm;have hr2:=fS.1 hnr.symm
  rw[hn.1,hn.2,O5,N6]at hA
  obtain⟨A1,A2⟩:=aX hA
  obtain⟨A2,A3⟩:=aX A2
  simp only[aa]at A2 A3
  have r1:∀es,ab T (n+3) (.fn 79) [.ptr 1 0 0 0,Ru 2] (dH b0 s (q,0) tl es)=some (Ru 3,dH b0 s (q+2,0) tl es):=fun es=>rI b0 tl es s hs n 2 q 3 A1 (by omega) (by omega) (by omega) (by omega)
  have r2:∀es,ab T (n+3) (.fn 79) [.ptr 1 0 0 0,Ru 4] (dH b0 s (q+2,0) tl es)=some (Ru (p-61616),dH b0 s (q+2+4,0) tl es):=fun es=>rI b0 tl es s hs n 4 (q+2) _ A2 (by omega) (by omega) (by omega) (by omega)
  have r3:∀es,ab T (n+3) (.fn 79) [.ptr 1 0 0 0,Ru 4] (dH b0 s (q+2+4,0) tl es)=some (Ru (r-61616),dH b0 s (q+2+4+4,0) tl es):=fun es=>rI b0 tl es s hs n 4 (q+2+4) _ A3 (by omega) (by omega) (by omega) (by omega)
  have w1:bX (p-61616+61616)=p:=by rw[an (by omega) (by omega)];omega
  have w2:bX (r-61616+61616)=r:=by rw[an (by omega) (by omega)];omega
  simp only[xO,go_sem,simprocAttr,r1,r2,r3,w1,w2,lq,N6,NO,aa,N9]
 |false=>
  rw[hn,Oa]at hA
  by_cases hpr:p=r
  ·rw[NN hpr,N6]at hA
   rw[NN hpr]
   subst hpr
   obtain⟨A1,A2⟩:=aX hA
   simp only[aa]at A2
   have r1:∀es,ab T (n+3) (.fn 79) [.ptr 1 0 0 0,Ru 2] (dH b0 s (q,0) tl es)=some (Ru 1,dH b0 s (q+2,0) tl es):=fun es=>rI b0 tl es s hs n 2 q 1 A1 (by omega) (by omega) (by omega) (by omega)
   have r2:∀es,ab T (n+3) (.fn 79) [.ptr 1 0 0 0,Ru 16] (dH b0 s (q+2,0) tl es)=some (Ru p,dH b0 s (q+2+16,0) tl es):=fun es=>rI b0 tl es s hs n 16 (q+2) _ A2 (by omega) (by omega) (by omega) (by omega)
   simp only[xO,go_sem,simprocAttr,r1,r2,lq,N6,Oa,NO,aa,N9]
  ·rw[NQ hpr,Oa]at hA
   rw[NQ hpr]
   cases hi:dp (p-61440) 255 with
   |true=>
    rw[hi,N6]at hA
    have hi2:=fS.1 hi
    obtain⟨A1,A2⟩:=aX hA
    obtain⟨A2,A3⟩:=aX A2
    simp only[aa]at A2 A3
    have r1:∀es,ab T (n+3) (.fn 79) [.ptr 1 0 0 0,Ru 2] (dH b0 s (q,0) tl es)=some (Ru 2,dH b0 s (q+2,0) tl es):=fun es=>rI b0 tl es s hs n 2 q 2 A1 (by omega) (by omega) (by omega) (by omega)
    have r2:∀es,ab T (n+3) (.fn 79) [.ptr 1 0 0 0,Ru 8] (dH b0 s (q+2,0) tl es)=some (Ru (p-61440),dH b0 s (q+2+8,0) tl es):=fun es=>rI b0 tl es s hs n 8 (q+2) _ A2 (by omega) (by omega) (by omega) (by omega)
    have r3:∀es,ab T (n+3) (.fn 79) [.ptr 1 0 0 0,Ru 16] (dH b0 s (q+2+8,0) tl es)=some (Ru r,dH b0 s (q+2+8+16,0) tl es):=fun es=>rI b0 tl es s hs n 16 (q+2+8) _ A3 (by omega) (by omega) (by omega) (by omega)
    have w1:bX (p-61440+61440)=p:=by rw[an (by omega) (by omega)];omega
    simp only[xO,go_sem,simprocAttr,r1,r2,r3,w1,lq,N6,Oa,NO,aa,N9]
   |false=>
    rw[hi,Oa]at hA
    obtain⟨A1,A2⟩:=aX hA
    obtain⟨A2,A3⟩:=aX A2
    simp only[aa]at A2 A3
    have r1:∀es,ab T (n+3) (.fn 79) [.ptr 1 0 0 0,Ru 2] (dH b0 s (q,0) tl es)=some (Rv,dH b0 s (q+2,0) tl es):=fun es=>rI b0 tl es s hs n 2 q 0 A1 (by omega) (by omega) (by omega) (by omega)
    have r2:∀es,ab T (n+3) (.fn 79) [.ptr 1 0 0 0,Ru 16] (dH b0 s (q+2,0) tl es)=some (Ru p,dH b0 s (q+2+16,0) tl es):=fun es=>rI b0 tl es s hs n 16 (q+2) _ A2 (by omega) (by omega) (by omega) (by omega)
    have r3:∀es,ab T (n+3) (.fn 79) [.ptr 1 0 0 0,Ru 16] (dH b0 s (q+2+16,0) tl es)=some (Ru r,dH b0 s (q+2+16+16,0) tl es):=fun es=>rI b0 tl es s hs n 16 (q+2+16) _ A3 (by omega) (by omega) (by omega) (by omega)
    simp only[xO,go_sem,simprocAttr,r1,r2,r3,lq,N6,Oa,NO,aa,N9]
end
theorem KQ(n:Nat)(b0:aj)(tl:List aj)(es:List (Nat×Nat))(ro p:Nat)(s:ByteArray)(e:Int):ab T (n+1) (.fn 149) [.ptr 1 0 0 0] ⟨b0::rX s p e::tl,es,ro⟩=some (Ru e,⟨b0::rX s p e::tl,es,ro⟩):=by
 refine ao Ks (by rfl) ?_
 have lq:decide (0≤tl.length+1+1)=true:=NN (by omega)
 simp only[Ff,go_sem,simprocAttr,lq]
end F
end
namespace F
theorem o6(l:Int)(h:0≤l∧l≤255):(∃v:Nat,v<4∧ob l=bits 2 v∧([[SV.int .i64 (-1)],[Ru 1],[Ru 64],[Ru 255]]:List (List SV))[v]?=some [Ru l]∧0<l)∨ob l=bits 2 0++bits 8 l.toNat:=by
 unfold ob
 by_cases e1:l=1
 ·subst e1;exact .inl ⟨1,by omega,rfl,rfl,by omega⟩
 by_cases e2:l=64
 ·subst e2;exact .inl ⟨2,by omega,rfl,rfl,by omega⟩
 by_cases e3:l=255
 ·subst e3;exact .inl ⟨3,by omega,rfl,rfl,by omega⟩
 rw[NQ e1,NQ e2,NQ e3]
 exact .inr rfl
theorem MG(n:Nat)(b0:aj)(es:List (Nat×Nat))(s:ByteArray)(hs:s.size≤1000)(P:List ByteArray)(fl:Bool)(c l:Int)(a b:ByteArray)(p r m:Int)(hC:th P=true)(hh:uv c l a b p r m=true)(hA:At s 0 (ld P c l a b p r m)) :
 ab T (n+5) (.fn 86) [.aB 1 (fx P) fl,.ptr 1 0 0 0] (dH b0 s (0,0) [] es)=some (.ax [.agg (hd c l a b p r m),.bool true],dH b0 s ((ld P c l a b p r m).length,0) [] es):=by
 obtain⟨hc,hl,ha,hb,hp,hr,hm⟩:=kG hh
 refine ao M9 (by rfl) ?_
 have h121:=fun H=>Ft (n+3) H
 have hE:ld P c l a b p r m=mh c++ob l++fT P a++fT P b++pT p r++l8 m:=rfl
 rw[hE]at hA⊢
 obtain⟨hA,A5⟩:=aX hA
 obtain⟨hA,A4⟩:=aX hA
 obtain⟨hA,A3⟩:=aX hA
 obtain⟨hA,A2⟩:=aX hA
 obtain⟨A0,A1⟩:=aX hA
 obtain⟨p1,hp1⟩:∃x,0+(mh c).length=x:=⟨_,rfl⟩
 obtain⟨p2,hp2⟩:∃x,0+(mh c++ob l).length=x:=⟨_,rfl⟩
 obtain⟨p3,hp3⟩:∃x,0+(mh c++ob l++fT P a).length=x:=⟨_,rfl⟩
 obtain⟨p4,hp4⟩:∃x,0+(mh c++ob l++fT P a++fT P b).length=x:=⟨_,rfl⟩
 obtain⟨p5,hp5⟩:∃x,0+(mh c++ob l++fT P a++fT P b++pT p r).length=x:=⟨_,rfl⟩
 obtain⟨p6,hp6⟩:∃x,(mh c++ob l++fT P a++fT P b++pT p r++l8 m).length=x:=⟨_,rfl⟩
 rw[hp1]at A1;rw[hp2]at A2;rw[hp3]at A3;rw[hp4]at A4;rw[hp5]at A5;rw[hp6]
 simp only[NO]at hp1 hp2 hp3 hp4 hp5 hp6
 have q3:∀tl es,ab T (n+4) (.fn 147) [.ptr 1 0 0 0,.aB 1 (fx P) fl] (dH b0 s (p2,0) tl es)=some (.ax [.str a,.bool true],dH b0 s (p3,0) tl es):=fun tl es=>by
  have h:=Eu b0 tl es s hs n p2 P fl a hC ha A2
  rw[show p2+(fT P a).length=p3 by omega]at h;exact h
 have q4:∀tl es,ab T (n+4) (.fn 147) [.ptr 1 0 0 0,.aB 1 (fx P) fl] (dH b0 s (p3,0) tl es)=some (.ax [.str b,.bool true],dH b0 s (p4,0) tl es):=fun tl es=>by
  have h:=Eu b0 tl es s hs n p3 P fl b hC hb A3
  rw[show p3+(fT P b).length=p4 by omega]at h;exact h
 have q5:∀tl es,ab T (n+4) (.fn 148) [.ptr 1 0 0 0] (dH b0 s (p4,0) tl es)=some (.ax [Ru p,Ru r],dH b0 s (p5,0) tl es):=fun tl es=>by
  have h:=Ke b0 tl es s hs n p4 p r hp hr A4
  rw[show p4+(pT p r).length=p5 by omega]at h;exact h
 have hz1:=hp1
 have q7:=fun tl es ro=>KQ (n+3) b0 tl es ro p6 s 0
 by_cases hc0:c=0
 ·have k1:mh c=bits 1 0:=by unfold mh;rw[NN hc0];rfl
  rw[k1]at A0 hp1
  rw[aa]at hp1
  have f1:∀tl es,ab T (n+4) (.fn 146) [.ptr 1 0 0 0] (dH b0 s (0,0) tl es)=some (.bool false,dH b0 s (p1,0) tl es):=fun tl es=>by
   have h:=rF b0 tl es s hs (n+1) 0 false A0
   rw[show 0+1=p1 by omega]at h;exact h
  rw[hc0]
  rcases o6 l hl with⟨v,hv,k2,hv2,hl0⟩|k2
  ·rw[k2]at A1
   have t1:∀tl es,ab T (n+4) (.fn 79) [.ptr 1 0 0 0,Ru 2] (dH b0 s (p1,0) tl es)=some (Ru (v:Nat),dH b0 s (p2,0) tl es):=fun tl es=>by
    have h:=rU b0 tl es s hs (n+1) 2 v p1 A1 (by omega) (by omega) (by omega)
    rw[show p1+2=p2 by have:=congrArg List.length k2;rw[aa]at this;omega]at h;exact h
   have d1:decide ((0:Int)≤(v:Int))=true:=NN (by omega)
   have d2:decide ((v:Int)<4)=true:=NN (by omega)
   have d3:decide (l<0)=false:=NQ (by omega)
   by_cases hm0:63<m
   ·have k3:l8 m=bits 1 1++bits 12 m.toNat:=by unfold l8;rw[NN hm0];rfl
    rw[k3]at A5
    obtain⟨B5,B6⟩:=aX A5
    rw[aa]at B6
    have u1:∀tl es,ab T (n+4) (.fn 146) [.ptr 1 0 0 0] (dH b0 s (p5,0) tl es)=some (.bool true,dH b0 s (p5+1,0) tl es):=fun tl es=>rF b0 tl es s hs (n+1) p5 true B5
    have u2:∀tl es,ab T (n+4) (.fn 79) [.ptr 1 0 0 0,Ru 12] (dH b0 s (p5+1,0) tl es)=some (Ru m,dH b0 s (p6,0) tl es):=fun tl es=>by
     have h:=rI b0 tl es s hs (n+1) 12 (p5+1) m B6 (by omega) (by omega) (by omega) (by omega)
     rw[show p5+1+12=p6 by have:=congrArg List.length k3;rw[NO,aa,aa]at this;omega]at h;exact h
    simp only[xZ,go_sem,simprocAttr,h121,q3,q4,q5,q7,f1,t1,d1,d2,d3,hv2,N0,u1,u2]
   ·have k3:l8 m=bits 1 0++bits 6 m.toNat:=by unfold l8;rw[NQ hm0];rfl
    rw[k3]at A5
    obtain⟨B5,B6⟩:=aX A5
    rw[aa]at B6
    have u1:∀tl es,ab T (n+4) (.fn 146) [.ptr 1 0 0 0] (dH b0 s (p5,0) tl es)=some (.bool false,dH b0 s (p5+1,0) tl es):=fun tl es=>rF b0 tl es s hs (n+1) p5 false B5
    have u2:∀tl es,ab T (n+4) (.fn 79) [.ptr 1 0 0 0,Ru 6] (dH b0 s (p5+1,0) tl es)=some (Ru m,dH b0 s (p6,0) tl es):=fun tl es=>by
     have h:=rI b0 tl es s hs (n+1) 6 (p5+1) m B6 (by omega) (by omega) (by omega) (by omega)
     rw[show p5+1+6=p6 by have:=congrArg List.length k3;rw[NO,aa,aa]at this;omega]at h;exact h
    simp only[xZ,go_sem,simprocAttr,h121,q3,q4,q5,q7,f1,t1,d1,d2,d3,hv2,N0,u1,u2]
  ·rw[k2]at A1
   obtain⟨B2,B3⟩:=aX A1
   rw[aa]at B3
   have t1:∀tl es,ab T (n+4) (.fn 79) [.ptr 1 0 0 0,Ru 2] (dH b0 s (p1,0) tl es)=some (Rv,dH b0 s (p1+2,0) tl es):=fun tl es=>rI b0 tl es s hs (n+1) 2 p1 0 B2 (by omega) (by omega) (by omega) (by omega)
   have t2:∀tl es,ab T (n+4) (.fn 79) [.ptr 1 0 0 0,Ru 8] (dH b0 s (p1+2,0) tl es)=some (Ru l,dH b0 s (p2,0) tl es):=fun tl es=>by
    have h:=rI b0 tl es s hs (n+1) 8 (p1+2) l B3 (by omega) (by omega) (by omega) (by omega)
    rw[show p1+2+8=p2 by have:=congrArg List.length k2;rw[NO,aa,aa]at this;omega]at h;exact h
   by_cases hm0:63<m
   ·have k3:l8 m=bits 1 1++bits 12 m.toNat:=by unfold l8;rw[NN hm0];rfl
    rw[k3]at A5
    obtain⟨B5,B6⟩:=aX A5
    rw[aa]at B6
    have u1:∀tl es,ab T (n+4) (.fn 146) [.ptr 1 0 0 0] (dH b0 s (p5,0) tl es)=some (.bool true,dH b0 s (p5+1,0) tl es):=fun tl es=>rF b0 tl es s hs (n+1) p5 true B5
    have u2:∀tl es,ab T (n+4) (.fn 79) [.ptr 1 0 0 0,Ru 12] (dH b0 s (p5+1,0) tl es)=some (Ru m,dH b0 s (p6,0) tl es):=fun tl es=>by
     have h:=rI b0 tl es s hs (n+1) 12 (p5+1) m B6 (by omega) (by omega) (by omega) (by omega)
     rw[show p5+1+12=p6 by have:=congrArg List.length k3;rw[NO,aa,aa]at this;omega]at h;exact h
    simp only[xZ,go_sem,simprocAttr,h121,q3,q4,q5,q7,f1,t1,t2,u1,u2]
   ·have k3:l8 m=bits 1 0++bits 6 m.toNat:=by unfold l8;rw[NQ hm0];rfl
    rw[k3]at A5
    obtain⟨B5,B6⟩:=aX A5
    rw[aa]at B6
    have u1:∀tl es,ab T (n+4) (.fn 146) [.ptr 1 0 0 0] (dH b0 s (p5,0) tl es)=some (.bool false,dH b0 s (p5+1,0) tl es):=fun tl es=>rF b0 tl es s hs (n+1) p5 false B5
    have u2:∀tl es,ab T (n+4) (.fn 79) [.ptr 1 0 0 0,Ru 6] (dH b0 s (p5+1,0) tl es)=some (Ru m,dH b0 s (p6,0) tl es):=fun tl es=>by
     have h:=rI b0 tl es s hs (n+1) 6 (p5+1) m B6 (by omega) (by omega) (by omega) (by omega)
     rw[show p5+1+6=p6 by have:=congrArg List.length k3;rw[NO,aa,aa]at this;omega]at h;exact h
    simp only[xZ,go_sem,simprocAttr,h121,q3,q4,q5,q7,f1,t1,t2,u1,u2]
 ·have k1:mh c=bits 1 1++bits 8 c.toNat:=by unfold mh;rw[NQ hc0];rfl
  rw[k1]at A0 hp1
  rw[NO,aa,aa]at hp1
  obtain⟨B0,B1⟩:=aX A0
  rw[aa]at B1
  have f1:∀tl es,ab T (n+4) (.fn 146) [.ptr 1 0 0 0] (dH b0 s (0,0) tl es)=some (.bool true,dH b0 s (1,0) tl es):=fun tl es=>rF b0 tl es s hs (n+1) 0 true B0
  have f2:∀tl es,ab T (n+4) (.fn 79) [.ptr 1 0 0 0,Ru 8] (dH b0 s (1,0) tl es)=some (Ru c,dH b0 s (p1,0) tl es):=fun tl es=>by
   have h:=rI b0 tl es s hs (n+1) 8 1 c B1 (by omega) (by omega) (by omega) (by omega)
   rw[show 1+8=p1 by omega]at h;exact h
  rcases o6 l hl with⟨v,hv,k2,hv2,hl0⟩|k2
  ·rw[k2]at A1
   have t1:∀tl es,ab T (n+4) (.fn 79) [.ptr 1 0 0 0,Ru 2] (dH b0 s (p1,0) tl es)=some (Ru (v:Nat),dH b0 s (p2,0) tl es):=fun tl es=>by
    have h:=rU b0 tl es s hs (n+1) 2 v p1 A1 (by omega) (by omega) (by omega)
    rw[show p1+2=p2 by have:=congrArg List.length k2;rw[aa]at this;omega]at h;exact h
   have d1:decide ((0:Int)≤(v:Int))=true:=NN (by omega)
   have d2:decide ((v:Int)<4)=true:=NN (by omega)
   have d3:decide (l<0)=false:=NQ (by omega)
   by_cases hm0:63<m
   ·have k3:l8 m=bits 1 1++bits 12 m.toNat:=by unfold l8;rw[NN hm0];rfl
    rw[k3]at A5
    obtain⟨B5,B6⟩:=aX A5
    rw[aa]at B6
    have u1:∀tl es,ab T (n+4) (.fn 146) [.ptr 1 0 0 0] (dH b0 s (p5,0) tl es)=some (.bool true,dH b0 s (p5+1,0) tl es):=fun tl es=>rF b0 tl es s hs (n+1) p5 true B5
    have u2:∀tl es,ab T (n+4) (.fn 79) [.ptr 1 0 0 0,Ru 12] (dH b0 s (p5+1,0) tl es)=some (Ru m,dH b0 s (p6,0) tl es):=fun tl es=>by
     have h:=rI b0 tl es s hs (n+1) 12 (p5+1) m B6 (by omega) (by omega) (by omega) (by omega)
     rw[show p5+1+12=p6 by have:=congrArg List.length k3;rw[NO,aa,aa]at this;omega]at h;exact h
    simp only[xZ,go_sem,simprocAttr,h121,q3,q4,q5,q7,f1,f2,t1,d1,d2,d3,hv2,N0,u1,u2]
   ·have k3:l8 m=bits 1 0++bits 6 m.toNat:=by unfold l8;rw[NQ hm0];rfl
    rw[k3]at A5
    obtain⟨B5,B6⟩:=aX A5
    rw[aa]at B6
    have u1:∀tl es,ab T (n+4) (.fn 146) [.ptr 1 0 0 0] (dH b0 s (p5,0) tl es)=some (.bool false,dH b0 s (p5+1,0) tl es):=fun tl es=>rF b0 tl es s hs (n+1) p5 false B5
    have u2:∀tl es,ab T (n+4) (.fn 79) [.ptr 1 0 0 0,Ru 6] (dH b0 s (p5+1,0) tl es)=some (Ru m,dH b0 s (p6,0) tl es):=fun tl es=>by
     have h:=rI b0 tl es s hs (n+1) 6 (p5+1) m B6 (by omega) (by omega) (by omega) (by omega)
     rw[show p5+1+6=p6 by have:=congrArg List.length k3;rw[NO,aa,aa]at this;omega]at h;exact h
    simp only[xZ,go_sem,simprocAttr,h121,q3,q4,q5,q7,f1,f2,t1,d1,d2,d3,hv2,N0,u1,u2]
  ·rw[k2]at A1
   obtain⟨B2,B3⟩:=aX A1
   rw[aa]at B3
   have t1:∀tl es,ab T (n+4) (.fn 79) [.ptr 1 0 0 0,Ru 2] (dH b0 s (p1,0) tl es)=some (Rv,dH b0 s (p1+2,0) tl es):=fun tl es=>rI b0 tl es s hs (n+1) 2 p1 0 B2 (by omega) (by omega) (by omega) (by omega)
   have t2:∀tl es,ab T (n+4) (.fn 79) [.ptr 1 0 0 0,Ru 8] (dH b0 s (p1+2,0) tl es)=some (Ru l,dH b0 s (p2,0) tl es):=fun tl es=>by
    have h:=rI b0 tl es s hs (n+1) 8 (p1+2) l B3 (by omega) (by omega) (by omega) (by omega)
    rw[show p1+2+8=p2 by have:=congrArg List.length k2;rw[NO,aa,aa]at this;omega]at h;exact h
   by_cases hm0:63<m
   ·have k3:l8 m=bits 1 1++bits 12 m.toNat:=by unfold l8;rw[NN hm0];rfl
    rw[k3]at A5
    obtain⟨B5,B6⟩:=aX A5
    rw[aa]at B6
    have u1:∀tl es,ab T (n+4) (.fn 146) [.ptr 1 0 0 0] (dH b0 s (p5,0) tl es)=some (.bool true,dH b0 s (p5+1,0) tl es):=fun tl es=>rF b0 tl es s hs (n+1) p5 true B5
    have u2:∀tl es,ab T (n+4) (.fn 79) [.ptr 1 0 0 0,Ru 12] (dH b0 s (p5+1,0) tl es)=some (Ru m,dH b0 s (p6,0) tl es):=fun tl es=>by
     have h:=rI b0 tl es s hs (n+1) 12 (p5+1) m B6 (by omega) (by omega) (by omega) (by omega)
     rw[show p5+1+12=p6 by have:=congrArg List.length k3;rw[NO,aa,aa]at this;omega]at h;exact h
    simp only[xZ,go_sem,simprocAttr,h121,q3,q4,q5,q7,f1,f2,t1,t2,u1,u2]
   ·have k3:l8 m=bits 1 0++bits 6 m.toNat:=by unfold l8;rw[NQ hm0];rfl
    rw[k3]at A5
    obtain⟨B5,B6⟩:=aX A5
    rw[aa]at B6
    have u1:∀tl es,ab T (n+4) (.fn 146) [.ptr 1 0 0 0] (dH b0 s (p5,0) tl es)=some (.bool false,dH b0 s (p5+1,0) tl es):=fun tl es=>rF b0 tl es s hs (n+1) p5 false B5
    have u2:∀tl es,ab T (n+4) (.fn 79) [.ptr 1 0 0 0,Ru 6] (dH b0 s (p5+1,0) tl es)=some (Ru m,dH b0 s (p6,0) tl es):=fun tl es=>by
     have h:=rI b0 tl es s hs (n+1) 6 (p5+1) m B6 (by omega) (by omega) (by omega) (by omega)
     rw[show p5+1+6=p6 by have:=congrArg List.length k3;rw[NO,aa,aa]at this;omega]at h;exact h
    simp only[xZ,go_sem,simprocAttr,h121,q3,q4,q5,q7,f1,f2,t1,t2,u1,u2]
end F
namespace F
theorem AF{x y:ByteArray}{i:Nat}(h:i<8*x.size):bA (x++y) i=bA x i:=by
 unfold bA
 have h1:i/8<x.data.size:=by have:x.data.size=x.size:=rfl;omega
 rw[Qw,Array.getElem?_append,if_pos h1]
theorem tp(bs:List Bool)(D:ByteArray):At (fv bs++D) 0 bs:=by
 have hsz:bs.length≤8*(fv bs).size:=by rw[dq];unfold nb;omega
 refine⟨?_,by rw[Pv];omega⟩
 have h:=v7 bs
 unfold sl at h⊢
 refine Eq.trans ?_ h
 apply Qd
 intro i hi
 rw[Of]at hi
 rw[AF (by omega)]
theorem wN(x D:ByteArray):uB (x++D) x=.ax [.str D,.bool true]:=by
 have h1:(x++D).extract 0 x.size=x:=ByteArray.extract_append_eq_left rfl
 have h2:(x++D).extract x.size (x++D).size=D:=ByteArray.extract_append_eq_right rfl Pv
 have h3:qc x (x++D)=true:=by unfold qc;rw[h1,NN rfl,NN (show x.size≤(x++D).size by rw[Pv];omega)];rfl
 unfold uB
 rw[h3,h2];rfl
theorem M6(n:Nat)(H:ae)(P:List ByteArray)(fl:Bool)(c l:Int)(a b:ByteArray)(p r m:Int)(D:ByteArray)(hC:th P=true)(hq:∀q∈P,q.size≤9223372036854775807)(hh:uv c l a b p r m=true)(hD:D.size≤900) :
 ab T (n+7) (.fn 36) [.aB 1 (fx P) fl,.str (fv (ld P c l a b p r m)++D)] H=some (.ax [.agg (hd c l a b p r m),.str D,Rv],H):=by
 refine aw Ml (by rfl) ?_
 obtain⟨_,_,ha,hb,_⟩:=kG hh
 have h68:=fun H=>Lu (n+1) H P fl (by have:=kH hC;omega) hq
 rw[hC]at h68
 have h69:=fun H=>LO (n+4) H c l a b p r m
 rw[hh]at h69
 have hA:=tp (ld P c l a b p r m) D
 have hcut:=wN (fv (ld P c l a b p r m)) D
 have hs:(fv (ld P c l a b p r m)++D).size≤1000:=by
  rw[Pv,dq]
  have:=pP P c l a b p r m ha hb 6
  unfold ld nb;omega
 have h87:=fun H=>Mh (n+3) H (fv (ld P c l a b p r m)++D) (fv (ld P c l a b p r m))
 rw[hcut]at h87
 obtain⟨s,hsd⟩:∃s,fv (ld P c l a b p r m)++D=s:=⟨_,rfl⟩
 rw[hsd]at hA hs h87⊢
 have h75:=fun es b0=>KP (n+5) es b0 s hs
 have h86:∀es b0,ab T (n+6) (.fn 86) [.aB 1 (fx P) fl,.ptr 1 0 0 0] ⟨[b0,.box [.str s,Rv,Rv]],es,0⟩=some (.ax [.agg (hd c l a b p r m),.bool true],⟨[b0,.box [.str s,Ru (ld P c l a b p r m).length,Rv]],es,0⟩):=fun es b0=>MG (n+1) b0 es s hs P fl c l a b p r m hC hh hA
 obtain⟨HB,hHB⟩:∃HB,ld P c l a b p r m=HB:=⟨_,rfl⟩
 have h70:∀x y z es,ab T (n+6) (.n8 70) [.aB 1 (fx P) fl,.agg (hd c l a b p r m)] ⟨[x,y,z],es,0⟩=some (.ptr 5 0 0 0,⟨lU [x,y,z] P fl (hd c l a b p r m) HB,es++List.replicate (nb HB.length+1) (5,8),0⟩):=fun x y z es=>by
  rw[←hHB];exact LF n [x,y,z] es 0 P fl c l a b p r m (kH hC) hh
 have h71:∀x y z es,ab T (n+6) (.fn 71) [.ptr 5 0 0 0] ⟨lU [x,y,z] P fl (hd c l a b p r m) HB,es,0⟩=some (.ax [.str (fv HB),Rv],⟨lU [x,y,z] P fl (hd c l a b p r m) HB,es,0⟩):=fun x y z es=>
  Fm (n+5) [x,y,z] es 0 P fl (hd c l a b p r m) _
 rw[hHB]at h87 h86
 have hsz:decide ((65536:Int)<(s.size:Int))=false:=NQ (by omega)
 simp only[lU,Oy,PR,Og,Oc,Nat.reduceAdd]at h71
 simp only[LC,av,go_sem,simprocAttr,h68,h69,h75,h86,h87,hsz,h70,h71]
end F
namespace F
structure Fit(c z m K:Nat):Prop where
 c1:1≤c
 c2:c≤32
 z2:z≤4095
 m1:1≤m
 m2:m≤120
 K0:K=(c-1)*m
 K1:K<z
 K2:z≤K+m
def sX(c z m K i:Nat):Nat:=if i+1=c then z-K else m
def s7(c z m:Nat):Nat:=if c=1 then z else m
abbrev fg(i c z:Nat)(x:ByteArray):List SV:=[Ru 9,Ru i,Ru c,Ru z,.str x]
theorem Fit.one{c z m K:Nat}(h:Fit c z m K)(h1:c=1):K=0:=by rw[h.K0,h1];simp
theorem Fit.cm{c z m K:Nat}(h:Fit c z m K):c*m=K+m:=by
 have:=h.c1
 rw[h.K0]
 obtain⟨d,rfl⟩:∃d,c=d+1:=⟨c-1,by omega⟩
 rw[QI,Ox,Pq]
theorem Fit.Ma{c z m K:Nat}(h:Fit c z m K)(h1:c≠1):m≤K:=by
 have:=h.c1
 rw[h.K0]
 exact Nat.le_mul_of_pos_left _ (by omega)
theorem Ce(n:Nat)(H:ae)(i c z m K:Nat)(x:ByteArray)(hF:Fit c z m K)(hi:i<c)(hx:x.size=sX c z m K i) :
 ab T (n+1) (.fn 142) [.agg (fg i c z x)] H=some (Ru (s7 c z m),H):=by
 refine aw JH (by rfl) ?_
 have h1:=hF.c1;have h2:=hF.c2;have h3:=hF.z2;have h4:=hF.m1;have h5:=hF.m2;have h6:=hF.K1;have h7:=hF.K2
 have wc:bX ((c:Int)-1)=((c-1:Nat):Int):=by rw[an (by omega) (by omega)];omega
 have a1:decide ((z:Int)<1)=false:=NQ (by omega)
 have a2:decide ((4095:Int)<(z:Int))=false:=NQ (by omega)
 have a3:decide ((c:Int)<1)=false:=NQ (by omega)
 have a4:decide ((32:Int)<(c:Int))=false:=NQ (by omega)
 have a5:decide ((i:Int)<0)=false:=NQ (by omega)
 have a6:decide ((c:Int)≤(i:Int))=false:=NQ (by omega)
 have a7:decide ((x.size:Int)<1)=false:=NQ (by rw[hx];unfold sX;split<;>omega)
 by_cases hc1:c=1
 ·have hK:=hF.one hc1
  have b1:decide ((c:Int)=1)=true:=NN (by omega)
  have hn:x.size=z:=by rw[hx];unfold sX;rw[if_pos (by omega)];omega
  have b2:decide ((120:Int)<(x.size:Int))=false:=NQ (by omega)
  have b3:decide ((x.size:Int)=(z:Int))=true:=NN (by omega)
  have hp:s7 c z m=x.size:=by unfold s7;rw[if_pos hc1,hn]
  rw[hp]
  simp only[zI,av,go_sem,simprocAttr,wc,a1,a2,a3,a4,a5,a6,a7,b1,b2,b3]
 ·have hKm:=hF.Ma hc1
  have b1:decide ((c:Int)=1)=false:=NQ (by omega)
  have hp:s7 c z m=m:=by unfold s7;rw[if_neg hc1]
  rw[hp]
  have g1:((c-1:Nat):Int)*(m:Int)=(K:Int):=by rw[hF.K0,Qu]
  have g2:(c:Int)*(m:Int)=((K+m:Nat):Int):=by rw[←hF.cm,Qu]
  have e1:bX (K:Int)=(K:Int):=an (by omega) (by omega)
  have e2:bX ((K+m:Nat):Int)=((K+m:Nat):Int):=an (by omega) (by omega)
  have d1:decide ((120:Int)<(m:Int))=false:=NQ (by omega)
  have d2:decide ((z:Int)≤(K:Int))=false:=NQ (by omega)
  have d3:decide (((K+m:Nat):Int)<(z:Int))=false:=NQ (by omega)
  by_cases hl:i+1=c
  ·have hn:x.size=z-K:=by rw[hx];unfold sX;rw[if_pos hl]
   have b2:decide ((i:Int)=((c-1:Nat):Int))=true:=NN (by omega)
   have b3:decide ((z:Int)≤(x.size:Int))=false:=NQ (by omega)
   have b4:bX ((z:Int)-(x.size:Int))=(K:Int):=by rw[an (by omega) (by omega)];omega
   have b5:((K:Int).tmod ((c-1:Nat):Int))=0:=by rw[←g1];exact Int.mul_tmod_right ..
   have b6:bX ((K:Int).tdiv ((c-1:Nat):Int))=(m:Int):=by
    rw[←g1,Int.mul_tdiv_cancel_left _ (by omega)];exact an (by omega) (by omega)
   have b7:decide ((((c-1:Nat):Int))=0)=false:=NQ (by omega)
   have b8:decide ((m:Int)<(x.size:Int))=false:=NQ (by omega)
   simp only[zI,av,go_sem,simprocAttr,wc,a1,a2,a3,a4,a5,a6,a7,b1,b2,b3,b4,b5,b6,b7,b8,g1,g2,e1,e2,d1,d2,d3]
  ·have hn:x.size=m:=by rw[hx];unfold sX;rw[if_neg hl]
   have b2:decide ((i:Int)=((c-1:Nat):Int))=false:=NQ (by omega)
   have b8:decide ((m:Int)<(m:Int))=false:=NQ (by omega)
   have b9:decide ((m:Int)<1)=false:=NQ (by omega)
   rw[hn]at a7
   simp only[zI,av,go_sem,simprocAttr,wc,hn,a1,a2,a3,a4,a5,a6,a7,b1,b2,b8,b9,g1,g2,e1,e2,d1,d2,d3]
theorem Hb(n:Nat)(H:ae)(i c z m K:Nat)(x:ByteArray)(hF:Fit c z m K)(hi:i<c)(hx:x.size=sX c z m K i) :
 ab T (n+2) (.fn 80) [.agg (fg i c z x)] H=some (Rv,H):=by
 have h:=fun H=>Ce n H i c z m K x hF hi hx
 have h1:=hF.K1;have h4:=hF.m1
 have h0:decide (((s7 c z m:Nat):Int)=0)=false:=NQ (by unfold s7;split<;>omega)
 refine aw Mc (by rfl) ?_
 simp only[Lx,av,go_sem,simprocAttr,h,h0]
end F
namespace F
theorem A6{z m:Nat}(hz1:1≤z)(hz:z≤4095)(hm1:1≤m)(hm:m≤120)(hc:(z+m-1)/m≤32):Fit ((z+m-1)/m) z m (((z+m-1)/m-1)*m):=by
 have h1:(z+m-1)/m*m≤z+m-1:=Nat.div_mul_le_self _ _
 have h2:z+m-1<((z+m-1)/m+1)*m:=by
  have:=Nat.lt_mul_div_succ (z+m-1) (show 0<m by omega)
  rw[Qn]at this;exact this
 have h3:1≤(z+m-1)/m:=(Nat.le_div_iff_mul_le (by omega)).2 (by omega)
 obtain⟨d,hd⟩:∃d,(z+m-1)/m=d+1:=⟨(z+m-1)/m-1,by omega⟩
 rw[hd]at h1 h2 hc⊢
 rw[Ox,Pq]at h1
 rw[Ox,Ox,Pq]at h2
 exact⟨by omega,hc,hz,hm1,hm,rfl,by rw[QI];omega,by rw[QI];omega⟩
def jE(D:ByteArray)(m i:Nat):ByteArray:=D.extract (i*m) (min ((i+1)*m) D.size)
abbrev fo(D:ByteArray)(m c i:Nat):List SV:=fg i c D.size (jE D m i)
abbrev pD(D:ByteArray)(m c j:Nat):List (List SV):=(List.range j).map (fo D m c)
theorem vk(D:ByteArray)(m c j:Nat):pD D m c (j+1)=pD D m c j++[fo D m c j]:=by
 simp only[pD,Rc,QL,Ov,PG]
theorem kX(D:ByteArray)(m c j:Nat):(pD D m c j).length=j:=by simp[pD]
theorem fL{D:ByteArray}{m c K i:Nat}(hF:Fit c D.size m K)(hi:i<c):(jE D m i).size=sX c D.size m K i:=by
 have h1:=hF.K1;have h2:=hF.K2
 have hle:i*m≤K:=by rw[hF.K0];exact Om _ (by omega)
 have hs:(i+1)*m=i*m+m:=by rw[Ox,Pq]
 unfold jE sX
 rw[P4,hs]
 split
 ·rename_i hl
  have:i*m=K:=by rw[hF.K0,←hl];rfl
  omega
 ·rename_i hl
  have:i*m+m≤K:=by rw[←hs,hF.K0];exact Om _ (by omega)
  omega
theorem uC(D:ByteArray)(m c j:Nat):Still (pD D m c j):=fun cs hcs c hc=>by
 obtain⟨i,_,rfl⟩:=PM.1 hcs
 simp only[fo,fg,O9,Rk,or_false]at hc
 rcases hc with rfl|rfl|rfl|rfl|rfl<;>exact⟨by simp[SV.refs],fun N H d=>by simp[eg,SV.refs]⟩
theorem M3(n:Nat)(H:ae)(D:ByteArray)(m c K:Nat)(hF:Fit c D.size m K)(hc:(D.size+m-1)/m=c) :
 ab T (n+1) (.fn 29) [Ru 9,.str D,Ru m] H=some (.ax [.aB 5 (pD D m c c) false,Rv],H):=by
 refine aw MJ (by rfl) ?_
 have h1:=hF.c1;have h2:=hF.c2;have h3:=hF.z2;have h4:=hF.m1;have h5:=hF.m2;have h6:=hF.K1;have h7:=hF.K2;have hcm:=hF.cm
 have w1:bX (bX ((D.size:Int)+(m:Int))-1)=((D.size+m-1:Nat):Int):=by rw[an (n:=(D.size:Int)+(m:Int)) (by omega) (by omega),an (by omega) (by omega)];omega
 have w2:bX (((D.size+m-1:Nat):Int).tdiv (m:Int))=(c:Int):=by
  rw[Int.tdiv_eq_ediv_of_nonneg (by omega),←Int.natCast_ediv,hc];exact an (by omega) (by omega)
 have b1:decide ((m:Int)<1)=false:=NQ (by omega)
 have b2:decide ((120:Int)<(m:Int))=false:=NQ (by omega)
 have b3:decide (D=⟨⟨[]⟩⟩)=false:=NQ (fun h=>by rw[h]at h6;exact absurd h6 (by show ¬K<0;omega))
 have b4:decide ((4095:Int)<(D.size:Int))=false:=NQ (by omega)
 have b5:decide ((32:Int)<(c:Int))=false:=NQ (by omega)
 have b6:decide ((m:Int)=0)=false:=NQ (by omega)
 simp only[Ls,av,go_sem,simprocAttr,w1,w2,b1,b2,b3,b4,b5,b6]
 refine bz (fun j=>([(0,Ru 9),(1,.str D),(2,Ru m),(8,Ru c),(9,.bG 0 j 0 j),(43,Ru c),(44,Ru j)],⟨[.arr j 5 (pD D m c j) false],[],0⟩)) (fun _=>True) c ?_ trivial ?_
 ·simp only[go_sem,simprocAttr]
  try rfl
 ·intro j hj _
  rcases Oh j c with hlt|hge
  ·have hx:decide ((j:Int)<(c:Int))=true:=NN (by omega)
   have hs1:bX ((j:Int)+1)=((j+1:Nat):Int):=by rw[an (by omega) (by omega)];omega
   have hle:j*m≤K:=by rw[hF.K0];exact Om _ (by omega)
   have hs:(j+1)*m=j*m+m:=by rw[Ox,Pq]
   have m1:bX ((j:Int)*(m:Int))=((j*m:Nat):Int):=by rw[←Qu];exact an (by omega) (by omega)
   have m2:bX (((j+1:Nat):Int)*(m:Int))=(((j+1)*m:Nat):Int):=by rw[←Qu];exact an (by omega) (by omega)
   have hmin:min ((((j+1)*m:Nat)):Int) (D.size:Int)=((min ((j+1)*m) D.size:Nat):Int):=by omega
   obtain⟨M,hM⟩:∃M,min ((j+1)*m) D.size=M:=⟨_,rfl⟩
   have k1:decide ((0:Int)≤(M:Int))=true:=NN (by omega)
   have k2:decide ((M:Int)≤(D.size:Int))=true:=NN (by omega)
   have k3:decide (((j*m:Nat):Int)≤(M:Int))=true:=NN (by omega)
   have k4:decide ((0:Int)≤((j*m:Nat):Int))=true:=NN (by omega)
   have gb:=fun H X=>iO 5 H 0 j j X (pD D m c j) (kX ..)
   have hr:decide ((j+1)*48≤cf)=true:=NN (O0 (show(j+1)*48≤1000000 by omega) (by decide))
   have hL:pD D m c (j+1)=pD D m c j++[fg j c D.size (D.extract (j*m) M)]:=by rw[vk,←hM];rfl
   rw[hM]at hmin
   simp only[go_sem,simprocAttr,hx,hs1,m1,m2,hmin,k1,k2,k3,k4,gb,hr,hL,N0]
   exact⟨hlt,by first|trivial|rfl,trivial⟩
  ·obtain rfl:j=c:=by omega
   have hx:decide ((j:Int)<(j:Int))=false:=NQ (by omega)
   have hfz:=fun H=>(uC D m j j).fz 0 H 5 j j 5 false (kX ..)
   simp only[go_sem,simprocAttr,hx,hfz]
end F
namespace F
def lf(B j:Nat):List Int:=((List.range j).filter fun(i:Nat)=>!B.testBit i).map fun(i:Nat)=>(i:Int)
theorem qJ(B j:Nat):lf B (j+1)=lf B j++(bif B.testBit j then[]else[(j:Int)]):=by
 unfold lf
 rw[Rc,Oj,QL]
 congr 1
 cases h:B.testBit j<;>simp[h]
theorem tV(B j:Nat):(lf B j).length≤j:=by
 unfold lf
 rw[Oe]
 exact O0 (List.length_filter_le _ _) (PF PA)
theorem AQ(L M:List Int):iS (L++M)=iS L++iS M:=by simp[iS]
theorem LY(n:Nat)(H:ae)(c B:Nat)(hc1:1≤c)(hc:c≤32)(hB:B<2 ^ c) :
 ab T (n+1) (.fn 31) [Ru c,Ru B] H=some (.ax [.aB 1 (iS (lf B c)) false,Rv],H):=by
 refine aw Ms (by rfl) ?_
 have b1:decide ((c:Int)<1)=false:=NQ (by omega)
 have b2:decide ((32:Int)<(c:Int))=false:=NQ (by omega)
 have b3:decide ((B:Int)<0)=false:=NQ (by omega)
 have b4:((B:Int).fdiv (2 ^ min c 64))=0:=by rw[Pb (by omega),cZ,Nat.div_eq_of_lt hB];rfl
 have b5:decide ((0:Int)≤(c:Int))=true:=NN (by omega)
 have b6:decide ((c:Int)<0)=false:=NQ (by omega)
 simp only[LZ,av,go_sem,simprocAttr,b1,b2,b3,b4,b5,b6,N0]
 refine bz (fun j=>([(1,Ru B),(6,.bG 0 (lf B j).length 0 (lf B j).length),(24,Ru c),(25,Ru j)],⟨[.arr (lf B j).length 1 (iS (lf B j)) false],[],0⟩)) (fun _=>True) c ?_ trivial ?_
 ·simp only[go_sem,simprocAttr]
  try rfl
 ·intro j hj _
  rcases Oh j c with hlt|hge
  ·have hx:decide ((j:Int)<(c:Int))=true:=NN (by omega)
   have hs1:bX ((j:Int)+1)=((j+1:Nat):Int):=by rw[an (by omega) (by omega)];omega
   have h0:decide ((0:Int)≤(j:Int))=true:=NN (by omega)
   have hm:((B:Int).fdiv (2 ^ min j 64))=((B/2 ^ j:Nat):Int):=by rw[Pb (by omega),cZ]
   have ha:sb ((B:Int).fdiv (2 ^ min j 64)) 1=((bt (B.testBit j):Nat):Int):=by rw[hm,kE,sL];omega
   have hlen:=tV B j
   have hS:=qJ B j
   have gb:=fun H X=>iO 1 H 0 (lf B j).length (lf B j).length X (iS (lf B j)) kf
   have hr:decide (((lf B j).length+1)*8≤cf)=true:=NN (O0 (show((lf B j).length+1)*8≤1000000 by omega) (by decide))
   cases hb:B.testBit j with
   |true=>
    rw[hb]at ha hS
    rw[N6,OS]at hS
    have hd:decide (((bt true:Nat):Int)=0)=false:=by decide
    simp only[go_sem,simprocAttr,hx,hs1,h0,ha,hd,N0,hS]
    exact⟨hlt,by first|trivial|rfl,trivial⟩
   |false=>
    rw[hb]at ha hS
    have hd:decide (((bt false:Nat):Int)=0)=true:=by decide
    have hS1:iS (lf B (j+1))=iS (lf B j)++[[Ru (j:Int)]]:=by rw[hS,AQ];rfl
    have hS2:(lf B (j+1)).length=(lf B j).length+1:=by rw[hS,NO];rfl
    simp only[go_sem,simprocAttr,hx,hs1,h0,ha,hd,N0,gb,hr,hS1,hS2]
    exact⟨hlt,by first|trivial|rfl,trivial⟩
  ·obtain rfl:j=c:=by omega
   have hx:decide ((j:Int)<(j:Int))=false:=NQ (by omega)
   have hfz:=fun H=>(Still.ints (lf B j)).fz 0 H 5 (lf B j).length (lf B j).length 1 false kf
   simp only[go_sem,simprocAttr,hx,hfz]
theorem Ni(n:Nat)(bl:List aj)(es:List (Nat×Nat))(ro:Nat):ab T (n+1) (.n8 30) [Ru 1000] ⟨bl,es,ro⟩=some (.ax [.ptr (bl.length+1) 0 0 0,Rv],⟨bl++[.map [],.box [Ru 1000,Rv,.mp bl.length]],es,ro⟩):=by
 refine eH Mx ?_
 simp only[Lv,go_sem,simprocAttr,a8,aF,bb,aZ,aP,aN,aO,aM,cu,bK,cx,bH,bI,bN,bn,bJ,bk,bm,aS,bp,ew,eu,NR,NO,N9]
end F
namespace F
def uJ(i c z:Nat):List Bool:=bits 8 9++bits 5 i++bits 5 (c-1)++bits 12 z
def pc(i c z:Nat)(x:ByteArray):ByteArray:=fv (uJ i c z)++x
theorem tJ(i c z:Nat):(uJ i c z).length=30:=by unfold uJ;simp only[NO,aa]
theorem iA(i c z:Nat):(fv (uJ i c z)).size=4:=by rw[dq,tJ];rfl
theorem Mq(n:Nat)(H:ae)(i c z m K:Nat)(x:ByteArray)(hF:Fit c z m K)(hi:i<c)(hx:x.size=sX c z m K i) :
 ab T (n+4) (.fn 72) [.agg (fg i c z x)] H=some (.ax [.str (pc i c z x),Rv],H):=by
 refine aw MP (by rfl) ?_
 have h1:=hF.c1;have h2:=hF.c2;have h3:=hF.z2
 have h80:=fun H=>Hb (n+1) H i c z m K x hF hi hx
 have h116:=fun es b0=>Ga (n+2) es b0
 have wc:bX ((c:Int)-1)=((c-1:Nat):Int):=by rw[an (by omega) (by omega)];omega
 have a0:∀b0 es,ab T (n+3) (.fn 119) [.ptr 1 0 0 0,Ru 8,Ru 9] ⟨[b0,.box [.bG 2 0 0 0,Rv,Rv],.arr 0 1 [] false],es,0⟩=some (.ax [],wH b0 (bits 8 9) [] (es++[(1,3)])):=fun b0 es=>u4 b0 [] es [] n 8 9 (by omega) (by omega) (by omega) (by simp)
 have a1:∀b0 es,ab T (n+3) (.fn 119) [.ptr 1 0 0 0,Ru 5,Ru (i:Nat)] (wH b0 (bits 8 9) [] es)=some (.ax [],wH b0 (bits 8 9++bits 5 i) [] (es++ek (bits 8 9) 5)):=fun b0 es=>u4 b0 [] es _ n 5 i (by omega) (by omega) (by omega) (by simp only[NO,aa];omega)
 have a2:∀b0 es,ab T (n+3) (.fn 119) [.ptr 1 0 0 0,Ru 5,Ru ((c-1:Nat):Int)] (wH b0 (bits 8 9++bits 5 i) [] es)=some (.ax [],wH b0 (bits 8 9++bits 5 i++bits 5 (c-1)) [] (es++ek (bits 8 9++bits 5 i) 5)):=fun b0 es=>u4 b0 [] es _ n 5 (c-1) (by omega) (by omega) (by omega) (by simp only[NO,aa];omega)
 have a3:∀b0 es,ab T (n+3) (.fn 119) [.ptr 1 0 0 0,Ru 12,Ru (z:Nat)] (wH b0 (bits 8 9++bits 5 i++bits 5 (c-1)) [] es)=some (.ax [],wH b0 (uJ i c z) [] (es++ek (bits 8 9++bits 5 i++bits 5 (c-1)) 12)):=fun b0 es=>u4 b0 [] es _ n 12 z (by omega) (by omega) (by omega) (by simp only[NO,aa];omega)
 have h71:=fun b0 es=>L0 (n+2) b0 [] es (uJ i c z)
 have hsz:decide ((fv (uJ i c z)).size+x.size≤4611686018427387904)=true:=NN (by rw[iA,hx];unfold sX;have:=hF.m2;split<;>omega)
 simp only[Le,av,go_sem,simprocAttr,h80,h116,wc,a0,a1,a2,a3,h71,hsz,Nat.reduceMod,Nat.reduceDiv]
 rfl
theorem B4(bs:List Bool):yr (fv bs) (bs.length,0)=0:=by
 have hz:jm (fv bs) bs.length (8*(fv bs).size-bs.length)=0:=oT (fun i _=>by rw[sa];exact gg (by omega))
 unfold yr
 rw[if_pos rfl,if_neg (by rw[dq];unfold nb;omega),if_pos hz]
theorem MM(n:Nat)(H:ae)(i c z m K:Nat)(x:ByteArray)(hF:Fit c z m K)(hi:i<c)(hx:x.size=sX c z m K i) :
 ab T (n+4) (.fn 34) [.str (pc i c z x)] H=some (.ax [.agg (fg i c z x),Rv],H):=by
 refine aw Mb (by rfl) ?_
 have h1:=hF.c1;have h2:=hF.c2;have h3:=hF.z2
 have h80:=fun H=>Hb (n+1) H i c z m K x hF hi hx
 have hxs:x.size≤4095:=by rw[hx];unfold sX;have:=hF.m2;split<;>omega
 have hA:At (fv (uJ i c z)) 0 (bits 8 9++(bits 5 i++(bits 5 (c-1)++bits 12 z))):=by
  have h:=tp (uJ i c z) .empty
  rw[ByteArray.append_empty]at h
  unfold uJ at h⊢
  simp only[NR]at h⊢
  exact h
 have hcl:=B4 (uJ i c z)
 rw[tJ]at hcl
 have e1:(pc i c z x).extract 0 4=fv (uJ i c z):=ByteArray.extract_append_eq_left (iA ..).symm
 have e2:(pc i c z x).size=4+x.size:=by unfold pc;rw[Pv,iA]
 have e3:(pc i c z x).extract 4 (4+x.size)=x:=ByteArray.extract_append_eq_right (iA ..).symm (by rw[iA])
 obtain⟨S,hS⟩:∃S,pc i c z x=S:=⟨_,rfl⟩
 rw[hS]at e1 e2 e3⊢
 have hs4:=iA i c z
 obtain⟨h,hh⟩:∃h,fv (uJ i c z)=h:=⟨_,rfl⟩
 rw[hh]at hA hcl e1 hs4
 obtain⟨A0,hA⟩:=aX hA
 obtain⟨A1,hA⟩:=aX hA
 obtain⟨A2,A3⟩:=aX hA
 simp only[aa]at A1 A2 A3
 have hs:h.size≤1000:=by omega
 have h75:=fun es b0=>KP (n+2) es b0 h hs
 have r0:∀b0 tl es,ab T (n+3) (.fn 79) [.ptr 1 0 0 0,Ru 8] ⟨b0::.box [.str h,Rv,Rv]::tl,es,0⟩=some (Ru 9,⟨b0::.box [.str h,Ru 8,Rv]::tl,es,0⟩):=fun b0 tl es=>rU b0 tl es h hs n 8 9 0 A0 (by omega) (by omega) (by omega)
 have r1:∀b0 tl es,ab T (n+3) (.fn 79) [.ptr 1 0 0 0,Ru 5] ⟨b0::.box [.str h,Ru 8,Rv]::tl,es,0⟩=some (Ru (i:Nat),⟨b0::.box [.str h,Ru 13,Rv]::tl,es,0⟩):=fun b0 tl es=>rU b0 tl es h hs n 5 i 8 A1 (by omega) (by omega) (by omega)
 have r2:∀b0 tl es,ab T (n+3) (.fn 79) [.ptr 1 0 0 0,Ru 5] ⟨b0::.box [.str h,Ru 13,Rv]::tl,es,0⟩=some (Ru ((c-1:Nat):Int),⟨b0::.box [.str h,Ru 18,Rv]::tl,es,0⟩):=fun b0 tl es=>rU b0 tl es h hs n 5 (c-1) 13 A2 (by omega) (by omega) (by omega)
 have r3:∀b0 tl es,ab T (n+3) (.fn 79) [.ptr 1 0 0 0,Ru 12] ⟨b0::.box [.str h,Ru 18,Rv]::tl,es,0⟩=some (Ru (z:Nat),⟨b0::.box [.str h,Ru 30,Rv]::tl,es,0⟩):=fun b0 tl es=>rU b0 tl es h hs n 12 z 18 A3 (by omega) (by omega) (by omega)
 have r4:∀b0 b2 es,ab T (n+3) (.fn 77) [.ptr 1 0 0 0] ⟨[b0,.box [.str h,Ru 30,Rv],b2],es,0⟩=some (Rv,⟨[b0,.box [.str h,Ru 30,Rv],b2],es,0⟩):=fun b0 b2 es=>by
  have h:=Lh n es b0 b2 h (30,0) hs (by show 30≤8*h.size;omega)
  rw[hcl]at h;exact h
 have d1:decide ((S.size:Int)<4)=false:=NQ (by omega)
 have d2:decide ((4:Int)≤(S.size:Int))=true:=NN (by omega)
 have wc:bX (((c-1:Nat):Int)+1)=(c:Int):=by rw[an (by omega) (by omega)];omega
 rw[←e2]at e3
 simp only[Li,av,go_sem,simprocAttr,d1,d2,e1,e3,h75,r0,r1,r2,r3,r4,wc,h80]
end F
namespace F
def sU(D:ByteArray)(m c k i:Nat):ByteArray:=fv (cr 4 1 2 0 k 0 0 0 0 0 0 (pc i c D.size (jE D m i)))
theorem tk(i c z:Nat)(x:ByteArray):(pc i c z x).size=4+x.size:=by unfold pc;rw[Pv,iA]
theorem xl(k:Nat)(hk:k≤255)(x:ByteArray):nn 4 1 2 0 k 0 0 0 0 0 0 x=true:=by
 rw[zV,NY];omega
theorem nJ{D:ByteArray}{m c K k i:Nat}(hF:Fit c D.size m K)(hm:m≤100)(hi:i<c):(sU D m c k i).size+2≤127∧(pc i c D.size (jE D m i)).size≤127:=by
 have h:=fL hF hi
 have hn:sX c D.size m K i≤100:=by unfold sX;have:=hF.K2;split<;>omega
 rw[tk]
 refine⟨?_,by omega⟩
 unfold sU
 rw[dq]
 have hl:(cr 4 1 2 0 k 0 0 0 0 0 0 (pc i c D.size (jE D m i))).length≤869:=by
  unfold cr lF
  have:(ah 2).length=6:=rfl
  have d1:decide ((4:Int)=1)=false:=by decide
  have d2:decide ((4:Int)=2)=false:=by decide
  have d3:decide ((4:Int)=3)=false:=by decide
  simp only[d1,d2,d3,Oa,NO,aa,cj,tk]
  omega
 unfold nb;omega
theorem BG{D:ByteArray}{m c K k i:Nat}(hF:Fit c D.size m K)(hm:m≤100)(hi:i<c)(hk:k≤255):Hq 4 1 2 0 k 0 0 0 0 0 0 (pc i c D.size (jE D m i))=.ax [.str (fA (sU D m c k i)),Rv]:=by
 obtain⟨h1,h2⟩:=nJ (k:=k) hF hm hi
 unfold Hq
 unfold sU at h1⊢
 rw[xl k hk,NQ (show ¬127<(pc i c D.size (jE D m i)).size by omega),NQ (show ¬127<(fv (cr 4 1 2 0 k 0 0 0 0 0 0 (pc i c D.size (jE D m i)))).size+2 by omega)]
 rfl
theorem BM(n:Nat)(H:ae){D:ByteArray}{m c K k i:Nat}(hF:Fit c D.size m K)(hm:m≤100)(hi:i<c)(hk:k≤255) :
 ab T (n+8) (.fn 33) [.str (fA (sU D m c k i))] H=some (.ax [.agg (fr 4 1 2 0 k 0 0 0 0 0 0 (pc i c D.size (jE D m i))),Rv],H):=by
 obtain⟨h1,h2⟩:=nJ (k:=k) hF hm hi
 have h:=L6 n H (fA (sU D m c k i))
 obtain⟨b1,b2⟩:=back (xl k hk (pc i c D.size (jE D m i))) h2
 rw[wz _ (by unfold sU at h1 ⊢;omega)]at h
 unfold sU at h⊢
 rw[b1,b2]at h
 exact h
end F
namespace F
abbrev nI(I:List Nat):List Int:=I.map fun(i:Nat)=>(i:Int)
def Dj(D:ByteArray)(m c:Nat)(I:List Nat)(t:Nat):ByteArray:=fA (sU D m c t ((I[t]?).getD 0))
abbrev qf(D:ByteArray)(m c:Nat)(I:List Nat)(j:Nat):List (List SV):=(List.range j).map fun t=>[.str (Dj D m c I t)]
theorem wm(D:ByteArray)(m c:Nat)(I:List Nat)(j:Nat):qf D m c I (j+1)=qf D m c I j++[[.str (Dj D m c I j)]]:=by
 simp only[qf,Rc,QL,Ov,PG]
theorem tU(D:ByteArray)(m c:Nat)(I:List Nat)(j:Nat):(qf D m c I j).length=j:=by simp[qf]
theorem uh(D:ByteArray)(m c:Nat)(I:List Nat)(j:Nat):Still (qf D m c I j):=fun cs hcs c hc=>by
 obtain⟨i,_,rfl⟩:=PM.1 hcs
 simp only[O9,Rk,or_false]at hc
 rcases hc with rfl
 exact⟨by simp[SV.refs],fun N H d=>by simp[eg,SV.refs]⟩
theorem Mw(n:Nat)(H:ae)(D:ByteArray)(m c K:Nat)(I:List Nat)(f1 f2:Bool)(hF:Fit c D.size m K)(hm:m≤100)(hI:∀i∈I,i<c)(hl:I.length≤32) :
 ab T (n+9) (.fn 32) [.aB 5 (pD D m c c) f1,.aB 1 (iS (nI I)) f2] H=some (.ax [.aB 1 (qf D m c I I.length) false,.bool true],H):=by
 refine aw M0 (by rfl) ?_
 have h1:=hF.c1;have h2:=hF.c2
 have hrow:∀i,i<c→(pD D m c c)[i]?=some (fo D m c i):=fun i hi=>by simp[pD,hi]
 simp only[LX,av,go_sem,simprocAttr]
 refine bz (fun j=>([(0,.aB 5 (pD D m c c) f1),(6,.bG 0 j 0 j),(13,.aB 1 (iS (nI I)) f2),(14,Ru I.length),(15,Ru j)],⟨[.arr j 1 (qf D m c I j) false],[],0⟩)) (fun _=>True) I.length ?_ trivial ?_
 ·simp only[go_sem,simprocAttr,Oe]
  try rfl
 ·intro j hj _
  rcases Oh j I.length with hlt|hge
  ·obtain⟨i,hi⟩:∃i,I[j]?=some i:=⟨I[j],N4 hlt⟩
   have hic:=hI i (Ok hi)
   have hx:decide ((j:Int)<(I.length:Int))=true:=NN (by omega)
   have h0:decide ((0:Int)≤(j:Int))=true:=NN (by omega)
   have hs1:bX ((j:Int)+1)=((j+1:Nat):Int):=by rw[an (by omega) (by omega)];omega
   have hg:(nI I)[j]?=some (i:Int):=by simp[nI,hi]
   have i0:decide ((i:Int)<0)=false:=NQ (by omega)
   have i1:decide ((c:Int)≤(i:Int))=false:=NQ (by omega)
   have i2:decide ((0:Int)≤(i:Int))=true:=NN (by omega)
   have i3:decide ((i:Int)<(c:Int))=true:=NN (by omega)
   have hr:=hrow i hic
   have h72:=fun H=>Mq (n+4) H i c D.size m K (jE D m i) hF hic (fL hF hic)
   have hmod:(j:Int).tmod 256=(j:Int):=by rw[Qz (by omega)];omega
   have h73:=fun H=>ME n H 4 1 2 0 (j:Nat) 0 0 0 0 0 0 (pc i c D.size (jE D m i)) (by have:=(nJ (k:=j) hF hm hic).2;omega)
   have hE:=BG (D:=D) (m:=m) (k:=j) hF hm hic (by omega)
   rw[hE]at h73
   have gb:=fun H X=>iO 1 H 0 j j X (qf D m c I j) (tU ..)
   have hap:decide ((j+1)*16≤cf)=true:=NN (O0 (show(j+1)*16≤1000000 by omega) (by decide))
   have hfx:Dj D m c I j=fA (sU D m c j i):=by unfold Dj;rw[hi];rfl
   have hS:=wm D m c I j
   rw[hfx]at hS
   simp only[go_sem,simprocAttr,hx,h0,hs1,hg,Oe,PA,i0,i1,i2,i3,N0,hr,h72,hmod,h73,gb,hap,hS]
   exact⟨hlt,by first|trivial|rfl,trivial⟩
  ·obtain rfl:j=I.length:=by omega
   have hx:decide ((I.length:Int)<(I.length:Int))=false:=NQ (by omega)
   have hfz:=fun H=>(uh D m c I I.length).fz 0 H 5 I.length I.length 1 false (tU ..)
   simp only[go_sem,simprocAttr,hx,hfz]
end F
section
namespace F
section
variable{A:Type}{B l:List A}{N:Nat}
theorem dW(h:B.length=N)(l:List A):(B++l)[N]?=l[0]?:=by subst h;exact a8 ..
theorem iD(h:B.length=N)(l:List A)(k:Nat):(B++l)[N+k]?=l[k]?:=by subst h;exact aF ..
theorem zG(h:B.length=N)(l:List A)(x:A):(B++l).set N x=B++l.set 0 x:=by subst h;exact bb ..
theorem yg(h:B.length=N)(l:List A)(x:A)(k:Nat):(B++l).set (N+k) x=B++l.set k x:=by subst h;exact aZ ..
theorem mI(h:B.length=N)(l:List A):(B++l).take N=B:=by subst h;exact aP ..
theorem ez(h:B.length=N)(l:List A)(k:Nat):(B++l).take (N+k)=B++l.take k:=by subst h;exact aN ..
theorem tu(h:B.length=N)(l:List A):(B++l).drop N=l:=by subst h;exact aO ..
theorem fF(h:B.length=N)(l:List A)(k:Nat):(B++l).drop (N+k)=l.drop k:=by subst h;exact aM ..
theorem bD{b:Nat}{x:A}(h:B[b]?=some x)(l:List A):(B++l)[b]?=some x:=KH h
theorem oP{b:Nat}(h:b<B.length)(l:List A)(x:A):(B++l).set b x=B.set b x++l:=by rw[List.set_append_left _ _ h]
end
def kI(D:ByteArray)(m B:Nat):List ByteArray:=(List.range 32).map fun i=>bif B.testBit i then jE D m i else .empty
abbrev vj(D:ByteArray)(m c la B:Nat):List SV:=Ru c::Ru D.size::Ru (s7 c D.size m)::Ru la::Ru B::(kI D m B).map .str
abbrev tL(M t:Nat):aj:=.box [Ru 1000,Ru t,.mp M]
theorem M1(n:Nat)(bl:List aj)(es:List (Nat×Nat))(ro R M G X:Nat)(D:ByteArray)(m c la B t:Nat)(hR:bl[R]?=some (tL M t))(hG:bl[G]?=some (.box (vj D m c la B)))(hX:bl[X]?=some (.box [.ptr R 0 0 0]))(ht:t≤1000) :
 ab T (n+1) (.fn 82) [Ru 9,.ptr G 0 0 0,.ptr X 0 0 0] ⟨bl,es,ro⟩=some (.bool false,⟨bl,es,ro⟩):=by
 refine ao Nj (bQ (by simp[SV.refs.au,SV.refs])) ?_
 have hw:bX ((t:Int)-1000)=(t:Int)-1000:=an (by omega) (by omega)
 have hd:decide ((la:Int)<(t:Int)-1000)=false:=NQ (by omega)
 have l6:decide (bl.length≤bl.length)=true:=NN (NV _)
 simp only[Lz,go_sem,simprocAttr,hR,hG,hX,hw,hd,l6,PL,List.drop_length,OS]
theorem ED(n:Nat)(bl:List aj)(es:List (Nat×Nat))(ro M X:Nat)(hM:bl[M]?=some (.map []))(hX:X<bl.length) :
 ab T (n+2) (.fn 81) [.mp M,.fn 82 [.ptr X 0 0 0]] ⟨bl,es,ro⟩=some (.ax [],⟨bl,es,ro⟩):=by
 refine ao Lm (bQ (by simp[SV.refs.au,SV.refs])) ?_
 obtain⟨N,hN⟩:∃N,bl.length=N:=⟨_,rfl⟩
 have hMN:M<N:=by rw[←hN];exact(NT.1 hM).1
 have gM:=fun l=>bD hM l
 have g0:=fun l=>dW hN l
 have t0:=fun l=>mI hN l
 have t1:=fun l k=>ez hN l k
 have l6:decide (N≤N)=true:=NN (NV _)
 have dM:decide (M≤N)=true:=NN (by omega)
 have dX:decide (X≤N)=true:=NN (by omega)
 simp only[Ir,go_sem,simprocAttr,hM,hN,a8,aF,bb,aZ,aP,aN,aO,aM,cu,bK,cx,bH,bI,bN,bn,bJ,bk,bm,aS,bp,ew,eu,NR,NO,N9]
 refine bz (fun j=>([(0,.mp M),(1,.fn 82 [.ptr X 0 0 0]),(7,.ptr N 0 0 0)],⟨bl++[.iter M 0 0],[],min ro N⟩)) (fun _=>True) 0 ?_ trivial ?_
 ·simp only[go_sem,simprocAttr,hN,t1,dM,dX,l6,a8,aF,bb,aZ,aP,aN,aO,aM,cu,bK,cx,bH,bI,bN,bn,bJ,bk,bm,aS,bp,ew,eu,NR,NO,N9]
  try rfl
 ·intro j hj _
  obtain rfl:j=0:=by omega
  simp only[go_sem,simprocAttr,hN,gM,g0,t0,t1,l6,a8,aF,bb,aZ,aP,aN,aO,aM,cu,bK,cx,bH,bI,bN,bn,bJ,bk,bm,aS,bp,ew,eu,NR,NO,N9]
theorem F6(n:Nat)(bl:List aj)(es:List (Nat×Nat))(ro R M G X:Nat)(D:ByteArray)(m c la B t:Nat)(hR:bl[R]?=some (tL M t))(hG:bl[G]?=some (.box (vj D m c la B)))(hX:bl[X]?=some (.box [.ptr R 0 0 0]))(ht:t≤1000)
 (hM:bl[M]?=some (.map [(Ru 9,.ptr G 0 0 0)])) :
 ab T (n+2) (.fn 81) [.mp M,.fn 82 [.ptr X 0 0 0]] ⟨bl,es,ro⟩=some (.ax [],⟨bl,es,ro⟩):=by
 refine ao Lm (bQ (by simp[SV.refs.au,SV.refs])) ?_
 obtain⟨N,hN⟩:∃N,bl.length=N:=⟨_,rfl⟩
 have hMN:M<N:=by rw[←hN];exact(NT.1 hM).1
 have hXN:X<N:=by rw[←hN];exact(NT.1 hX).1
 have gM:=fun l=>bD hM l
 have g0:=fun l=>dW hN l
 have s0:=fun l x=>zG hN l x
 have t0:=fun l=>mI hN l
 have t1:=fun l k=>ez hN l k
 have h82:=fun l es ro=>M1 n (bl++l) es ro R M G X D m c la B t (bD hR l) (bD hG l) (bD hX l) ht
 have l6:decide (N≤N)=true:=NN (NV _)
 have dM:decide (M≤N)=true:=NN (by omega)
 have dX:decide (X≤N)=true:=NN (by omega)
 have dm:decide (min ro N≤N)=true:=NN (by omega)
 have dn:decide (N<N+1)=true:=NN (by omega)
 simp only[Ir,go_sem,simprocAttr,hM,hN,a8,aF,bb,aZ,aP,aN,aO,aM,cu,bK,cx,bH,bI,bN,bn,bJ,bk,bm,aS,bp,ew,eu,NR,NO,N9]
 refine bz (fun j=>([(0,.mp M),(1,.fn 82 [.ptr X 0 0 0]),(7,.ptr N 0 0 0)],⟨bl++[.iter M 1 j],[],min ro N⟩)) (fun _=>True) 1 ?_ trivial ?_
 ·simp only[go_sem,simprocAttr,hN,t1,dM,dX,l6,a8,aF,bb,aZ,aP,aN,aO,aM,cu,bK,cx,bH,bI,bN,bn,bJ,bk,bm,aS,bp,ew,eu,NR,NO,N9]
  try rfl
 ·intro j hj _
  match j,hj with
  |0,_=>
   simp only[go_sem,simprocAttr,hN,gM,g0,s0,t0,t1,l6,dM,dX,dm,dn,h82,a8,aF,bb,aZ,aP,aN,aO,aM,cu,bK,cx,bH,bI,bN,bn,bJ,bk,bm,aS,bp,ew,eu,NR,NO,N9]
   exact⟨by omega,by first|trivial|rfl,trivial⟩
  |1,_=>
   simp only[go_sem,simprocAttr,hN,gM,g0,t0,t1,l6,a8,aF,bb,aZ,aP,aN,aO,aM,cu,bK,cx,bH,bI,bN,bn,bJ,bk,bm,aS,bp,ew,eu,NR,NO,N9]
end F
end
namespace F
theorem yF(b v i o:Nat):(SV.ptr b v i o).gU=true:=rfl
theorem xr(D:ByteArray)(m:Nat):kI D m 0=List.replicate 32 .empty:=by
 unfold kI
 simp only[Qe,Oa]
 rfl
theorem Eg(n:Nat)(bl:List aj)(es:List (Nat×Nat))(ro R M t i c K m:Nat)(D:ByteArray)(hF:Fit c D.size m K)(hi:i<c)(hR:bl[R]?=some (tL M t))(hM:bl[M]?=some (.map []))(hro:ro≤M) :
 ab T (n+2) (.n8 83) [.ptr R 0 0 0,.agg (fo D m c i)] ⟨bl,es,ro⟩=some (.ptr (bl.length+1) 0 0 0,⟨bl.set M (.map [(Ru 9,.ptr (bl.length+1) 0 0 0)])++[.box (fo D m c i),.box (vj D m c 0 0)],es++[(M,bl.length+2)],ro⟩):=by
 refine eH LL ?_
 have h142:=fun H=>Ce n H i c D.size m K (jE D m i) hF hi (fL hF hi)
 obtain⟨N,hN⟩:∃N,bl.length=N:=⟨_,rfl⟩
 have hMN:M<N:=by rw[←hN];exact(NT.1 hM).1
 have gM:=fun l=>bD hM l
 have gR:=fun l=>bD hR l
 have sM:=fun l x=>oP (show M<bl.length by omega) l x
 have g0:=fun l=>dW hN l
 have gk:=fun l k=>iD hN l k
 have t0:=fun l=>mI hN l
 have t1:=fun l k=>ez hN l k
 have e0:=fun l=>tu hN l
 have e1:=fun l k=>fF hN l k
 have l6:decide (N≤N)=true:=NN (NV _)
 have dM:decide (M≤N)=true:=NN (by omega)
 have dM1:∀k,decide (M<N+k)=true:=fun k=>NN (by omega)
 have dM2:∀k,decide (N+(k+1)≤M)=false:=fun k=>NQ (by omega)
 have dm:decide (min ro N≤M)=true:=NN (by omega)
 have hz:(kI D m 0).map SV.str=[.str ⟨⟨[]⟩⟩,.str ⟨⟨[]⟩⟩,.str ⟨⟨[]⟩⟩,.str ⟨⟨[]⟩⟩,.str ⟨⟨[]⟩⟩,.str ⟨⟨[]⟩⟩,.str ⟨⟨[]⟩⟩,.str ⟨⟨[]⟩⟩,.str ⟨⟨[]⟩⟩,.str ⟨⟨[]⟩⟩,.str ⟨⟨[]⟩⟩,.str ⟨⟨[]⟩⟩,.str ⟨⟨[]⟩⟩,.str ⟨⟨[]⟩⟩,.str ⟨⟨[]⟩⟩,.str ⟨⟨[]⟩⟩,.str ⟨⟨[]⟩⟩,.str ⟨⟨[]⟩⟩,.str ⟨⟨[]⟩⟩,.str ⟨⟨[]⟩⟩,.str ⟨⟨[]⟩⟩,.str ⟨⟨[]⟩⟩,.str ⟨⟨[]⟩⟩,.str ⟨⟨[]⟩⟩,.str ⟨⟨[]⟩⟩,.str ⟨⟨[]⟩⟩,.str ⟨⟨[]⟩⟩,.str ⟨⟨[]⟩⟩,.str ⟨⟨[]⟩⟩,.str ⟨⟨[]⟩⟩,.str ⟨⟨[]⟩⟩,.str ⟨⟨[]⟩⟩]:=by rw[xr];rfl
 simp only[IM,go_sem,simprocAttr,hN,hM,hR,gM,gR,sM,g0,gk,t0,t1,e0,e1,l6,dM,dM1,dM2,dm,h142,hz,yF,NZ,a8,aF,bb,aZ,aP,aN,aO,aM,cu,bK,cx,bH,bI,bN,bn,bJ,bk,bm,aS,bp,ew,eu,NR,NO,N9]
 simp only[vj,hz]
 rfl
theorem Dt(n:Nat)(bl:List aj)(es:List (Nat×Nat))(ro R M G t i c m:Nat)(D:ByteArray)(hR:bl[R]?=some (tL M t))(hM:bl[M]?=some (.map [(Ru 9,.ptr G 0 0 0)])){cs:List SV}(hG:bl[G]?=some (.box cs)) :
 ab T (n+2) (.n8 83) [.ptr R 0 0 0,.agg (fo D m c i)] ⟨bl,es,ro⟩=some (.ptr G 0 0 0,⟨bl++[.box (fo D m c i)],es,ro⟩):=by
 refine eH LL ?_
 obtain⟨N,hN⟩:∃N,bl.length=N:=⟨_,rfl⟩
 have hMN:M<N:=by rw[←hN];exact(NT.1 hM).1
 have gM:=fun l=>bD hM l
 have gR:=fun l=>bD hR l
 have g0:=fun l=>dW hN l
 have t1:=fun l k=>ez hN l k
 have e1:=fun l k=>fF hN l k
 have l6:decide (N≤N)=true:=NN (NV _)
 have gG:=fun l=>bD hG l
 simp only[IM,go_sem,simprocAttr,hN,gM,gR,gG,g0,t1,e1,l6,a8,aF,bb,aZ,aP,aN,aO,aM,cu,bK,cx,bH,bI,bN,bn,bJ,bk,bm,aS,bp,ew,eu,NR,NO,N9]
end F
namespace F
theorem Cq(D:ByteArray)(m c la B i:Nat)(hi:i<32):(vj D m c la B)[5+i]?=some (.str (bif B.testBit i then jE D m i else .empty)):=by
 rw[QR]
 show((kI D m B).map SV.str)[i]?=_
 simp[kI,hi]
theorem Lt(n:Nat)(bl:List aj)(es:List (Nat×Nat))(ro G i c K m la B:Nat)(D:ByteArray)(hF:Fit c D.size m K)(hi:i<c)(hG:bl[G]?=some (.box (vj D m c la B)))(hB:B<2 ^ 32) :
 ab T (n+2) (.fn 84) [.ptr G 0 0 0,.agg (fo D m c i)] ⟨bl,es,ro⟩=some (.bool true,⟨bl,es,ro⟩):=by
 refine ao MK (bQ (by simp[SV.refs.au,SV.refs])) ?_
 have hc32:=hF.c2
 have h142:=fun H=>Ce n H i c D.size m K (jE D m i) hF hi (fL hF hi)
 obtain⟨N,hN⟩:∃N,bl.length=N:=⟨_,rfl⟩
 have gG:=fun l=>bD hG l
 have g0:=fun l=>dW hN l
 have t0:=fun l=>mI hN l
 have t1:=fun l k=>ez hN l k
 have e0:=fun l=>tu hN l
 have e1:=fun l k=>fF hN l k
 have l6:decide (N≤N)=true:=NN (NV _)
 have hm:((B:Int).fdiv (2 ^ min i 64))=((B/2 ^ i:Nat):Int):=by rw[Pb (by omega),cZ]
 have ha:sb ((B:Int).fdiv (2 ^ min i 64)) 1=((bt (B.testBit i):Nat):Int):=by rw[hm,kE,sL];omega
 have h0:decide ((0:Int)≤(i:Int))=true:=NN (by omega)
 have h1:decide ((i:Int)<32)=true:=NN (by omega)
 have hcell:=Cq D m c la B i (by omega)
 cases hb:B.testBit i with
 |false=>
  rw[hb]at ha
  have hd:decide (((bt false:Nat):Int)=0)=true:=by decide
  simp only[KA,go_sem,simprocAttr,hN,gG,g0,t0,t1,e0,e1,l6,h142,ha,hd,h0,h1,N0,a8,aF,bb,aZ,aP,aN,aO,aM,cu,bK,cx,bH,bI,bN,bn,bJ,bk,bm,aS,bp,ew,eu,NR,NO,N9]
 |true=>
  rw[hb]at ha hcell
  rw[N6]at hcell
  have hd:decide (((bt true:Nat):Int)=0)=false:=by decide
  simp only[KA,go_sem,simprocAttr,hN,gG,g0,t0,t1,e0,e1,l6,h142,ha,hd,h0,h1,hcell,N0,Qq,a8,aF,bb,aZ,aP,aN,aO,aM,cu,bK,cx,bH,bI,bN,bn,bJ,bk,bm,aS,bp,ew,eu,NR,NO,N9]
end F
namespace F
def FZ(a b:Int):Int:=IntKind.wrap .i64 ((BitVec.ofInt 64 a|||BitVec.ofInt 64 b).toNat)
@[go_sem high] theorem GF (a b:Int):bY .or (Ru a) (Ru b)=some (Ru (FZ a b)):=by
  simp only[bY,O8,N6];rfl
theorem tw{a b:Nat}(ha:a<2 ^ 32)(hb:b<2 ^ 32):FZ (a:Int) (b:Int)=((a|||b:Nat):Int):=by
 have h:=Nat.or_lt_two_pow ha hb
 unfold FZ
 rw[Q9,gl _ (by omega),gl _ (by omega)]
 exact an (by omega) (by omega)
abbrev rD(D:ByteArray)(m c la B B2:Nat):List SV:=Ru c::Ru D.size::Ru (s7 c D.size m)::Ru la::Ru B::(kI D m B2).map .str
theorem kS(D:ByteArray)(m c la B B2:Nat):(rD D m c la B B2).length=37:=by simp[kI]
theorem mg{B i j:Nat}:(B|||2 ^ i).testBit j=(B.testBit j||decide (i=j)):=by rw[Nat.testBit_or,Nat.testBit_two_pow]
theorem ym(D:ByteArray)(m B i:Nat):(kI D m B).set i (jE D m i)=kI D m (B|||2 ^ i):=by
 apply Pk
 intro j
 rw[PY]
 by_cases hj:j<32
 ·have h1:∀B,(kI D m B)[j]?=some (bif B.testBit j then jE D m j else .empty):=fun B=>by simp[kI,hj]
  have h2:(kI D m B).length=32:=by simp[kI]
  rw[h1,h1,h2,mg]
  by_cases e:i=j
  ·subst e;rw[if_pos rfl,if_pos hj,NN rfl,Bool.or_true];rfl
  ·rw[if_neg e,NQ e,Q5]
 ·have h1:∀B,(kI D m B)[j]?=none:=fun B=>Oq (by simp[kI];omega)
  have h2:(kI D m B).length=32:=by simp[kI]
  rw[h1,h1]
  by_cases e:i=j
  ·subst e;rw[if_pos rfl,if_neg (by omega)]
  ·rw[if_neg e]
theorem xH(D:ByteArray)(m c la B i:Nat)(hi:i<32):eL (rD D m c la B B) (5+i) 1 [.str (jE D m i)]=rD D m c la B (B|||2 ^ i):=by
 have h:eL (rD D m c la B B) (5+i) 1 [.str (jE D m i)]=(rD D m c la B B).set (5+i) (.str (jE D m i)):=by
  have hl:=kS D m c la B B
  unfold eL
  rw[List.set_eq_take_append_cons_drop,if_pos (by omega)]
  simp
 rw[h,QR]
 show SV.int .i64 c::Ru D.size::Ru (s7 c D.size m)::Ru la::Ru B::((kI D m B).map .str).set i (.str (jE D m i))=_
 rw[←List.map_set,ym]
def yT(D:ByteArray)(c B i:Nat):SV:=bif decide (B=2 ^ c-1)||!decide (B|||2 ^ i=2 ^ c-1)then .ax [.str ⟨⟨[]⟩⟩,.bool false,Rv]else .ax [.str D,.bool true,Rv]
theorem oR:∀(L:List SV) (s:ByteArray) (l:List UInt8),fU L=some l→fU (L++[.str s])=some (l++s.data.toList)
 |[],s,l,h=>by cases h;simp[fU]
 | .str x::L,s,l,h=>by
   simp only[fU,NP]at h
   obtain⟨l',h1,rfl⟩:=h
   simp only[Oy,fU,oR L s l' h1,Oo,NR]
theorem tj{D:ByteArray}{m c K:Nat}(hF:Fit c D.size m K):∀j,j≤c→fU ((List.range j).map fun i=>.str (jE D m i))=some (D.extract 0 (min (j*m) D.size)).data.toList
 |0,_=>by simp[fU]
 |j+1,hj=>by
  rw[Rc,QL,Ov,PG,oR _ _ _ (tj hF j (by omega))]
  have hle:j*m≤K:=by rw[hF.K0];exact Om _ (by omega)
  have hK:=hF.K1
  have hs:(j+1)*m=j*m+m:=by rw[Ox,Pq]
  have h:D.extract 0 (min (j*m) D.size)++jE D m j=D.extract 0 (min ((j+1)*m) D.size):=by
   unfold jE
   rw[Pb (show j*m≤D.size by omega),ByteArray.extract_append_extract,Nat.zero_min,Nat.max_eq_right (by omega)]
  rw[←h,Qw,Array.toList_append]
theorem qw{D:ByteArray}{m c K la B:Nat}(hF:Fit c D.size m K)(hB:∀j,j<c→B.testBit j=true):fU (((rD D m c la B B).drop 5).take c)=some D.data.toList:=by
 have hc:=hF.c2
 have h1:((rD D m c la B B).drop 5).take c=(List.range c).map fun i=>.str (jE D m i):=by
  show((kI D m B).map SV.str).take c=_
  unfold kI
  rw[List.map_map,←List.map_take,List.take_range,Pb hc]
  apply Qd
  intro i hi
  simp only[Function.comp_apply,hB i (Of.1 hi),N6]
 have h2:=hF.K2
 rw[h1,tj hF c (NV _),hF.cm,Nat.min_eq_right h2,ByteArray.extract_zero_size]
theorem LN(n:Nat)(bl:List aj)(es:List (Nat×Nat))(ro G o c:Nat)(cs:List SV)(L:List UInt8)(hG:bl[G]?=some (.box cs))(hJ:fU ((cs.drop o).take c)=some L)(hl:o+c≤cs.length)(hc:c≤32)(hL:L.length≤1048576) :
 ab T (n+1) (.fn 85) [.pU G o c,.str .empty] ⟨bl,es,ro⟩=some (.str ⟨L.toArray⟩,⟨bl,es,ro⟩):=by
 refine ao Mj (bQ (by simp[SV.refs.au,SV.refs])) ?_
 have d1:decide (o+c≤cs.length)=true:=NN hl
 have d0:decide (c≤1048576)=true:=NN (by omega)
 have d2:decide (L.length≤1048576)=true:=NN hL
 have l6:decide (bl.length≤bl.length)=true:=NN (NV _)
 have hx:=uy bl G o c cs hG
 rw[hJ,d1,d0]at hx
 simp only[K9,go_sem,simprocAttr,hx,d2,l6,PL]
end F
namespace F
theorem p8{c:Nat}(h:c≤32):2 ^ c≤2 ^ 32:=Pg (by decide) h
theorem gS{c B j:Nat}(h:B=2 ^ c-1)(hj:j<c):B.testBit j=true:=by rw[h,Nat.testBit_two_pow_sub_one];exact NN hj
theorem nj{c B i:Nat}(hB:B<2 ^ c)(hi:i<c):B|||2 ^ i<2 ^ c:=Nat.or_lt_two_pow hB (Q0 (by decide) hi)
theorem FA(n:Nat)(bl:List aj)(es:List (Nat×Nat))(ro R M G t s i c K m la B:Nat)(D:ByteArray)(hF:Fit c D.size m K)(hi:i<c)(hR:bl[R]?=some (tL M t))(hM:bl[M]?=some (.map [(Ru 9,.ptr G 0 0 0)]))
 (hG:bl[G]?=some (.box (vj D m c la B))) (hB:B<2 ^ c) (hts:t≤s) (hs:s≤1000) (hrR:ro≤R) (hrG:ro≤G) (hRM:R≠M) (hRG:R≠G) (hMG:M≠G) :
 ab T (n+3) (.n8 35) [.ptr R 0 0 0,Ru s,.agg (fo D m c i)] ⟨bl,es,ro⟩=some (yT D c B i,⟨(bl.set R (tL M s)).set G (.box (vj D m c s (B|||2 ^ i)))++[.box [.ptr R 0 0 0],.box (fo D m c i),.box (fo D m c i)],es,ro⟩):=by
 refine eH Lp ?_
 have hc32:=hF.c2
 have hz2:=hF.z2
 obtain⟨N,hN⟩:∃N,bl.length=N:=⟨_,rfl⟩
 have hRN:R<N:=by rw[←hN];exact(NT.1 hR).1
 have hMN:M<N:=by rw[←hN];exact(NT.1 hM).1
 have hGN:G<N:=by rw[←hN];exact(NT.1 hG).1
 obtain⟨bl1,hbl1⟩:∃b,bl.set R (tL M s)=b:=⟨_,rfl⟩
 have hN1:bl1.length=N:=by rw[←hbl1,NZ,hN]
 have hR1:bl1[R]?=some (tL M s):=by rw[←hbl1,Pd (by omega)]
 have hM1:bl1[M]?=some (.map [(Ru 9,.ptr G 0 0 0)]):=by rw[←hbl1,N7 hRM,hM]
 have hG1:bl1[G]?=some (.box (vj D m c la B)):=by rw[←hbl1,N7 hRG,hG]
 have hb32:=p8 hc32
 have hor:=nj hB hi
 have hi32:2 ^ i<2 ^ 32:=OP (Q0 (by decide) hi) hb32
 have gR:=fun l=>bD hR l
 have gR1:=fun l=>bD hR1 l
 have gM1:=fun l=>bD hM1 l
 have gG1:=fun l=>bD hG1 l
 have sR:∀l x,(bl++l).set R x=bl.set R x++l:=fun l x=>oP (by omega) l x
 have sG:∀l x,(bl1++l).set G x=bl1.set G x++l:=fun l x=>oP (by omega) l x
 have sG2:∀l x y,(bl1.set G x++l).set G y=bl1.set G y++l:=fun l x y=>by rw[oP (by rw[NZ];omega),Rm]
 have gG2:∀l x,(bl1.set G x++l)[G]?=some x:=fun l x=>bD (Pd (by omega)) l
 have n0:=fun l=>dW hN l
 have nk:=fun l k=>iD hN l k
 have n01:=fun l=>dW hN1 l
 have nk1:=fun l k=>iD hN1 l k
 have n02:∀x l,(bl1.set G x++l)[N]?=l[0]?:=fun x l=>dW (by rw[NZ,hN1]) l
 have nk2:∀x l k,(bl1.set G x++l)[N+k]?=l[k]?:=fun x l k=>iD (by rw[NZ,hN1]) l k
 have tk2:∀x l k,(bl1.set G x++l).take (N+k)=bl1.set G x++l.take k:=fun x l k=>ez (by rw[NZ,hN1]) l k
 have ek2:∀x l k,(bl1.set G x++l).drop (N+k)=l.drop k:=fun x l k=>fF (by rw[NZ,hN1]) l k
 have tk1:=fun l k=>ez hN1 l k
 have ek1:=fun l k=>fF hN1 l k
 have l6:decide (N≤N)=true:=NN (NV _)
 have dR:decide (min ro N≤R)=true:=NN (by omega)
 have dG:decide (min ro N≤G)=true:=NN (by omega)
 have dR1:∀k,decide (R<N+k)=true:=fun k=>NN (by omega)
 have dG1:∀k,decide (G<N+k)=true:=fun k=>NN (by omega)
 have dM0:decide (M≤R)=decide (M≤R):=rfl
 have h80:=fun H=>Hb n H i c D.size m K (jE D m i) hF hi (fL hF hi)
 have h81:∀es,ab T (n+2) (.fn 81) [.mp M,.fn 82 [.ptr N 0 0 0]] ⟨bl1++[.box [.ptr R 0 0 0],.box (fo D m c i)],es,min ro N⟩=some (.ax [],⟨bl1++[.box [.ptr R 0 0 0],.box (fo D m c i)],es,min ro N⟩):=fun es=>
  F6 n _ es _ R M G N D m c la B s (bD hR1 _) (bD hG1 _) (dW hN1 _) hs (bD hM1 _)
 have h83:∀es,ab T (n+2) (.n8 83) [.ptr R 0 0 0,.agg (fo D m c i)] ⟨bl1++[.box [.ptr R 0 0 0],.box (fo D m c i)],es,min ro N⟩=some (.ptr G 0 0 0,⟨bl1++[.box [.ptr R 0 0 0],.box (fo D m c i),.box (fo D m c i)],es,min ro N⟩):=fun es=>by
  have h:=Dt n (bl1++[.box [.ptr R 0 0 0],.box (fo D m c i)]) es (min ro N) R M G s i c m D (bD hR1 _) (bD hM1 _) (bD hG1 _)
  rw[NR]at h;exact h
 have h84:∀es,ab T (n+2) (.fn 84) [.ptr G 0 0 0,.agg (fo D m c i)] ⟨bl1++[.box [.ptr R 0 0 0],.box (fo D m c i),.box (fo D m c i)],es,min ro N⟩=some (.bool true,⟨bl1++[.box [.ptr R 0 0 0],.box (fo D m c i),.box (fo D m c i)],es,min ro N⟩):=fun es=>
  Lt n _ es _ G i c K m la B D hF hi (bD hG1 _) (by omega)
 have k1:decide ((s:Int)<(t:Int))=false:=NQ (by omega)
 have k2:decide ((109951162:Int)<(s:Int))=false:=NQ (by omega)
 have k3:decide ((0:Int)≤(c:Int))=true:=NN (by omega)
 have k4:decide ((0:Int)≤(i:Int))=true:=NN (by omega)
 have k5:decide ((i:Int)<32)=true:=NN (by omega)
 have k6:decide ((c:Int)≤32)=true:=NN (by omega)
 have p1:((2:Int) ^ c)=((2 ^ c:Nat):Int):=by rw[PV];rfl
 have p2:((2:Int) ^ i)=((2 ^ i:Nat):Int):=by rw[PV];rfl
 have hpc:1≤2 ^ c:=Qs (by decide)
 have a1:bX (1*2 ^ min c 64)=((2 ^ c:Nat):Int):=by rw[Pb (by omega),Rs,p1];exact an (by omega) (by omega)
 have a2:bX (((2 ^ c:Nat):Int)-1)=((2 ^ c-1:Nat):Int):=by rw[an (by omega) (by omega)];omega
 have a3:bX (1*2 ^ min i 64)=((2 ^ i:Nat):Int):=by rw[Pb (by omega),Rs,p2];obtain⟨q,hq⟩:∃q,2 ^ i=q:=⟨_,rfl⟩;rw[hq]at hi32 ⊢;exact an (by omega) (by omega)
 have a4:FZ (B:Int) ((2 ^ i:Nat):Int)=((B|||2 ^ i:Nat):Int):=tw (by omega) hi32
 have a5:decide ((B:Int)=((2 ^ c-1:Nat):Int))=decide (B=2 ^ c-1):=by rw[PD];omega
 have a6:decide (((B|||2 ^ i:Nat):Int)=((2 ^ c-1:Nat):Int))=decide (B|||2 ^ i=2 ^ c-1):=by rw[PD];omega
 have hput:=xH D m c s B i (by omega)
 have hput:List.take (5+i) (SV.int .i64 c::Ru D.size::Ru (s7 c D.size m)::Ru s::Ru B::(kI D m B).map .str)++SV.str (jE D m i)::List.drop (5+(i+1)) (SV.int .i64 c::Ru D.size::Ru (s7 c D.size m)::Ru s::Ru B::(kI D m B).map .str)=rD D m c s B (B|||2 ^ i):=by
  rw[←hput];unfold eL;rw[NR];rfl
 have hss:∀B,(kI D m B).length=32:=fun B=>by simp[kI]
 have k7:decide (5+(i+1)≤37)=true:=NN (by omega)
 have hln:=kS D m c s (B|||2 ^ i) (B|||2 ^ i)
 unfold yT
 cases hb1:decide (B=2 ^ c-1)with
 |true=>
  rw[hb1]at a5
  simp only[CE,go_sem,simprocAttr,hN,hN1,hbl1,gR,gR1,gM1,gG1,sR,sG,sG2,gG2,n0,nk,n01,nk1,n02,nk2,tk2,ek2,tk1,ek1,l6,dR,dG,dR1,dG1,h80,h81,h83,h84,k1,k2,k3,k4,k5,k6,a1,a2,a3,a4,a5,a6,hput,hss,k7,Oe,NZ,N0,Qq,a8,aF,bb,aZ,aP,aN,aO,aM,cu,bK,cx,bH,bI,bN,bn,bJ,bk,bm,aS,bp,ew,eu,NR,NO,N9]
 |false=>
  rw[hb1]at a5
  cases hb2:decide (B|||2 ^ i=2 ^ c-1)with
  |false=>
   rw[hb2]at a6
   simp only[CE,go_sem,simprocAttr,hN,hN1,hbl1,gR,gR1,gM1,gG1,sR,sG,sG2,gG2,n0,nk,n01,nk1,n02,nk2,tk2,ek2,tk1,ek1,l6,dR,dG,dR1,dG1,h80,h81,h83,h84,k1,k2,k3,k4,k5,k6,a1,a2,a3,a4,a5,a6,hput,hss,k7,Oe,NZ,N0,Qq,a8,aF,bb,aZ,aP,aN,aO,aM,cu,bK,cx,bH,bI,bN,bn,bJ,bk,bm,aS,bp,ew,eu,NR,NO,N9]
  |true=>
   rw[hb2]at a6
   have hJ:=qw (la:=s) hF (B:=B|||2 ^ i) (fun j hj=>gS (PQ hb2) hj)
   have h85:∀es,ab T (n+2) (.fn 85) [.pU G 5 c,.str ⟨⟨[]⟩⟩] ⟨bl1.set G (.box (rD D m c s (B|||2 ^ i) (B|||2 ^ i)))++[.box [.ptr R 0 0 0],.box (fo D m c i),.box (fo D m c i)],es,min ro N⟩=some (.str D,⟨bl1.set G (.box (rD D m c s (B|||2 ^ i) (B|||2 ^ i)))++[.box [.ptr R 0 0 0],.box (fo D m c i),.box (fo D m c i)],es,min ro N⟩):=fun es=>
    LN (n+1) _ es _ G 5 c _ _ (gG2 ..) hJ (by rw[kS];omega) hc32 (by show D.data.size≤1048576;have:D.data.size=D.size:=rfl;omega)
   have k8:decide (5+32≤37)=true:=by decide
   simp only[CE,go_sem,simprocAttr,hN,hN1,hbl1,gR,gR1,gM1,gG1,sR,sG,sG2,gG2,n0,nk,n01,nk1,n02,nk2,tk2,ek2,tk1,ek1,l6,dR,dG,dR1,dG1,h80,h81,h83,h84,k1,k2,k3,k4,k5,k6,a1,a2,a3,a4,a5,a6,h85,k8,hput,hss,k7,Oe,NZ,N0,Qq,a8,aF,bb,aZ,aP,aN,aO,aM,cu,bK,cx,bH,bI,bN,bn,bJ,bk,bm,aS,bp,ew,eu,NR,NO,N9]
end F
namespace F
theorem EY(n:Nat)(bl:List aj)(es:List (Nat×Nat))(ro R M t s i c K m:Nat)(D:ByteArray)(hF:Fit c D.size m K)(hi:i<c)(hR:bl[R]?=some (tL M t))(hM:bl[M]?=some (.map []))
 (hts:t≤s) (hs:s≤1000) (hrR:ro≤R) (hrM:ro≤M) (hRM:R≠M) :
 ab T (n+3) (.n8 35) [.ptr R 0 0 0,Ru s,.agg (fo D m c i)] ⟨bl,es,ro⟩=some (yT D c 0 i,⟨(bl.set R (tL M s)).set M (.map [(Ru 9,.ptr (bl.length+3) 0 0 0)])++[.box [.ptr R 0 0 0],.box (fo D m c i),.box (fo D m c i),.box (vj D m c s (0|||2 ^ i))],es++[(M,bl.length+4)],ro⟩):=by
 refine eH Lp ?_
 have hc32:=hF.c2
 have hz2:=hF.z2
 have hc1:=hF.c1
 obtain⟨N,hN⟩:∃N,bl.length=N:=⟨_,rfl⟩
 have hRN:R<N:=by rw[←hN];exact(NT.1 hR).1
 have hMN:M<N:=by rw[←hN];exact(NT.1 hM).1
 obtain⟨bl1,hbl1⟩:∃b,bl.set R (tL M s)=b:=⟨_,rfl⟩
 have hN1:bl1.length=N:=by rw[←hbl1,NZ,hN]
 have hR1:bl1[R]?=some (tL M s):=by rw[←hbl1,Pd (by omega)]
 have hM1:bl1[M]?=some (.map []):=by rw[←hbl1,N7 hRM,hM]
 obtain⟨bl2,hbl2⟩:∃b,bl1.set M (.map [(Ru 9,.ptr (N+3) 0 0 0)])=b:=⟨_,rfl⟩
 have hN2:bl2.length=N:=by rw[←hbl2,NZ,hN1]
 have hb32:=p8 hc32
 have hB:0<2 ^ c:=Qs (by decide)
 have hor:=nj hB hi
 have hi32:2 ^ i<2 ^ 32:=OP (Q0 (by decide) hi) hb32
 have gR:=fun l=>bD hR l
 have gR1:=fun l=>bD hR1 l
 have gM1:=fun l=>bD hM1 l
 have sR:∀l x,(bl++l).set R x=bl.set R x++l:=fun l x=>oP (by omega) l x
 have n0:=fun l=>dW hN l
 have nk:=fun l k=>iD hN l k
 have n01:=fun l=>dW hN1 l
 have nk1:=fun l k=>iD hN1 l k
 have n02:=fun l=>dW hN2 l
 have nk2:=fun l k=>iD hN2 l k
 have st2:=fun l x k=>yg hN2 l x k
 have tk2:=fun l k=>ez hN2 l k
 have ek2:=fun l k=>fF hN2 l k
 have tk1:=fun l k=>ez hN1 l k
 have ek1:=fun l k=>fF hN1 l k
 have l6:decide (N≤N)=true:=NN (NV _)
 have dR:decide (min ro N≤R)=true:=NN (by omega)
 have dR1:∀k,decide (R<N+k)=true:=fun k=>NN (by omega)
 have dN:∀k,decide (min ro N≤N+k)=true:=fun k=>NN (by omega)
 have h80:=fun H=>Hb n H i c D.size m K (jE D m i) hF hi (fL hF hi)
 have h81:∀es,ab T (n+2) (.fn 81) [.mp M,.fn 82 [.ptr N 0 0 0]] ⟨bl1++[.box [.ptr R 0 0 0],.box (fo D m c i)],es,min ro N⟩=some (.ax [],⟨bl1++[.box [.ptr R 0 0 0],.box (fo D m c i)],es,min ro N⟩):=fun es=>
  ED n _ es _ M N (bD hM1 _) (by rw[NO,hN1];simp)
 have h83:∀es,ab T (n+2) (.n8 83) [.ptr R 0 0 0,.agg (fo D m c i)] ⟨bl1++[.box [.ptr R 0 0 0],.box (fo D m c i)],es,min ro N⟩=some (.ptr (N+3) 0 0 0,⟨bl2++[.box [.ptr R 0 0 0],.box (fo D m c i),.box (fo D m c i),.box (rD D m c 0 0 0)],es++[(M,N+4)],min ro N⟩):=fun es=>by
  have h:=Eg n (bl1++[.box [.ptr R 0 0 0],.box (fo D m c i)]) es (min ro N) R M s i c K m D hF hi (bD hR1 _) (bD hM1 _) (by omega)
  have hl:(bl1++[aj.box [.ptr R 0 0 0],.box (fo D m c i)]).length=N+2:=by rw[NO,hN1];rfl
  rw[hl,oP (by omega),NR,hbl2]at h
  exact h
 have h84:∀es,ab T (n+2) (.fn 84) [.ptr (N+3) 0 0 0,.agg (fo D m c i)] ⟨bl2++[.box [.ptr R 0 0 0],.box (fo D m c i),.box (fo D m c i),.box (rD D m c 0 0 0)],es,min ro N⟩=some (.bool true,⟨bl2++[.box [.ptr R 0 0 0],.box (fo D m c i),.box (fo D m c i),.box (rD D m c 0 0 0)],es,min ro N⟩):=fun es=>
  Lt n _ es _ (N+3) i c K m 0 0 D hF hi (nk2 ..) (by decide)
 have k1:decide ((s:Int)<(t:Int))=false:=NQ (by omega)
 have k2:decide ((109951162:Int)<(s:Int))=false:=NQ (by omega)
 have k3:decide ((0:Int)≤(c:Int))=true:=NN (by omega)
 have k4:decide ((0:Int)≤(i:Int))=true:=NN (by omega)
 have k5:decide ((i:Int)<32)=true:=NN (by omega)
 have k6:decide ((c:Int)≤32)=true:=NN (by omega)
 have p1:((2:Int) ^ c)=((2 ^ c:Nat):Int):=by rw[PV];rfl
 have p2:((2:Int) ^ i)=((2 ^ i:Nat):Int):=by rw[PV];rfl
 have a1:bX (1*2 ^ min c 64)=((2 ^ c:Nat):Int):=by rw[Pb (by omega),Rs,p1];obtain⟨q,hq⟩:∃q,2 ^ c=q:=⟨_,rfl⟩;rw[hq]at hb32 ⊢;exact an (by omega) (by omega)
 have a2:bX (((2 ^ c:Nat):Int)-1)=((2 ^ c-1:Nat):Int):=by obtain⟨q,hq⟩:∃q,2 ^ c=q:=⟨_,rfl⟩;rw[hq]at hb32 hB ⊢;rw[an (by omega) (by omega)];omega
 have a3:bX (1*2 ^ min i 64)=((2 ^ i:Nat):Int):=by rw[Pb (by omega),Rs,p2];obtain⟨q,hq⟩:∃q,2 ^ i=q:=⟨_,rfl⟩;rw[hq]at hi32 ⊢;exact an (by omega) (by omega)
 have a4:FZ 0 ((2 ^ i:Nat):Int)=((0|||2 ^ i:Nat):Int):=tw (a:=0) (by decide) hi32
 have hne:(0:Nat)≠2 ^ c-1:=by
  have:2 ^ 1≤2 ^ c:=Pg (by decide) hc1
  omega
 have a5:decide ((0:Int)=((2 ^ c-1:Nat):Int))=false:=NQ (by omega)
 have a6:decide (((0|||2 ^ i:Nat):Int)=((2 ^ c-1:Nat):Int))=decide (0|||2 ^ i=2 ^ c-1):=by rw[PD];omega
 have hput:=xH D m c s 0 i (by omega)
 have hput:List.take (5+i) (SV.int .i64 c::Ru D.size::Ru (s7 c D.size m)::Ru s::Rv::(kI D m 0).map .str)++SV.str (jE D m i)::List.drop (5+(i+1)) (SV.int .i64 c::Ru D.size::Ru (s7 c D.size m)::Ru s::Rv::(kI D m 0).map .str)=rD D m c s 0 (0|||2 ^ i):=by
  rw[←hput];unfold eL;rw[NR];rfl
 have hss:∀B,(kI D m B).length=32:=fun B=>by simp[kI]
 have k7:decide (5+(i+1)≤37)=true:=NN (by omega)
 have hln:=kS D m c s (0|||2 ^ i) (0|||2 ^ i)
 unfold yT
 rw[NQ hne,Pz]
 cases hb2:decide (0|||2 ^ i=2 ^ c-1)with
 |false=>
  rw[hb2]at a6
  simp only[CE,go_sem,simprocAttr,hN,hN1,hN2,hbl1,gR,gR1,gM1,sR,n0,nk,n01,nk1,n02,nk2,st2,tk2,ek2,tk1,ek1,l6,dR,dR1,dN,h80,h81,h83,h84,k1,k2,k3,k4,k5,k6,a1,a2,a3,a4,a5,a6,hput,hss,k7,Oe,NZ,N0,Qq,a8,aF,bb,aZ,aP,aN,aO,aM,cu,bK,cx,bH,bI,bN,bn,bJ,bk,bm,aS,bp,ew,eu,NR,NO,N9]
  rw[←hbl2]
 |true=>
  rw[hb2]at a6
  have hJ:=qw (la:=s) hF (B:=0|||2 ^ i) (fun j hj=>gS (PQ hb2) hj)
  have h85:∀es,ab T (n+2) (.fn 85) [.pU (N+3) 5 c,.str ⟨⟨[]⟩⟩] ⟨bl2++[.box [.ptr R 0 0 0],.box (fo D m c i),.box (fo D m c i),.box (rD D m c s (0|||2 ^ i) (0|||2 ^ i))],es,min ro N⟩=some (.str D,⟨bl2++[.box [.ptr R 0 0 0],.box (fo D m c i),.box (fo D m c i),.box (rD D m c s (0|||2 ^ i) (0|||2 ^ i))],es,min ro N⟩):=fun es=>
   LN (n+1) _ es _ (N+3) 5 c _ _ (nk2 ..) hJ (by rw[kS];omega) hc32 (by show D.data.size≤1048576;have:D.data.size=D.size:=rfl;omega)
  have k8:decide (5+32≤37)=true:=by decide
  simp only[CE,go_sem,simprocAttr,hN,hN1,hN2,hbl1,gR,gR1,gM1,sR,n0,nk,n01,nk1,n02,nk2,st2,tk2,ek2,tk1,ek1,l6,dR,dR1,dN,h80,h81,h83,h84,k1,k2,k3,k4,k5,k6,a1,a2,a3,a4,a5,a6,h85,k8,hput,hss,k7,Oe,NZ,N0,Qq,a8,aF,bb,aZ,aP,aN,aO,aM,cu,bK,cx,bH,bI,bN,bn,bJ,bk,bm,aS,bp,ew,eu,NR,NO,N9]
  rw[←hbl2]
end F
namespace F
theorem Mn(n:Nat)(bl:List aj)(es:List (Nat×Nat))(ro R M G t m c la B:Nat)(D:ByteArray)(hR:bl[R]?=some (tL M t))(hM:bl[M]?=some (.map [(Ru 9,.ptr G 0 0 0)]))(hG:bl[G]?=some (.box (vj D m c la B))) :
 ab T (n+1) (.fn 37) [.ptr R 0 0 0,Ru 9] ⟨bl,es,ro⟩=some (.ax [Ru B,Rv],⟨bl,es,ro⟩):=by
 refine ao Mv (bQ (by simp[SV.refs.au,SV.refs])) ?_
 have l6:decide (bl.length≤bl.length)=true:=NN (NV _)
 simp only[LD,go_sem,simprocAttr,hR,hM,hG,l6,PL]
theorem Md:T 28=some (mX 1 16 [.str ⟨⟨[]⟩⟩]):=M7
theorem vt(P:List ByteArray):Still (fx P):=fun cs hcs c hc=>by
 obtain⟨p,_,rfl⟩:=PM.1 hcs
 simp only[O9,Rk,or_false]at hc
 rcases hc with rfl
 exact⟨by simp[SV.refs],fun N H d=>by simp[eg,SV.refs]⟩
theorem El(n:Nat)(H:ae)(P:List ByteArray)(z:Nat)(fl:Bool)(hz:z=1∨P=[])(hP:P.length≤1000):ab T (n+1) (.fn 28) [.aB z (fx P) fl] H=some (.aB 1 (fx P) false,H):=
 qZ Md (hz.imp id (fun h=>by rw[h];rfl)) (vt P) (O0 (Om _ (by rw[Oe];exact hP)) (by decide))
end F

def te(p:dj)(N:Nat)(H0:ae)(s':Env×ae)(I:Env×ae→Prop):Prop:=∃s,eF p N H0 s'=some s∧I s
def sS{R:Type}(p:dj)(N:Nat)(H0:ae)(I:Nat→Env×ae→Prop)(m i:Nat)(k:Out→Option R)(Q:R→Prop)(o:Out):Prop:=match o with
 |(.normal,s')=>i<m∧te p N H0 s' (I (i+1))
 |o=>post (k o) Q
@[go_sem] theorem FU {R:Type}(p N H0 I m i)(k:Out→Option R)(Q s):sS p N H0 I m i k Q (.normal,s)=(i<m∧te p N H0 s (I (i+1))):=Eq.trans rfl rfl
@[go_sem] theorem Ed {R:Type}(p N H0 I m i)(k:Out→Option R)(Q j s):sS p N H0 I m i k Q (.exit j,s)=post (k (.exit j,s)) Q:=Eq.trans rfl rfl
theorem nR{R:Type}{p:dj}{N:Nat}{H0:ae}{rec:Rec}{a:bO}{s0:Env×ae}{k:Out→Option R}{Q:R→Prop}
 (I:Nat→Env×ae→Prop) (m:Nat) (h0:te p N H0 s0 (I 0))
 (h:∀i s,i≤m→I i s→post (runK rec (fun x e H=>some (x,e,H)) a [] s.1 s.2 ()) (sS p N H0 I m i k Q)) :
 post (ay (iG (eT p N H0 rec a) s0) k ()) Q:=by
 have key:∀(j i:Nat) (s0 s:Env×ae),i+j=m→I i s→eF p N H0 s0=some s→∃n o,cJ (eT p N H0 rec a) n s0=some o∧post (k o) Q:=by
  intro j
  induction j with
  |zero=>
   intro i s0 s hi hPi hs
   obtain⟨o,h1,h2⟩:=h i s (by omega) hPi
   have hf:eT p N H0 rec a s0=some o:=by rw[jr,hs];exact h1
   obtain⟨x,s'⟩:=o
   cases x with
   |normal=>exact absurd h2.1 (by omega)
   |exit id=>exact⟨1,_,by simp only[cJ,hf],h2⟩
   |ret=>exact⟨1,_,by simp only[cJ,hf],h2⟩
  |succ j ih=>
   intro i s0 s hi hPi hs
   obtain⟨o,h1,h2⟩:=h i s (by omega) hPi
   have hf:eT p N H0 rec a s0=some o:=by rw[jr,hs];exact h1
   obtain⟨x,s'⟩:=o
   cases x with
   |normal=>
    obtain⟨_,s2,h5,h6⟩:=h2
    obtain⟨n,o,h3,h4⟩:=ih (i+1) s' s2 (by omega) h6 h5
    exact⟨n+1,o,by simp only[cJ,hf];exact h3,h4⟩
   |exit id=>exact⟨1,_,by simp only[cJ,hf],h2⟩
   |ret=>exact⟨1,_,by simp only[cJ,hf],h2⟩
 obtain⟨s,h1,h2⟩:=h0
 obtain⟨n,o,h3,h4⟩:=key m 0 s0 s (by omega) h2 h1
 rw[mS h3]
 exact h4
theorem cM{p:dj}{N:Nat}{H0:ae}{e:Env}{H:ae}(hv:p.aL=[])(hk:qF p.live=true) :
 eF p N H0 (e,H)=some (eo p.live.tail e,H):=by
 rw[wu,hv]
 simp only[rZ,ay,xq,hk,N6]
end Go.Sh
