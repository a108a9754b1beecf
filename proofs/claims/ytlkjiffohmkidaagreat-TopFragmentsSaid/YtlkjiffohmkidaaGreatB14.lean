/- A part of the proof: texts Ktfpya, Ktfpyb, Ktfpyc, Ktfpyd, Ktfpye, Ktfpyf, Ktfpyg, Ktfpyh, Ktfpyn, Ktfpyo, Ktfpyp, Ktfpyq, ShFr, Ktfw, Ktfx, Ktfxa, Ktfxb, Ktfxc. -/
import Derived.Test.YtlkjiffohmkidaaGreatB13
import Derived.Test.YtlkjiffohmkidaaGreatB9
namespace Go.Sh
set_option linter.unusedSectionVars false
set_option linter.unnecessarySimpa false
set_option linter.unusedSimpArgs false
set_option linter.unusedVariables false
set_option maxRecDepth 100000
set_option maxHeartbeats 4000000
namespace F
def sb(a b:Int):Int:=IntKind.wrap .i64 ((BitVec.ofInt 64 a&&&BitVec.ofInt 64 b).toNat)
@[go_sem high] theorem D4 (a b:Int):bY .and (Ru a) (Ru b)=some (Ru (sb a b)):=by
  simp only[bY,O8,N6];rfl
theorem kE(a:Int):sb a 1=a%2:=by
 unfold sb
 have h3:(BitVec.ofInt 64 1).toNat=1:=by decide
 rw[QY,h3,Rf,QJ]
 have hw:IntKind.wrap .i64 (((a%(2 ^ 64:Nat)).toNat%2:Nat):Int)=(((a%(2 ^ 64:Nat)).toNat%2:Nat):Int):=an (by omega) (by omega)
 rw[hw]
 omega
def bA(s:ByteArray)(i:Nat):Nat:=((s.data[i/8]?).getD 0).toNat/2 ^ (7-i%8)%2
theorem Ay(s:ByteArray)(i:Nat):bA s i≤1:=by unfold bA;omega
def jm(s:ByteArray)(p:Nat):Nat→Nat
 |0=>0
 |w+1=>2*jm s p w+bA s (p+w)
theorem nP(s:ByteArray)(p w:Nat):jm s p w<2 ^ w:=by
 induction w with
 |zero=>show 0<1;omega
 |succ w ih=>
  have:=Ay s (p+w)
  rw[jm,Nat.pow_succ];omega
def II(a b:Int):Int:=IntKind.u64.wrap ((BitVec.ofInt 64 a|||BitVec.ofInt 64 b).toNat)
@[go_sem high] theorem Ka (a b:Int):bY .or (.int .u64 a) (.int .u64 b)=some (.int .u64 (II a b)):=by
  simp only[bY,O8,N6];rfl
theorem Mo(N B:Nat)(hN:N<2 ^ 63)(hB:B≤1):((2*N)|||B)=2*N+B:=(Qt (i:=1) (b:=B) (by omega) N).symm
theorem EO{N B:Nat}(hN:N<2 ^ 63)(hB:B≤1):II (IntKind.u64.wrap ((N:Int)*2 ^ min 1 64)) (B:Int)=((2*N+B:Nat):Int):=by
 have h1:((N:Int)*2 ^ min 1 64)=((2*N:Nat):Int):=by rw[show min 1 64=1 from rfl];omega
 unfold II
 rw[h1,e7 (n:=((2*N:Nat):Int)) (by omega) (by omega),Q9,gl _ (by omega),gl _ (by omega),Mo N B hN hB]
 exact e7 (by omega) (by omega)
theorem HV{v:Nat}(hv:v<256):oF (v:Int) 1=((v%2:Nat):Int):=by
 unfold oF
 have h3:(BitVec.ofInt 8 1).toNat=1:=by decide
 rw[QY,il _ hv,h3,Rf]
 exact jK (by omega) (by omega)
theorem zH{v k:Nat}(hv:v<256)(hk:k≤7):IntKind.u64.wrap (oF ((v:Int).fdiv (2 ^ min k 8)) 1)=((v/2 ^ k%2:Nat):Int):=by
 have:=Nat.div_le_self v (2 ^ k)
 rw[Pb (by omega),cZ,HV (by omega)]
 exact e7 (by omega) (by omega)
abbrev rX(s:ByteArray)(p:Nat)(er:Int):aj:=.box [.str s,Ru p,Ru er]
theorem xi{A:Type}{l:List A}{b:Nat}{x:A}(h:l[b]?=some x):l.set b x=l:=by
 apply Pk
 intro j
 rw[PY]
 by_cases hj:b=j
 ·subst hj
  have hl:b<l.length:=(NT.1 h).1
  rw[if_pos rfl,if_pos hl,h]
 ·rw[if_neg hj]
theorem AH(n:Nat)(bl:List aj)(es:List (Nat×Nat))(b w p:Nat)(er:Int)(s:ByteArray)(hb:bl[b]?=some (rX s p er))(hw:w≤63)(hp:p+w≤8*s.size)(hs:s.size≤1000) :
 ab T (n+1) (.fn 137) [.ptr b 0 0 0,Ru w] ⟨bl,es,0⟩=some (.int .u64 (jm s p w),⟨bl.set b (rX s (p+w) er),es,0⟩):=by
 refine ao J2 (by rfl) ?_
 have hbl:b<bl.length:=(NT.1 hb).1
 have h0:=xi hb
 have hg:∀x,(bl.set b x)[b]?=some x:=fun x=>by rw[Pd hbl]
 have d0:decide (0≤b)=true:=NN (by omega)
 have d1:decide (b<bl.length)=true:=NN hbl
 have d2:decide (bl.length≤bl.length)=true:=NN (NV _)
 have d3:decide (max (b+1) 0≤bl.length)=true:=NN (by omega)
 have ht:∀x,List.take bl.length (bl.set b x)=bl.set b x:=fun x=>OR (by rw[NZ];exact NV _)
 simp only[FW,go_sem,simprocAttr]
 refine bz (fun j=>([(0,.ptr b 0 0 0),(5,.int .u64 (jm s p j)),(6,Ru w),(7,Ru j)],⟨bl.set b (rX s (p+j) er),[],0⟩)) (fun _=>True) w ?_ trivial ?_
 ·simp only[go_sem,simprocAttr,h0,d3,Ph]
  try rfl
 ·intro j hj _
  rcases Oh j w with hlt|hge
  ·have hx:decide ((j:Int)<(w:Int))=true:=NN (by omega)
   have hs1:bX ((j:Int)+1)=((j+1:Nat):Int):=by rw[an (by omega) (by omega)];omega
   have hw8:bX (((p+j)/8:Nat):Int)=(((p+j)/8:Nat):Int):=an (by omega) (by omega)
   have hw7:bX (7-(((p+j)%8:Nat):Int))=((7-(p+j)%8:Nat):Int):=by rw[an (by omega) (by omega)];omega
   have hp1:bX (((p+j:Nat):Int)+1)=((p+(j+1):Nat):Int):=by rw[an (by omega) (by omega)];omega
   have hi8:(p+j)/8<s.size:=by omega
   have hd:s.data[(p+j)/8]?=some s.data[(p+j)/8]:=Od (by exact hi8)
   have hv:=Pw s.data[(p+j)/8]
   have hN:=nP s p j
   have h63:2 ^ j≤2 ^ 62:=Pg (by decide) (by omega)
   have hE:jm s p (j+1)=2*jm s p j+s.data[(p+j)/8].toNat/2 ^ (7-(p+j)%8)%2:=by rw[jm,bA,hd,O2]
   obtain⟨y,hy⟩:∃y,s.data[(p+j)/8]=y:=⟨_,rfl⟩
   rw[hy]at hd hv hE
   have hbit:=zH (v:=y.toNat) (k:=7-(p+j)%8) hv (by omega)
   have hor:=EO (N:=jm s p j) (B:=y.toNat/2 ^ (7-(p+j)%8)%2) (by omega) (by omega)
   simp only[go_sem,simprocAttr,hx,hs1,hg,d0,d1,d2,d3,ht,hw8,hw7,hp1,hi8,hd,hbit,hor,←hE,NZ,Rm,N0]
   refine⟨by first|trivial|omega,by first|trivial|rfl,trivial⟩
  ·obtain rfl:j=w:=by omega
   have hx:decide ((j:Int)<(j:Int))=false:=NQ (by omega)
   simp only[go_sem,simprocAttr,hx,hg,d0,d1,d2,d3,ht,NZ]
end F
section
namespace F
def aI(s:ByteArray)(w:Nat)(σ:Nat×Int):Nat×(Nat×Int):=
 if σ.2=0 then(if σ.1+w≤8*s.size then(jm s σ.1 w,(σ.1+w,0))else(0,(σ.1,9)))else(0,σ)
theorem rP(s:ByteArray)(w:Nat)(σ:Nat×Int):(aI s w σ).1<2 ^ w:=by
 have h:=nP s σ.1 w
 have h0:0<2 ^ w:=Qs (by decide)
 unfold aI
 by_cases h1:σ.2=0
 ·rw[if_pos h1]
  by_cases h2:σ.1+w≤8*s.size
  ·rw[if_pos h2];exact h
  ·rw[if_neg h2];exact h0
 ·rw[if_neg h1];exact h0
theorem dg(s:ByteArray)(w:Nat)(σ:Nat×Int)(h:σ.1≤8*s.size):(aI s w σ).2.1≤8*s.size:=by
 unfold aI
 by_cases h1:σ.2=0
 ·rw[if_pos h1]
  by_cases h2:σ.1+w≤8*s.size
  ·rw[if_pos h2];exact h2
  ·rw[if_neg h2];exact h
 ·rw[if_neg h1];exact h
abbrev dH(b0:aj)(s:ByteArray)(σ:Nat×Int)(tl:List aj)(es:List (Nat×Nat)):ae:=⟨b0::rX s σ.1 σ.2::tl,es,0⟩
section
variable(b0:aj)(tl:List aj)(es:List (Nat×Nat))(s:ByteArray)
def tv(s:ByteArray)(σ:Nat×Int):Int:=if σ.2=0 then((8*s.size-σ.1:Nat):Int)else 0
theorem zd(n:Nat)(σ:Nat×Int)(hs:s.size≤1000)(hp:σ.1≤8*s.size):ab T (n+1) (.fn 138) [.ptr 1 0 0 0] (dH b0 s σ tl es)=some (Ru (tv s σ),dH b0 s σ tl es):=by
 refine ao Iy (by rfl) ?_
 obtain⟨p,er⟩:=σ
 have hp:p≤8*s.size:=hp
 unfold tv
 have hN:decide (max 2 0≤tl.length+1+1)=true:=NN (by omega)
 have l1:decide (1<tl.length+1+1)=true:=NN (by omega)
 have l2:decide (2≤tl.length+1+1)=true:=NN (by omega)
 have w1:bX (8*(s.size:Int))=8*(s.size:Int):=an (by omega) (by omega)
 have w2:bX (8*(s.size:Int)-(p:Int))=((8*s.size-p:Nat):Int):=by rw[an (by omega) (by omega)];omega
 by_cases h1:er=0
 ·subst h1
  have d:decide ((0:Int)=0)=true:=rfl
  rw[if_pos rfl]
  simp only[Bj,go_sem,Int.reduceToNat,Nat.reduceAdd,Nat.reduceBEq,Nat.reduceLeDiff,Nat.reduceLT,Nat.reduceMul,Nat.reduceSub,Int.reduceEq,Int.reduceLT,Int.reduceLE,Int.reduceNeg,w1,w2,hN,l1,l2]
 ·have d:decide (er=0)=false:=NQ h1
  rw[if_neg h1]
  simp only[Bj,go_sem,Int.reduceToNat,Nat.reduceAdd,Nat.reduceBEq,Nat.reduceLeDiff,Nat.reduceLT,Nat.reduceMul,Nat.reduceSub,Int.reduceEq,Int.reduceLT,Int.reduceLE,Int.reduceNeg,d,hN,l1,l2]
theorem DG(n:Nat)(p:Nat)(e:Int):ab T (n+1) (.fn 175) [.ptr 1 0 0 0,Ru e] (dH b0 s (p,0) tl es)=some (.ax [],dH b0 s (p,e) tl es):=by
 refine ao Jn (by rfl) ?_
 have hN:decide (max 2 0≤tl.length+1+1)=true:=NN (by omega)
 have l1:decide (1<tl.length+1+1)=true:=NN (by omega)
 have l2:decide (2≤tl.length+1+1)=true:=NN (by omega)
 simp only[FH,go_sem,Int.reduceToNat,Nat.reduceAdd,Nat.reduceBEq,Nat.reduceLeDiff,Nat.reduceLT,Nat.reduceMul,Nat.reduceSub,Int.reduceEq,Int.reduceLT,Int.reduceLE,Int.reduceNeg,hN,l1,l2]
theorem yS(n:Nat)(w:Nat)(σ:Nat×Int)(hs:s.size≤1000)(hp:σ.1≤8*s.size)(hw:w≤63) :
 ab T (n+2) (.fn 141) [.ptr 1 0 0 0,.bool true,Ru w] (dH b0 s σ tl es)=some (.int .u64 (aI s w σ).1,dH b0 s (aI s w σ).2 tl es):=by
 refine ao IX (by rfl) ?_
 have h71:=fun es=>zd b0 tl es s n σ hs hp
 obtain⟨p,er⟩:=σ
 have hp:p≤8*s.size:=hp
 have hN:decide (max 2 0≤tl.length+1+1)=true:=NN (by omega)
 have l1:decide (1<tl.length+1+1)=true:=NN (by omega)
 have l2:decide (2≤tl.length+1+1)=true:=NN (by omega)
 unfold aI
 by_cases h1:er=0
 ·subst h1
  have hl:tv s (p,0)=((8*s.size-p:Nat):Int):=rfl
  rw[hl]at h71
  rw[if_pos rfl]
  by_cases h2:p+w≤8*s.size
  ·rw[if_pos h2]
   have d2:decide (((8*s.size-p:Nat):Int)<(w:Int))=false:=NQ (by omega)
   have h70:=fun es=>AH n (b0::rX s p 0::tl) es 1 w p 0 s rfl hw h2 hs
   simp only[Pm,Pl]at h70
   simp only[yc,go_sem,Int.reduceToNat,Nat.reduceAdd,Nat.reduceBEq,Nat.reduceLeDiff,Nat.reduceLT,Nat.reduceMul,Nat.reduceSub,Int.reduceEq,Int.reduceLT,Int.reduceLE,Int.reduceNeg,h71,h70,d2,hN,l1,l2]
  ·rw[if_neg h2]
   have d2:decide (((8*s.size-p:Nat):Int)<(w:Int))=true:=NN (by omega)
   have h104:=fun es=>DG b0 tl es s n p 9
   simp only[yc,go_sem,Int.reduceToNat,Nat.reduceAdd,Nat.reduceBEq,Nat.reduceLeDiff,Nat.reduceLT,Nat.reduceMul,Nat.reduceSub,Int.reduceEq,Int.reduceLT,Int.reduceLE,Int.reduceNeg,h71,h104,d2,hN,l1,l2]
 ·have d:decide (er=0)=false:=NQ h1
  rw[if_neg h1]
  simp only[yc,go_sem,Int.reduceToNat,Nat.reduceAdd,Nat.reduceBEq,Nat.reduceLeDiff,Nat.reduceLT,Nat.reduceMul,Nat.reduceSub,Int.reduceEq,Int.reduceLT,Int.reduceLE,Int.reduceNeg,d,hN,l1,l2]
theorem Lo(n:Nat)(w:Nat)(σ:Nat×Int)(hs:s.size≤1000)(hp:σ.1≤8*s.size)(h1:1≤w)(hw:w≤62) :
 ab T (n+3) (.fn 79) [.ptr 1 0 0 0,Ru w] (dH b0 s σ tl es)=some (Ru (aI s w σ).1,dH b0 s (aI s w σ).2 tl es):=by
 refine ao MC (by rfl) ?_
 have h96:=fun es=>yS b0 tl es s n w σ hs hp (by omega)
 have hlt:=rP s w σ
 have h62:2 ^ w≤2 ^ 62:=Pg (by decide) hw
 have w1:bX ((aI s w σ).1:Int)=((aI s w σ).1:Int):=an (by omega) (by omega)
 have x1:decide ((1:Int)≤(w:Int))=true:=NN (by omega)
 have x2:decide ((w:Int)≤63)=true:=NN (by omega)
 have l2:decide (2≤tl.length+1+1)=true:=NN (by omega)
 simp only[LI,go_sem,Int.reduceToNat,Nat.reduceAdd,Nat.reduceBEq,Nat.reduceLeDiff,Nat.reduceLT,Nat.reduceMul,Nat.reduceSub,Int.reduceEq,Int.reduceLT,Int.reduceLE,Int.reduceNeg,h96,w1,x1,x2,l2]
theorem D9(n:Nat)(σ:Nat×Int)(hs:s.size≤1000)(hp:σ.1≤8*s.size) :
 ab T (n+3) (.fn 146) [.ptr 1 0 0 0] (dH b0 s σ tl es)=some (.bool (decide ((aI s 1 σ).1=1)),dH b0 s (aI s 1 σ).2 tl es):=by
 refine ao IJ (by rfl) ?_
 have h96:∀es,ab T (n+2) (.fn 141) [.ptr 1 0 0 0,.bool true,Ru 1] (dH b0 s σ tl es)=some (.int .u64 (aI s 1 σ).1,dH b0 s (aI s 1 σ).2 tl es):=fun es=>yS b0 tl es s n 1 σ hs hp (by omega)
 have l2:decide (2≤tl.length+1+1)=true:=NN (by omega)
 have hc:decide ((((aI s 1 σ).1:Nat):Int)=1)=decide ((aI s 1 σ).1=1):=by rw[PK];simp only[NY];omega
 simp only[En,go_sem,Int.reduceToNat,Nat.reduceAdd,Nat.reduceBEq,Nat.reduceLeDiff,Nat.reduceLT,Nat.reduceMul,Nat.reduceSub,Int.reduceEq,Int.reduceLT,Int.reduceLE,Int.reduceNeg,h96,l2,hc]
def Cg(v:Nat):Int:=if 32768≤v then(v:Int)-65536 else v
theorem DO(x:Nat):(x:Int).fdiv (2 ^ min 15 64)=((x/2 ^ 15:Nat):Int):=by rw[show min 15 64=15 from rfl,cZ]
theorem IL(n:Nat)(σ:Nat×Int)(hs:s.size≤1000)(hp:σ.1≤8*s.size) :
 ab T (n+3) (.fn 172) [.ptr 1 0 0 0,Ru 16] (dH b0 s σ tl es)=some (Ru (Cg (aI s 16 σ).1),dH b0 s (aI s 16 σ).2 tl es):=by
 refine ao JP (by rfl) ?_
 have h96:∀es,ab T (n+2) (.fn 141) [.ptr 1 0 0 0,.bool true,Ru 16] (dH b0 s σ tl es)=some (.int .u64 (aI s 16 σ).1,dH b0 s (aI s 16 σ).2 tl es):=fun es=>yS b0 tl es s n 16 σ hs hp (by omega)
 have hlt:=rP s 16 σ
 have hN:decide (max 2 0≤tl.length+1+1)=true:=NN (by omega)
 have l1:decide (1<tl.length+1+1)=true:=NN (by omega)
 have l2:decide (2≤tl.length+1+1)=true:=NN (by omega)
 have w1:bX ((aI s 16 σ).1:Int)=((aI s 16 σ).1:Int):=an (by omega) (by omega)
 have m2:bX (16-1)=15:=by decide
 have m3:bX (1*2 ^ min 16 64)=65536:=by decide
 have hz:(aI s 16 σ).2.2≠0→(aI s 16 σ).1=0:=by
  unfold aI
  intro h
  split
  ·rename_i h1
   rw[if_pos h1]at h
   split
   ·rename_i h2
    rw[if_pos h2]at h
    exact absurd rfl h
   ·rfl
  ·rfl
 obtain⟨v,σ',hv⟩:∃v σ',aI s 16 σ=(v,σ'):=⟨_,_,rfl⟩
 rw[hv]at h96 hlt w1 hz⊢
 obtain⟨p',er'⟩:=σ'
 have hlt:v<65536:=hlt
 have w2:bX ((v:Int)-65536)=(v:Int)-65536:=an (by omega) (by omega)
 have hz:er'≠0→v=0:=hz
 simp only[]at h96 w1⊢
 by_cases h1:er'=0
 ·subst h1
  unfold Cg
  by_cases h2:32768≤v
  ·rw[if_pos h2]
   have d2:decide (((v/2 ^ 15%2:Nat):Int)=1)=true:=NN (by omega)
   have ha:sb ((v/2 ^ 15:Nat):Int) 1=((v/2 ^ 15%2:Nat):Int):=by rw[kE];omega
   simp only[yi,go_sem,Int.reduceToNat,Nat.reduceAdd,Nat.reduceBEq,Nat.reduceLeDiff,Nat.reduceLT,Nat.reduceMul,Nat.reduceSub,Int.reduceEq,Int.reduceLT,Int.reduceLE,Int.reduceNeg,h96,w1,m2,m3,DO,ha,d2,w2,hN,l1,l2]
  ·rw[if_neg h2]
   have d2:decide (((v/2 ^ 15%2:Nat):Int)=1)=false:=NQ (by omega)
   have ha:sb ((v/2 ^ 15:Nat):Int) 1=((v/2 ^ 15%2:Nat):Int):=by rw[kE];omega
   simp only[yi,go_sem,Int.reduceToNat,Nat.reduceAdd,Nat.reduceBEq,Nat.reduceLeDiff,Nat.reduceLT,Nat.reduceMul,Nat.reduceSub,Int.reduceEq,Int.reduceLT,Int.reduceLE,Int.reduceNeg,h96,w1,m2,m3,DO,ha,d2,hN,l1,l2]
 ·have h0:=hz h1
  subst h0
  have d:decide (er'=0)=false:=NQ h1
  have hs0:Cg 0=0:=rfl
  have w0:bX 0=0:=by decide
  simp only[yi,go_sem,Int.reduceToNat,Nat.reduceAdd,Nat.reduceBEq,Nat.reduceLeDiff,Nat.reduceLT,Nat.reduceMul,Nat.reduceSub,Int.reduceEq,Int.reduceLT,Int.reduceLE,Int.reduceNeg,h96,w0,d,hs0,hN,l1,l2,Rj,Rr]
end
end F
end
section
namespace F
theorem MZ(H:ae)(m:Nat)(h:m≤100000):nm 1 [.int .u8 0] 1 H (Ru m) (Ru m)=some (.bG H.bl.length 0 0 m,aV H (.arr 0 1 (List.replicate m [.int .u8 0]) true)):=by
 have h1:decide ((0:Int)≤(m:Int))=true:=NN (by omega)
 have h2:decide ((m:Int)≤(m:Int))=true:=NN (by omega)
 have h3:decide ((m:Int)*((1:Nat):Int)≤(cf:Int))=true:=NN (by have:(cf:Int)=1099511627776:=rfl;omega)
 simp only[nm,h1,h2,h3,O5,N6,N0]
def vh(s:ByteArray)(p m:Nat):ByteArray:=⟨((List.range m).map fun i=>UInt8.ofNat (jm s (p+8*i) 8)).toArray⟩
theorem xN(s:ByteArray)(p m:Nat):(vh s p m).size=m:=by simp[vh,ByteArray.size]
def my(s:ByteArray)(σ:Nat×Int):ByteArray×(Nat×Int):=
 if(aI s 7 σ).2.2=0 then
  (if(aI s 7 σ).2.1+8*(aI s 7 σ).1≤8*s.size then(vh s (aI s 7 σ).2.1 (aI s 7 σ).1,((aI s 7 σ).2.1+8*(aI s 7 σ).1,0))else(⟨#[]⟩,((aI s 7 σ).2.1,9)))
 else(⟨#[]⟩,(aI s 7 σ).2)
theorem wM(s:ByteArray)(σ:Nat×Int)(h:σ.1≤8*s.size):(my s σ).2.1≤8*s.size:=by
 have h7:=dg s 7 σ h
 unfold my
 by_cases h1:(aI s 7 σ).2.2=0
 ·rw[if_pos h1]
  by_cases h2:(aI s 7 σ).2.1+8*(aI s 7 σ).1≤8*s.size
  ·rw[if_pos h2];exact h2
  ·rw[if_neg h2];exact h7
 ·rw[if_neg h1];exact h7
def fq(s:ByteArray)(p m i:Nat):List (List SV):=(List.range m).map fun j=>[.int .u8 ((if j<i then jm s (p+8*j) 8 else 0:Nat):Nat)]
@[go_sem] theorem jn {s p m i}:(fq s p m i).length=m:=by simp[fq]
theorem rV(s p m):List.replicate m [SV.int .u8 0]=fq s p m 0:=by
 apply Pk
 intro j
 simp only[fq,Py,Qc]
 by_cases h:j<m
 ·rw[P1 h,if_pos h];rfl
 ·rw[Oq (by simp;omega),if_neg h];rfl
theorem uI{s p m i}(h:i<m):(fq s p m i)[i]?=some [.int .u8 0]:=by
 simp only[fq,Py,P1 h,Oo,if_neg (P7 i)];rfl
theorem uO{s p m i}(h:i<m):(fq s p m i).set i [.int .u8 (jm s (p+8*i) 8:Nat)]=fq s p m (i+1):=by
 apply Pk
 intro j
 rw[PY]
 by_cases h2:i=j
 ·subst h2
  rw[if_pos rfl,if_pos (by rw[jn];exact h)]
  simp only[fq,Py,P1 h,Oo]
  rw[if_pos (by omega)]
 ·rw[if_neg h2]
  by_cases hj:j<m
  ·simp only[fq,Py,P1 hj,Oo]
   by_cases h3:j<i
   ·rw[if_pos h3,if_pos (by omega)]
   ·rw[if_neg h3,if_neg (by omega)]
  ·rw[Oq (by rw[jn];omega),Oq (by rw[jn];omega)]
theorem toB_rowsT(s p m):toBytes (fq s p m m)=some ((List.range m).map fun i=>UInt8.ofNat (jm s (p+8*i) 8)):=by
 have h:fq s p m m=(List.range m).map fun j=>[.int .u8 ((jm s (p+8*j) 8:Nat):Int)]:=by
  unfold fq
  apply Qd
  intro j hj
  rw[if_pos (Of.1 hj)]
 rw[h];exact toB_map _ _
section
variable(b0:aj)(tl:List aj)(es:List (Nat×Nat))(s:ByteArray)
theorem IQ(n:Nat)(σ:Nat×Int)(hs:s.size≤1000)(hp:σ.1≤8*s.size) :
 ab T (n+4) (.fn 199) [.ptr 1 0 0 0,Ru 127] (dH b0 s σ tl es)=some (.str (my s σ).1,dH b0 s (my s σ).2 tl es):=by
 refine ao Kz (by rfl) ?_
 have h101:=fun H=>BA (n+2) H 127
 have hl1:(decide ((1:Int)≤127)&&decide ((127:Int)≤4095))=true:=by decide
 rw[hl1]at h101
 have h102:=fun H=>EJ n H
 have h96:∀es,ab T (n+3) (.fn 141) [.ptr 1 0 0 0,.bool true,Ru 7] (dH b0 s σ tl es)=some (.int .u64 (aI s 7 σ).1,dH b0 s (aI s 7 σ).2 tl es):=fun es=>yS b0 tl es s (n+1) 7 σ hs hp (by omega)
 have hp7:=dg s 7 σ hp
 have hlt:=rP s 7 σ
 have hN:decide (max 2 0≤tl.length+1+1)=true:=NN (by omega)
 have l1:decide (1<tl.length+1+1)=true:=NN (by omega)
 have l2:decide (2≤tl.length+1+1)=true:=NN (by omega)
 have w1:bX ((aI s 7 σ).1:Int)=((aI s 7 σ).1:Int):=an (by omega) (by omega)
 unfold my
 obtain⟨m,p,er,hv⟩:∃m p er,aI s 7 σ=(m,(p,er)):=⟨_,_,_,rfl⟩
 rw[hv]at h96 hlt w1 hp7⊢
 have hlt:m<128:=hlt
 have hp7:p≤8*s.size:=hp7
 simp only[]at h96 w1⊢
 have x0:decide ((127:Int)<(m:Int))=false:=NQ (by omega)
 by_cases h1:er=0
 ·subst h1
  rw[if_pos rfl]
  have h71:=fun es=>zd b0 tl es s (n+2) (p,0) hs hp7
  have hl:tv s (p,0)=((8*s.size-p:Nat):Int):=rfl
  rw[hl]at h71
  have w2:bX (8*(m:Int))=8*(m:Int):=an (by omega) (by omega)
  by_cases h2:p+8*m≤8*s.size
  ·rw[if_pos h2]
   have d2:decide (((8*s.size-p:Nat):Int)<8*(m:Int))=false:=NQ (by omega)
   have hG:∀x:aj,(tl++[x])[tl.length]?=some x:=fun x=>by rw[Ol (NV _),Po];rfl
   have hS:∀x y:aj,(tl++[x]).set tl.length y=tl++[y]:=fun x y=>by rw[QW _ _ (NV _),Po];rfl
   have hT:∀x:aj,(tl++[x]).take tl.length=tl:=fun x=>by simp
   have hN3:decide (max (tl.length+1+1+1) 0≤tl.length+1+1+1)=true:=NN (by omega)
   have l3:decide (tl.length+1+1<tl.length+1+1+1)=true:=NN (by omega)
   have l4:decide (tl.length+1+1≤tl.length+1+1+1)=true:=NN (by omega)
   have hN4:decide (max (max 2 0) (max (tl.length+1+1+1) 0)≤tl.length+1+1+1)=true:=NN (by omega)
   have hT1:∀x:aj,(tl++[x]).take (tl.length+1)=tl++[x]:=fun x=>OR (by simp)
   have l6:decide (tl.length≤tl.length+1)=true:=NN (by omega)
   have l5:∀a:Nat,decide (0≤a)=true:=fun a=>NN (by omega)
   simp only[yp,go_sem,simprocAttr,h101,h102,h96,w1,x0,h71,w2,d2,hN,l1,l2,MZ _ _ (show m≤100000 by omega),rV s p m,hG,Oy,NO]
   refine bz (fun i=>([(6,.oI 137 [.ptr 1 0 0 0]),(7,.bG (tl.length+1+1) 0 0 m),(41,Ru m),(42,Ru i)],⟨b0::rX s (p+8*i) 0::(tl++[.arr 0 1 (fq s p m i) true]),[],0⟩)) (fun _=>True) m ?_ trivial ?_
   ·simp only[go_sem,simprocAttr,hN3,hN4,hT1,NO,Oy]
    try rfl
   ·intro i hi _
    rcases Oh i m with hlt2|hge
    ·have hs2:bX ((i:Int)+1)=((i+1:Nat):Int):=by rw[an (by omega) (by omega)];omega
     have h70:∀x es,ab T (n+3) (.fn 137) [.ptr 1 0 0 0,Ru 8] ⟨b0::rX s (p+8*i) 0::(tl++[x]),es,0⟩=some (.int .u64 (jm s (p+8*i) 8),⟨b0::rX s (p+8*(i+1)) 0::(tl++[x]),es,0⟩):=fun x es=>
      AH (n+2) (b0::rX s (p+8*i) 0::(tl++[x])) es 1 8 (p+8*i) 0 s rfl (by omega) (by omega) hs
     have h8:=nP s (p+8*i) 8
     have hu:=yK (x:=jm s (p+8*i) 8) h8
     have bT:=uO (s:=s) (p:=p) hlt2
     have az:=uI (s:=s) (p:=p) hlt2
     simp only[go_sem,simprocAttr,hlt2,h70,hu,hs2,hG,hS,hT,az,bT,hN3,hN4,hT1,l3,l4,l5,NO,Oy,PR,N0]
     refine⟨by first|trivial|omega,by first|trivial|rfl,trivial⟩
    ·obtain rfl:i=m:=by omega
     have hd:decide (i<i)=false:=NQ (by omega)
     have ht:List.take i (fq s p i i)=fq s p i i:=OR (by rw[jn];exact NV _)
     have hl2:decide (i≤i)=true:=NN (NV _)
     simp only[go_sem,simprocAttr,hd,ht,hl2,hG,hS,hT,toB_rowsT,vh,hN3,hN4,hT1,l2,l3,l4,l5,l6,NO,Oy,PR]
  ·rw[if_neg h2]
   have d2:decide (((8*s.size-p:Nat):Int)<8*(m:Int))=true:=NN (by omega)
   have h104:=fun es=>DG b0 tl es s (n+2) p 9
   simp only[yp,go_sem,simprocAttr,h101,h102,h96,w1,x0,h71,w2,d2,h104,hN,l1,l2]
 ·rw[if_neg h1]
  have d:decide (er=0)=false:=NQ h1
  simp only[yp,go_sem,simprocAttr,h101,h102,h96,w1,d,hN,l1,l2]
end
end F
end
section
namespace F
abbrev pR:SV:=.agg [.bF,.ptr 1 0 0 0]
abbrev dF(b0:aj)(s:ByteArray)(σ:Nat×Int)(cs:List SV)(tl:List aj)(es:List (Nat×Nat)):ae:=⟨b0::rX s σ.1 σ.2::.box cs::tl,es,0⟩
theorem LU{cs:List SV}{j:Nat}{x:SV}(h:j<cs.length):List.take j cs++[x]++List.drop (j+1) cs=cs.set j x:=by
 rw[List.set_eq_take_append_cons_drop,if_pos h,NR];rfl
def yO(s:ByteArray)(σ:Nat×Int):Int×(Nat×Int):=if(aI s 1 σ).1=1 then(((aI s 5 (aI s 1 σ).2).1:Int),(aI s 5 (aI s 1 σ).2).2)else(-1,(aI s 1 σ).2)
theorem FN(s:ByteArray)(σ:Nat×Int)(h:σ.1≤8*s.size):(yO s σ).2.1≤8*s.size:=by
 have h1:=dg s 1 σ h
 have h2:=dg s 5 _ h1
 unfold yO
 split
 ·exact h2
 ·exact h1
section
variable(b0:aj)(tl:List aj)(es:List (Nat×Nat))(s:ByteArray)
theorem oq(n:Nat)(cs:List SV)(w j:Nat)(σ:Nat×Int)(hj:j<cs.length)(hs:s.size≤1000)(hp:σ.1≤8*s.size)(h1:1≤w)(hw:w≤62) :
 ab T (n+4) (.fn 134) [pR,Ru w,.ptr 2 0 0 j] (dF b0 s σ cs tl es)=some (.ax [],dF b0 s (aI s w σ).2 (cs.set j (Ru (aI s w σ).1)) tl es):=by
 refine ao Cf (by rfl) ?_
 have h:=fun tl es=>Lo b0 tl es s n w σ hs hp h1 hw
 have hG:∀x:aj,(tl++[x])[tl.length]?=some x:=fun x=>by rw[Ol (NV _),Po];rfl
 have hT:∀x:aj,(tl++[x]).take tl.length=tl:=fun x=>by simp
 have hN:decide (max 3 (max 2 0)≤tl.length+1+1+1)=true:=NN (by omega)
 have l0:∀a:Nat,decide (0≤a)=true:=fun a=>NN (by omega)
 have l1:decide (tl.length+1+1+1<tl.length+1+1+1+1)=true:=NN (by omega)
 have l2:decide (2<tl.length+1+1+1+1)=true:=NN (by omega)
 have l3:decide (tl.length+1+1+1≤tl.length+1+1+1+1)=true:=NN (by omega)
 have l4:decide (tl.length≤tl.length+1)=true:=NN (by omega)
 have lj:decide (j+1≤cs.length)=true:=NN hj
 simp only[zA,go_sem,simprocAttr,h,lj,LU hj,hN,hG,hT,l0,l1,l2,l3,l4,NO,Oy,Pl,Pm]
theorem Bb(n:Nat)(cs:List SV)(j:Nat)(σ:Nat×Int)(hj:j<cs.length)(hs:s.size≤1000)(hp:σ.1≤8*s.size) :
 ab T (n+5) (.fn 170) [pR,.ptr 2 0 0 j] (dF b0 s σ cs tl es)=some (.ax [],dF b0 s (my s σ).2 (cs.set j (.str (my s σ).1)) tl es):=by
 refine ao Bp (by rfl) ?_
 have h:=fun tl es=>IQ b0 tl es s n σ hs hp
 have hG:∀x:aj,(tl++[x])[tl.length]?=some x:=fun x=>by rw[Ol (NV _),Po];rfl
 have hT:∀x:aj,(tl++[x]).take tl.length=tl:=fun x=>by simp
 have hN:decide (max 3 (max 2 0)≤tl.length+1+1+1)=true:=NN (by omega)
 have l0:∀a:Nat,decide (0≤a)=true:=fun a=>NN (by omega)
 have l1:decide (tl.length+1+1+1<tl.length+1+1+1+1)=true:=NN (by omega)
 have l2:decide (2<tl.length+1+1+1+1)=true:=NN (by omega)
 have l3:decide (tl.length+1+1+1≤tl.length+1+1+1+1)=true:=NN (by omega)
 have l4:decide (tl.length≤tl.length+1)=true:=NN (by omega)
 have lj:decide (j+1≤cs.length)=true:=NN hj
 simp only[yU,go_sem,simprocAttr,h,lj,LU hj,hN,hG,hT,l0,l1,l2,l3,l4,NO,Oy,Pl,Pm]
section
variable(k a d q o c m e t u v:Int)(x:ByteArray)
theorem JT(n:Nat)(σ:Nat×Int)(hs:s.size≤1000)(hp:σ.1≤8*s.size) :
 ab T (n+5) (.fn 135) [pR,.ptr 2 0 0 2] (dF b0 s σ (fr k a d q o c m e t u v x) tl es)=some (.ax [],dF b0 s (yO s σ).2 (fr k a (yO s σ).1 q o c m e t u v x) tl es):=by
 refine ao Ep (by rfl) ?_
 have h:=fun tl es=>D9 b0 tl es s (n+1) σ hs hp
 have hG:∀x:aj,(tl++[x])[tl.length]?=some x:=fun x=>by rw[Ol (NV _),Po];rfl
 have hT:∀x:aj,(tl++[x]).take tl.length=tl:=fun x=>by simp
 have hN:decide (max 3 (max 2 0)≤tl.length+1+1+1)=true:=NN (by omega)
 have l0:∀a:Nat,decide (0≤a)=true:=fun a=>NN (by omega)
 have l1:decide (tl.length+1+1+1<tl.length+1+1+1+1)=true:=NN (by omega)
 have l2:decide (2<tl.length+1+1+1+1)=true:=NN (by omega)
 have l3:decide (tl.length+1+1+1≤tl.length+1+1+1+1)=true:=NN (by omega)
 have l4:decide (tl.length≤tl.length+1)=true:=NN (by omega)
 unfold yO
 by_cases hf:(aI s 1 σ).1=1
 ·rw[if_pos hf]
  have hd:decide ((aI s 1 σ).1=1)=true:=NN hf
  rw[hd]at h
  have h61:∀tl es,ab T (n+4) (.fn 134) [pR,Ru 5,.ptr 2 0 0 2] (dF b0 s (aI s 1 σ).2 (fr k a d q o c m e t u v x) tl es)=some (.ax [],dF b0 s (aI s 5 (aI s 1 σ).2).2 (fr k a (aI s 5 (aI s 1 σ).2).1 q o c m e t u v x) tl es):=
   fun tl es=>oq b0 tl es s n (fr k a d q o c m e t u v x) 5 2 (aI s 1 σ).2 (by simp) hs (dg s 1 σ hp) (by omega) (by omega)
  cases hx:decide (0≤d)<;>simp only[vw,go_sem,simprocAttr,h,hx,h61,hN,hG,hT,l0,l1,l2,l3,l4,NO,Oy,Pl,Pm]
 ·rw[if_neg hf]
  have hd:decide ((aI s 1 σ).1=1)=false:=NQ hf
  rw[hd]at h
  cases hx:decide (0≤d)<;>simp only[vw,go_sem,simprocAttr,h,hx,hN,hG,hT,l0,l1,l2,l3,l4,NO,Oy,Pl,Pm]
theorem I0(n:Nat)(σ:Nat×Int)(hs:s.size≤1000)(hp:σ.1≤8*s.size) :
 ab T (n+4) (.fn 131) [pR,.ptr 2 0 0 0] (dF b0 s σ (fr k a d q o c m e t u v x) tl es)=some (.ax [],dF b0 s (aI s 16 σ).2 (fr k a d q o c m (Cg (aI s 16 σ).1) t u v x) tl es):=by
 refine ao FK (by rfl) ?_
 have h:=fun tl es=>IL b0 tl es s n σ hs hp
 have hG:∀x:aj,(tl++[x])[tl.length]?=some x:=fun x=>by rw[Ol (NV _),Po];rfl
 have hT:∀x:aj,(tl++[x]).take tl.length=tl:=fun x=>by simp
 have hN:decide (max 3 (max 2 0)≤tl.length+1+1+1)=true:=NN (by omega)
 have l0:∀a:Nat,decide (0≤a)=true:=fun a=>NN (by omega)
 have l1:decide (tl.length+1+1+1<tl.length+1+1+1+1)=true:=NN (by omega)
 have l2:decide (2<tl.length+1+1+1+1)=true:=NN (by omega)
 have l3:decide (tl.length+1+1+1≤tl.length+1+1+1+1)=true:=NN (by omega)
 have l4:decide (tl.length≤tl.length+1)=true:=NN (by omega)
 simp only[AS,go_sem,simprocAttr,h,hN,hG,hT,l0,l1,l2,l3,l4,NO,Oy,Pl,Pm]
theorem KY(n:Nat)(σ:Nat×Int)(hs:s.size≤1000)(hp:σ.1≤8*s.size) :
 ab T (n+6) (.fn 133) [pR,.ptr 2 0 0 0] (dF b0 s σ (fr k a d q o c m e t u v x) tl es)=some (.ax [],dF b0 s (my s σ).2 (fr k a d q o c m e t u v (my s σ).1) tl es):=by
 refine ao Cn (by rfl) ?_
 have h:∀tl es,ab T (n+5) (.fn 170) [pR,.ptr 2 0 0 11] (dF b0 s σ (fr k a d q o c m e t u v x) tl es)=some (.ax [],dF b0 s (my s σ).2 (fr k a d q o c m e t u v (my s σ).1) tl es):=
  fun tl es=>Bb b0 tl es s n (fr k a d q o c m e t u v x) 11 σ (by simp) hs hp
 have hG:∀x:aj,(tl++[x])[tl.length]?=some x:=fun x=>by rw[Ol (NV _),Po];rfl
 have hT:∀x:aj,(tl++[x]).take tl.length=tl:=fun x=>by simp
 have hN:decide (max 3 (max 2 0)≤tl.length+1+1+1)=true:=NN (by omega)
 have l0:∀a:Nat,decide (0≤a)=true:=fun a=>NN (by omega)
 have l1:decide (tl.length+1+1+1<tl.length+1+1+1+1)=true:=NN (by omega)
 have l2:decide (2<tl.length+1+1+1+1)=true:=NN (by omega)
 have l3:decide (tl.length+1+1+1≤tl.length+1+1+1+1)=true:=NN (by omega)
 have l4:decide (tl.length≤tl.length+1)=true:=NN (by omega)
 simp only[zj,go_sem,simprocAttr,h,hN,hG,hT,l0,l1,l2,l3,l4,NO,Oy,Pl,Pm]
theorem Jg(n:Nat)(σ:Nat×Int)(hs:s.size≤1000)(hp:σ.1≤8*s.size) :
 ab T (n+6) (.fn 130) [pR,.ptr 2 0 0 0] (dF b0 s σ (fr k a d q o c m e t u v x) tl es)=some (.ax [],dF b0 s (my s (aI s 16 (aI s 8 σ).2).2).2 (fr k a d q o ((aI s 8 σ).1:Nat) ((aI s 16 (aI s 8 σ).2).1:Nat) e t u v (my s (aI s 16 (aI s 8 σ).2).2).1) tl es):=by
 refine ao BQ (by rfl) ?_
 have h0:∀tl es,ab T (n+5) (.fn 134) [pR,Ru 8,.ptr 2 0 0 5] (dF b0 s σ (fr k a d q o c m e t u v x) tl es)=some (.ax [],dF b0 s (aI s 8 σ).2 (fr k a d q o ((aI s 8 σ).1:Nat) m e t u v x) tl es):=
  fun tl es=>oq b0 tl es s (n+1) (fr k a d q o c m e t u v x) 8 5 σ (by simp) hs (hp) (by omega) (by omega)
 have h1:∀tl es,ab T (n+5) (.fn 134) [pR,Ru 16,.ptr 2 0 0 6] (dF b0 s (aI s 8 σ).2 (fr k a d q o ((aI s 8 σ).1:Nat) m e t u v x) tl es)=some (.ax [],dF b0 s (aI s 16 (aI s 8 σ).2).2 (fr k a d q o ((aI s 8 σ).1:Nat) ((aI s 16 (aI s 8 σ).2).1:Nat) e t u v x) tl es):=
  fun tl es=>oq b0 tl es s (n+1) (fr k a d q o ((aI s 8 σ).1:Nat) m e t u v x) 16 6 (aI s 8 σ).2 (by simp) hs (dg s 8 σ (hp)) (by omega) (by omega)
 have ht:∀tl es,ab T (n+5) (.fn 170) [pR,.ptr 2 0 0 11] (dF b0 s (aI s 16 (aI s 8 σ).2).2 (fr k a d q o ((aI s 8 σ).1:Nat) ((aI s 16 (aI s 8 σ).2).1:Nat) e t u v x) tl es)=some (.ax [],dF b0 s (my s (aI s 16 (aI s 8 σ).2).2).2 (fr k a d q o ((aI s 8 σ).1:Nat) ((aI s 16 (aI s 8 σ).2).1:Nat) e t u v (my s (aI s 16 (aI s 8 σ).2).2).1) tl es):=
  fun tl es=>Bb b0 tl es s n (fr k a d q o ((aI s 8 σ).1:Nat) ((aI s 16 (aI s 8 σ).2).1:Nat) e t u v x) 11 (aI s 16 (aI s 8 σ).2).2 (by simp) hs (dg s 16 (aI s 8 σ).2 (dg s 8 σ (hp)))
 have hG:∀x:aj,(tl++[x])[tl.length]?=some x:=fun x=>by rw[Ol (NV _),Po];rfl
 have hT:∀x:aj,(tl++[x]).take tl.length=tl:=fun x=>by simp
 have hN:decide (max 3 (max 2 0)≤tl.length+1+1+1)=true:=NN (by omega)
 have l0:∀a:Nat,decide (0≤a)=true:=fun a=>NN (by omega)
 have l1:decide (tl.length+1+1+1<tl.length+1+1+1+1)=true:=NN (by omega)
 have l2:decide (2<tl.length+1+1+1+1)=true:=NN (by omega)
 have l3:decide (tl.length+1+1+1≤tl.length+1+1+1+1)=true:=NN (by omega)
 have l4:decide (tl.length≤tl.length+1)=true:=NN (by omega)
 simp only[zw,go_sem,simprocAttr,h0,h1,ht,hN,hG,hT,l0,l1,l2,l3,l4,NO,Oy,Pl,Pm]
theorem HP(n:Nat)(σ:Nat×Int)(hs:s.size≤1000)(hp:σ.1≤8*s.size) :
 ab T (n+6) (.fn 132) [pR,.ptr 2 0 0 0] (dF b0 s σ (fr k a d q o c m e t u v x) tl es)=some (.ax [],dF b0 s (my s (aI s 16 (aI s 16 (aI s 27 σ).2).2).2).2 (fr k a d q o c m e ((aI s 27 σ).1:Nat) ((aI s 16 (aI s 27 σ).2).1:Nat) ((aI s 16 (aI s 16 (aI s 27 σ).2).2).1:Nat) (my s (aI s 16 (aI s 16 (aI s 27 σ).2).2).2).1) tl es):=by
 refine ao AZ (by rfl) ?_
 have h0:∀tl es,ab T (n+5) (.fn 134) [pR,Ru 27,.ptr 2 0 0 8] (dF b0 s σ (fr k a d q o c m e t u v x) tl es)=some (.ax [],dF b0 s (aI s 27 σ).2 (fr k a d q o c m e ((aI s 27 σ).1:Nat) u v x) tl es):=
  fun tl es=>oq b0 tl es s (n+1) (fr k a d q o c m e t u v x) 27 8 σ (by simp) hs (hp) (by omega) (by omega)
 have h1:∀tl es,ab T (n+5) (.fn 134) [pR,Ru 16,.ptr 2 0 0 9] (dF b0 s (aI s 27 σ).2 (fr k a d q o c m e ((aI s 27 σ).1:Nat) u v x) tl es)=some (.ax [],dF b0 s (aI s 16 (aI s 27 σ).2).2 (fr k a d q o c m e ((aI s 27 σ).1:Nat) ((aI s 16 (aI s 27 σ).2).1:Nat) v x) tl es):=
  fun tl es=>oq b0 tl es s (n+1) (fr k a d q o c m e ((aI s 27 σ).1:Nat) u v x) 16 9 (aI s 27 σ).2 (by simp) hs (dg s 27 σ (hp)) (by omega) (by omega)
 have h2:∀tl es,ab T (n+5) (.fn 134) [pR,Ru 16,.ptr 2 0 0 10] (dF b0 s (aI s 16 (aI s 27 σ).2).2 (fr k a d q o c m e ((aI s 27 σ).1:Nat) ((aI s 16 (aI s 27 σ).2).1:Nat) v x) tl es)=some (.ax [],dF b0 s (aI s 16 (aI s 16 (aI s 27 σ).2).2).2 (fr k a d q o c m e ((aI s 27 σ).1:Nat) ((aI s 16 (aI s 27 σ).2).1:Nat) ((aI s 16 (aI s 16 (aI s 27 σ).2).2).1:Nat) x) tl es):=
  fun tl es=>oq b0 tl es s (n+1) (fr k a d q o c m e ((aI s 27 σ).1:Nat) ((aI s 16 (aI s 27 σ).2).1:Nat) v x) 16 10 (aI s 16 (aI s 27 σ).2).2 (by simp) hs (dg s 16 (aI s 27 σ).2 (dg s 27 σ (hp))) (by omega) (by omega)
 have ht:∀tl es,ab T (n+5) (.fn 170) [pR,.ptr 2 0 0 11] (dF b0 s (aI s 16 (aI s 16 (aI s 27 σ).2).2).2 (fr k a d q o c m e ((aI s 27 σ).1:Nat) ((aI s 16 (aI s 27 σ).2).1:Nat) ((aI s 16 (aI s 16 (aI s 27 σ).2).2).1:Nat) x) tl es)=some (.ax [],dF b0 s (my s (aI s 16 (aI s 16 (aI s 27 σ).2).2).2).2 (fr k a d q o c m e ((aI s 27 σ).1:Nat) ((aI s 16 (aI s 27 σ).2).1:Nat) ((aI s 16 (aI s 16 (aI s 27 σ).2).2).1:Nat) (my s (aI s 16 (aI s 16 (aI s 27 σ).2).2).2).1) tl es):=
  fun tl es=>Bb b0 tl es s n (fr k a d q o c m e ((aI s 27 σ).1:Nat) ((aI s 16 (aI s 27 σ).2).1:Nat) ((aI s 16 (aI s 16 (aI s 27 σ).2).2).1:Nat) x) 11 (aI s 16 (aI s 16 (aI s 27 σ).2).2).2 (by simp) hs (dg s 16 (aI s 16 (aI s 27 σ).2).2 (dg s 16 (aI s 27 σ).2 (dg s 27 σ (hp))))
 have hG:∀x:aj,(tl++[x])[tl.length]?=some x:=fun x=>by rw[Ol (NV _),Po];rfl
 have hT:∀x:aj,(tl++[x]).take tl.length=tl:=fun x=>by simp
 have hN:decide (max 3 (max 2 0)≤tl.length+1+1+1)=true:=NN (by omega)
 have l0:∀a:Nat,decide (0≤a)=true:=fun a=>NN (by omega)
 have l1:decide (tl.length+1+1+1<tl.length+1+1+1+1)=true:=NN (by omega)
 have l2:decide (2<tl.length+1+1+1+1)=true:=NN (by omega)
 have l3:decide (tl.length+1+1+1≤tl.length+1+1+1+1)=true:=NN (by omega)
 have l4:decide (tl.length≤tl.length+1)=true:=NN (by omega)
 simp only[zk,go_sem,simprocAttr,h0,h1,h2,ht,hN,hG,hT,l0,l1,l2,l3,l4,NO,Oy,Pl,Pm]
end
end
end F
end
section
namespace F
section
variable(s:ByteArray)(σ:Nat×Int)
def kD:Nat:=(aI s 3 σ).1
def g1:Nat×Int:=(aI s 3 σ).2
def aD:Nat:=(aI s 5 (g1 s σ)).1
def g2:Nat×Int:=(aI s 5 (g1 s σ)).2
def dD:Int:=(yO s (g2 s σ)).1
def g3:Nat×Int:=(yO s (g2 s σ)).2
def qD:Nat:=(aI s 8 (g3 s σ)).1
def g4:Nat×Int:=(aI s 8 (g3 s σ)).2
def oD:Nat:=(aI s 8 (g4 s σ)).1
def g5:Nat×Int:=(aI s 8 (g4 s σ)).2
def GM:Nat:=(aI s 8 (g5 s σ)).1
def Hf:Nat:=(aI s 16 (aI s 8 (g5 s σ)).2).1
def CN:ByteArray×(Nat×Int):=my s (aI s 16 (aI s 8 (g5 s σ)).2).2
def Hr:Int:=Cg (aI s 16 (g5 s σ)).1
def GX:Nat:=(aI s 27 (g5 s σ)).1
def GB:Nat:=(aI s 16 (aI s 27 (g5 s σ)).2).1
def GG:Nat:=(aI s 16 (aI s 16 (aI s 27 (g5 s σ)).2).2).1
def CT:ByteArray×(Nat×Int):=my s (aI s 16 (aI s 16 (aI s 27 (g5 s σ)).2).2).2
def Dl:ByteArray×(Nat×Int):=my s (g5 s σ)
def cD:Int:=if kD s σ=1 then(GM s σ:Int)else 0
def mD:Int:=if kD s σ=1 then(Hf s σ:Int)else 0
def eD:Int:=if kD s σ=2 then Hr s σ else 0
def tD:Int:=if kD s σ=3 then(GX s σ:Int)else 0
def uD:Int:=if kD s σ=3 then(GB s σ:Int)else 0
def vD:Int:=if kD s σ=3 then(GG s σ:Int)else 0
def xD:ByteArray:=if kD s σ=1 then(CN s σ).1 else if kD s σ=3 then(CT s σ).1 else if kD s σ=4 then(Dl s σ).1 else⟨#[]⟩
def gD:Nat×Int:=if kD s σ=1 then(CN s σ).2 else if kD s σ=2 then(aI s 16 (g5 s σ)).2 else if kD s σ=3 then(CT s σ).2 else if kD s σ=4 then(Dl s σ).2 else g5 s σ
def od:List SV:=fr (kD s σ) (aD s σ) (dD s σ) (qD s σ) (oD s σ) (cD s σ) (mD s σ) (eD s σ) (tD s σ) (uD s σ) (vD s σ) (xD s σ)
theorem FD(h:σ.1≤8*s.size):(g1 s σ).1≤8*s.size:=dg s 3 σ h
theorem Fa(h:σ.1≤8*s.size):(g2 s σ).1≤8*s.size:=dg s 5 _ (FD s σ h)
theorem FY(h:σ.1≤8*s.size):(g3 s σ).1≤8*s.size:=FN s _ (Fa s σ h)
theorem DX(h:σ.1≤8*s.size):(g4 s σ).1≤8*s.size:=dg s 8 _ (FY s σ h)
theorem F8(h:σ.1≤8*s.size):(g5 s σ).1≤8*s.size:=dg s 8 _ (DX s σ h)
theorem J7(h:σ.1≤8*s.size):(gD s σ).1≤8*s.size:=by
 have h5:=F8 s σ h
 unfold gD
 split
 ·exact wM s _ (dg s 16 _ (dg s 8 _ h5))
 ·split
  ·exact dg s 16 _ h5
  ·split
   ·exact wM s _ (dg s 16 _ (dg s 16 _ (dg s 27 _ h5)))
   ·split
    ·exact wM s _ h5
    ·exact h5
theorem Ij(n:Nat)(b0:aj)(es:List (Nat×Nat))(hs:s.size≤1000)(hp:σ.1≤8*s.size) :
 ab T (n+7) (.fn 76) [pR,.ptr 2 0 0 0] (dF b0 s σ (fr 0 0 0 0 0 0 0 0 0 0 0 ⟨#[]⟩) [] es)=some (.bool (decide (kD s σ=1∨kD s σ=2∨kD s σ=3∨kD s σ=4)),dF b0 s (gD s σ) (od s σ) [] es):=by
 refine ao Ap (by rfl) ?_
 have q0:∀tl es,ab T (n+6) (.fn 134) [pR,Ru 3,.ptr 2 0 0 0] (dF b0 s σ (fr 0 0 0 0 0 0 0 0 0 0 0 ⟨#[]⟩) tl es)=some (.ax [],dF b0 s (g1 s σ) (fr (kD s σ) 0 0 0 0 0 0 0 0 0 0 ⟨#[]⟩) tl es):=
  fun tl es=>oq b0 tl es s (n+2) (fr 0 0 0 0 0 0 0 0 0 0 0 ⟨#[]⟩) 3 0 σ (by simp) hs hp (by omega) (by omega)
 have q1:∀tl es,ab T (n+6) (.fn 134) [pR,Ru 5,.ptr 2 0 0 1] (dF b0 s (g1 s σ) (fr (kD s σ) 0 0 0 0 0 0 0 0 0 0 ⟨#[]⟩) tl es)=some (.ax [],dF b0 s (g2 s σ) (fr (kD s σ) (aD s σ) 0 0 0 0 0 0 0 0 0 ⟨#[]⟩) tl es):=
  fun tl es=>oq b0 tl es s (n+2) (fr (kD s σ) 0 0 0 0 0 0 0 0 0 0 ⟨#[]⟩) 5 1 (g1 s σ) (by simp) hs (FD s σ hp) (by omega) (by omega)
 have q2:∀tl es,ab T (n+6) (.fn 135) [pR,.ptr 2 0 0 2] (dF b0 s (g2 s σ) (fr (kD s σ) (aD s σ) 0 0 0 0 0 0 0 0 0 ⟨#[]⟩) tl es)=some (.ax [],dF b0 s (g3 s σ) (fr (kD s σ) (aD s σ) (dD s σ) 0 0 0 0 0 0 0 0 ⟨#[]⟩) tl es):=
  fun tl es=>JT b0 tl es s (kD s σ) (aD s σ) 0 0 0 0 0 0 0 0 0 ⟨#[]⟩ (n+1) (g2 s σ) hs (Fa s σ hp)
 have q3:∀tl es,ab T (n+6) (.fn 134) [pR,Ru 8,.ptr 2 0 0 3] (dF b0 s (g3 s σ) (fr (kD s σ) (aD s σ) (dD s σ) 0 0 0 0 0 0 0 0 ⟨#[]⟩) tl es)=some (.ax [],dF b0 s (g4 s σ) (fr (kD s σ) (aD s σ) (dD s σ) (qD s σ) 0 0 0 0 0 0 0 ⟨#[]⟩) tl es):=
  fun tl es=>oq b0 tl es s (n+2) (fr (kD s σ) (aD s σ) (dD s σ) 0 0 0 0 0 0 0 0 ⟨#[]⟩) 8 3 (g3 s σ) (by simp) hs (FY s σ hp) (by omega) (by omega)
 have q4:∀tl es,ab T (n+6) (.fn 134) [pR,Ru 8,.ptr 2 0 0 4] (dF b0 s (g4 s σ) (fr (kD s σ) (aD s σ) (dD s σ) (qD s σ) 0 0 0 0 0 0 0 ⟨#[]⟩) tl es)=some (.ax [],dF b0 s (g5 s σ) (fr (kD s σ) (aD s σ) (dD s σ) (qD s σ) (oD s σ) 0 0 0 0 0 0 ⟨#[]⟩) tl es):=
  fun tl es=>oq b0 tl es s (n+2) (fr (kD s σ) (aD s σ) (dD s σ) (qD s σ) 0 0 0 0 0 0 0 ⟨#[]⟩) 8 4 (g4 s σ) (by simp) hs (DX s σ hp) (by omega) (by omega)
 have h5:=F8 s σ hp
 have hlen:∀(x y z w1 w2:aj),[x,y,z,w1,w2].length=5:=fun _ _ _ _ _=>rfl
 unfold od cD mD eD tD uD vD xD gD
 by_cases k1:kD s σ=1
 ·have qb:∀tl es,ab T (n+6) (.fn 130) [pR,.ptr 2 0 0 0] (dF b0 s (g5 s σ) (fr (1:Int) (aD s σ) (dD s σ) (qD s σ) (oD s σ) 0 0 0 0 0 0 ⟨#[]⟩) tl es)=some (.ax [],dF b0 s (CN s σ).2 (fr (1:Int) (aD s σ) (dD s σ) (qD s σ) (oD s σ) (GM s σ) (Hf s σ) 0 0 0 0 (CN s σ).1) tl es):=
   fun tl es=>Jg b0 tl es s 1 (aD s σ) (dD s σ) (qD s σ) (oD s σ) 0 0 0 0 0 0 ⟨#[]⟩ n (g5 s σ) hs h5
  simp only[k1,Rb,Ql]at q0 q1 q2 q3 q4⊢
  skip
  simp only[uG,go_sem,simprocAttr,q0,q1,q2,q3,q4,qb,Nat.reduceEqDiff,if_true,if_false,decide_true,or_true,true_or,or_self,or_false,false_or,reduceCtorEq]
 ·by_cases k2:kD s σ=2
  ·have qb:∀tl es,ab T (n+6) (.fn 131) [pR,.ptr 2 0 0 0] (dF b0 s (g5 s σ) (fr (2:Int) (aD s σ) (dD s σ) (qD s σ) (oD s σ) 0 0 0 0 0 0 ⟨#[]⟩) tl es)=some (.ax [],dF b0 s (aI s 16 (g5 s σ)).2 (fr (2:Int) (aD s σ) (dD s σ) (qD s σ) (oD s σ) 0 0 (Hr s σ) 0 0 0 ⟨#[]⟩) tl es):=
    fun tl es=>I0 b0 tl es s 2 (aD s σ) (dD s σ) (qD s σ) (oD s σ) 0 0 0 0 0 0 ⟨#[]⟩ (n+2) (g5 s σ) hs h5
   simp only[k2,Rb,Ql]at q0 q1 q2 q3 q4⊢
   skip
   simp only[uG,go_sem,simprocAttr,q0,q1,q2,q3,q4,qb,Nat.reduceEqDiff,if_true,if_false,decide_true,or_true,true_or,or_self,or_false,false_or,reduceCtorEq]
  ·by_cases k3:kD s σ=3
   ·have qb:∀tl es,ab T (n+6) (.fn 132) [pR,.ptr 2 0 0 0] (dF b0 s (g5 s σ) (fr (3:Int) (aD s σ) (dD s σ) (qD s σ) (oD s σ) 0 0 0 0 0 0 ⟨#[]⟩) tl es)=some (.ax [],dF b0 s (CT s σ).2 (fr (3:Int) (aD s σ) (dD s σ) (qD s σ) (oD s σ) 0 0 0 (GX s σ) (GB s σ) (GG s σ) (CT s σ).1) tl es):=
     fun tl es=>HP b0 tl es s 3 (aD s σ) (dD s σ) (qD s σ) (oD s σ) 0 0 0 0 0 0 ⟨#[]⟩ n (g5 s σ) hs h5
    simp only[k3,Rb,Ql]at q0 q1 q2 q3 q4⊢
    skip
    simp only[uG,go_sem,simprocAttr,q0,q1,q2,q3,q4,qb,Nat.reduceEqDiff,if_true,if_false,decide_true,or_true,true_or,or_self,or_false,false_or,reduceCtorEq]
   ·by_cases k4:kD s σ=4
    ·have qb:∀tl es,ab T (n+6) (.fn 133) [pR,.ptr 2 0 0 0] (dF b0 s (g5 s σ) (fr (4:Int) (aD s σ) (dD s σ) (qD s σ) (oD s σ) 0 0 0 0 0 0 ⟨#[]⟩) tl es)=some (.ax [],dF b0 s (Dl s σ).2 (fr (4:Int) (aD s σ) (dD s σ) (qD s σ) (oD s σ) 0 0 0 0 0 0 (Dl s σ).1) tl es):=
      fun tl es=>KY b0 tl es s 4 (aD s σ) (dD s σ) (qD s σ) (oD s σ) 0 0 0 0 0 0 ⟨#[]⟩ n (g5 s σ) hs h5
     simp only[k4,Rb,Ql]at q0 q1 q2 q3 q4⊢
     skip
     simp only[uG,go_sem,simprocAttr,q0,q1,q2,q3,q4,qb,Nat.reduceEqDiff,if_true,if_false,decide_true,or_true,true_or,or_self,or_false,false_or,reduceCtorEq]
    ·have j1:decide (((kD s σ:Nat):Int)=1)=false:=NQ (by omega)
     have j2:decide (((kD s σ:Nat):Int)=2)=false:=NQ (by omega)
     have j3:decide (((kD s σ:Nat):Int)=3)=false:=NQ (by omega)
     have j4:decide (((kD s σ:Nat):Int)=4)=false:=NQ (by omega)
     have i1:decide (1=((kD s σ:Nat):Int))=false:=NQ (by omega)
     have i2:decide (2=((kD s σ:Nat):Int))=false:=NQ (by omega)
     have i3:decide (3=((kD s σ:Nat):Int))=false:=NQ (by omega)
     have i4:decide (4=((kD s σ:Nat):Int))=false:=NQ (by omega)
     have b1:(((kD s σ:Nat):Int)==1)=false:=by simpa using j1
     have b2:(((kD s σ:Nat):Int)==2)=false:=by simpa using j2
     have b3:(((kD s σ:Nat):Int)==3)=false:=by simpa using j3
     have b4:(((kD s σ:Nat):Int)==4)=false:=by simpa using j4
     rw[NQ (show ¬(kD s σ=1∨kD s σ=2∨kD s σ=3∨kD s σ=4) by omega),if_neg k1,if_neg k1,if_neg k2,if_neg k3,if_neg k3,if_neg k3,if_neg k1,if_neg k3,if_neg k4,if_neg k1,if_neg k2,if_neg k3,if_neg k4]
     simp only[uG,go_sem,simprocAttr,q0,q1,q2,q3,q4,j1,j2,j3,j4,i1,i2,i3,i4,b1,b2,b3,b4]
end
end F
end
namespace F
theorem KP(n:Nat)(es:List (Nat×Nat))(b0:aj)(s:ByteArray)(hs:s.size≤1000):ab T (n+1) (.n8 75) [.str s] ⟨[b0],es,0⟩=some (.ptr 1 0 0 0,⟨[b0,.box [.str s,Rv,Rv]],es,0⟩):=by
 refine eH Mr ?_
 have x:decide ((65536:Int)<(s.size:Int))=false:=NQ (by omega)
 simp only[L4,go_sem,simprocAttr,x]
def yr(s:ByteArray)(σ:Nat×Int):Int:=if σ.2=0 then(if 8≤8*s.size-σ.1 then 10 else if jm s σ.1 (8*s.size-σ.1)=0 then 0 else 10)else σ.2
theorem K3(n:Nat)(es:List (Nat×Nat))(b0 b2:aj)(s:ByteArray)(p:Nat)(hs:s.size≤1000)(hp:p≤8*s.size)(h8:¬8≤8*s.size-p) :
 ab T (n+2) (.fn 136) [.ptr 3 0 0 0] ⟨[b0,rX s p 0,b2,.box [.ptr 1 0 0 0]],es,0⟩=some (.bool (!decide (jm s p (8*s.size-p)=0)),⟨[b0,rX s p 0,b2,.box [.ptr 1 0 0 0]],es,0⟩):=by
 refine ao Jt (by rfl) ?_
 have h71:∀tl es,ab T (n+1) (.fn 138) [.ptr 1 0 0 0] (dH b0 s (p,0) tl es)=some (Ru ((8*s.size-p:Nat):Int),dH b0 s (p,0) tl es):=fun tl es=>zd b0 tl es s n (p,0) hs hp
 have h70:∀es,ab T (n+1) (.fn 137) [.ptr 4 0 0 0,Ru ((8*s.size-p:Nat):Int)] ⟨[b0,rX s p 0,b2,.box [.ptr 1 0 0 0],rX s p 0],es,0⟩=some (.int .u64 (jm s p (8*s.size-p)),⟨[b0,rX s p 0,b2,.box [.ptr 1 0 0 0],rX s (p+(8*s.size-p)) 0],es,0⟩):=
  fun es=>AH n [b0,rX s p 0,b2,.box [.ptr 1 0 0 0],rX s p 0] es 4 (8*s.size-p) p 0 s rfl (by omega) (by omega) hs
 have hd:decide (((jm s p (8*s.size-p):Nat):Int)=0)=decide (jm s p (8*s.size-p)=0):=by rw[PK];simp only[NY];omega
 simp only[D8,go_sem,simprocAttr,h71,h70,hd]
theorem Lh(n:Nat)(es:List (Nat×Nat))(b0 b2:aj)(s:ByteArray)(σ:Nat×Int)(hs:s.size≤1000)(hp:σ.1≤8*s.size) :
 ab T (n+3) (.fn 77) [.ptr 1 0 0 0] ⟨[b0,rX s σ.1 σ.2,b2],es,0⟩=some (Ru (yr s σ),⟨[b0,rX s σ.1 σ.2,b2],es,0⟩):=by
 obtain⟨p,er⟩:=σ
 refine ao Mz (by rfl) ?_
 have hp:p≤8*s.size:=hp
 unfold yr
 by_cases h1:er=0
 ·subst h1
  rw[if_pos rfl]
  have h71:∀tl es,ab T (n+2) (.fn 138) [.ptr 1 0 0 0] (dH b0 s (p,0) tl es)=some (Ru ((8*s.size-p:Nat):Int),dH b0 s (p,0) tl es):=fun tl es=>zd b0 tl es s (n+1) (p,0) hs hp
  by_cases h8:8≤8*s.size-p
  ·rw[if_pos h8]
   have d8:decide ((8:Int)≤((8*s.size-p:Nat):Int))=true:=NN (by omega)
   simp only[Fo,go_sem,simprocAttr,h71,d8]
  ·rw[if_neg h8]
   have d8:decide ((8:Int)≤((8*s.size-p:Nat):Int))=false:=NQ (by omega)
   have h69:=fun es=>K3 n es b0 b2 s p hs hp h8
   by_cases h0:jm s p (8*s.size-p)=0
   ·rw[NN h0]at h69
    rw[if_pos h0]
    simp only[Fo,go_sem,simprocAttr,h71,d8,h69]
   ·rw[NQ h0]at h69
    rw[if_neg h0]
    simp only[Fo,go_sem,simprocAttr,h71,d8,h69]
 ·have d:decide (er=0)=false:=NQ h1
  rw[if_neg h1]
  simp only[Fo,go_sem,simprocAttr,d]
end F
namespace F
def xV(y:ByteArray):gI:=(BitVec.ofNat 16 ((y.data[y.size-2]?).getD 0).toNat <<< 8)|||BitVec.ofNat 16 ((y.data[y.size-1]?).getD 0).toNat
def n7(y:ByteArray):ByteArray:=y.extract 0 (y.size-2)
def vn(a b:Int):Int:=IntKind.u16.wrap ((BitVec.ofInt 16 a|||BitVec.ofInt 16 b).toNat)
@[go_sem high] theorem G5 (a b:Int):bY .or (.int .u16 a) (.int .u16 b)=some (.int .u16 (vn a b)):=by
  simp only[bY,O8,N6];rfl
theorem Mk(A B:gI):vn (A.toNat:Int) (B.toNat:Int)=((A|||B).toNat:Nat):=by
 unfold vn
 rw[GS,GS,ni]
 have:=(A|||B).isLt
 omega
theorem qx(y:ByteArray):(n7 y).size=y.size-2:=by
 unfold n7;rw[P4];omega
def Kq(y:ByteArray):SV:=if y.size<2 then .ax [.int .u16 0,Ru 9]else .ax [.int .u16 ((iN (n7 y) ^^^ xV y).toNat:Nat),Rv]
theorem Js(n:Nat)(H:ae)(y:ByteArray)(hs:y.size≤1000):ab T (n+6) (.fn 129) [.str y] H=some (Kq y,H):=by
 refine aw HL (by rfl) ?_
 unfold Kq
 by_cases h2:y.size<2
 ·rw[if_pos h2]
  have w1:bX ((y.size:Int)-2)=(y.size:Int)-2:=an (by omega) (by omega)
  have d1:decide ((y.size:Int)-2<0)=true:=NN (by omega)
  simp only[BZ,av,go_sem,simprocAttr,w1,d1]
 ·rw[if_neg h2]
  obtain⟨z,hz⟩:∃z,y.size=z+2:=⟨y.size-2,by omega⟩
  have w1:bX (((z+2:Nat):Int)-2)=(z:Int):=by rw[an (by omega) (by omega)];omega
  have w2:bX ((z:Int)+1)=((z+1:Nat):Int):=by rw[an (by omega) (by omega)];omega
  have d1:decide ((z:Int)<0)=false:=NQ (by omega)
  have d2:decide ((z:Int)≤((z+2:Nat):Int))=true:=NN (by omega)
  have d3:decide ((z:Int)<((z+2:Nat):Int))=true:=NN (by omega)
  have d4:decide (((z+1:Nat):Int)<((z+2:Nat):Int))=true:=NN (by omega)
  have d5:decide (z<z+2)=true:=NN (by omega)
  have d6:decide (z+1<z+2)=true:=NN (by omega)
  have hb:y.extract 0 z=n7 y:=by unfold n7;rw[hz];rfl
  have h56:=fun H=>FC n H (n7 y) (by rw[qx];omega)
  have hsz:y.data.size=z+2:=hz
  obtain⟨a,hA⟩:∃a,y.data[z]?=some a:=⟨_,Od (by omega)⟩
  obtain⟨b,hB⟩:∃b,y.data[z+1]?=some b:=⟨_,Od (by omega)⟩
  unfold xV
  rw[hz,show z+2-2=z from rfl,show z+2-1=z+1 from rfl,hA,hB,O2,O2]
  have hv:=Pw a
  have hv2:=Pw b
  have e1:IntKind.u16.wrap (a.toNat:Int)=((BitVec.ofNat 16 a.toNat:gI).toNat:Nat):=by rw[ni,←toW (by omega)];omega
  have e2:IntKind.u16.wrap (b.toNat:Int)=((BitVec.ofNat 16 b.toNat:gI).toNat:Nat):=by rw[ni,←toW (by omega)];omega
  have s1:=FB (BitVec.ofNat 16 a.toNat) 8 (by omega)
  simp only[BZ,av,go_sem,simprocAttr,hz,w1,w2,d1,d2,d3,d4,d5,d6,hb,h56,hA,hB,e1,e2,s1,Mk,DR,N0,Nat.add_lt_add_iff_left]
def JL(y:ByteArray):SV:=if y.size<2 then .ax [.str ⟨#[]⟩,Ru 9]else if iN (n7 y)=xV y then .ax [.str (n7 y),Rv]else .ax [.str ⟨#[]⟩,Ru 10]
theorem Af(A B:gI):decide ((((A ^^^ B).toNat:Nat):Int)=0)=decide (A=B):=by
 rw[PK]
 simp only[NY]
 constructor
 ·intro h
  have h0:A ^^^ B=0#16:=by apply QV;rw[QK];omega
  exact BitVec.xor_eq_zero_iff.1 h0
 ·intro h
  rw[BitVec.xor_eq_zero_iff.2 h];rfl
theorem MV(n:Nat)(H:ae)(y:ByteArray)(hs:y.size≤1000):ab T (n+7) (.fn 74) [.str y] H=some (JL y,H):=by
 refine aw ML (by rfl) ?_
 have h:=fun H=>Js n H y hs
 unfold Kq at h
 unfold JL
 by_cases h2:y.size<2
 ·rw[if_pos h2]at h⊢
  simp only[GV,av,go_sem,simprocAttr,h]
 ·rw[if_neg h2]at h⊢
  have w1:bX ((y.size:Int)-2)=((y.size-2:Nat):Int):=by rw[an (by omega) (by omega)];omega
  have d2:decide (((y.size-2:Nat):Int)≤(y.size:Int))=true:=NN (by omega)
  have d3:decide (y.size-2≤y.size)=true:=NN (by omega)
  have hb:y.extract 0 (y.size-2)=n7 y:=rfl
  by_cases hc:iN (n7 y)=xV y
  ·have hx:=Af (iN (n7 y)) (xV y)
   rw[NN hc]at hx
   rw[if_pos hc]
   simp only[GV,av,go_sem,simprocAttr,h,hx,w1,d2,d3,hb,N0]
  ·have hx:=Af (iN (n7 y)) (xV y)
   rw[NQ hc]at hx
   rw[if_neg hc]
   simp only[GV,av,go_sem,simprocAttr,h,hx]
end F
namespace F
abbrev fZ:List SV:=fr 0 0 0 0 0 0 0 0 0 0 0 ⟨#[]⟩
def sD:Nat×Int:=(0,0)
def AW(s:ByteArray):Bool:=decide (yr s (gD s sD)=0)&&nn (kD s sD) (aD s sD) (dD s sD) (qD s sD) (oD s sD) (cD s sD) (mD s sD) (eD s sD) (tD s sD) (uD s sD) (vD s sD) (xD s sD)
def G8(y:ByteArray):SV:=
 if 127<y.size then .ax [.agg fZ,Ru 8]else if y.size<2 then .ax [.agg fZ,Ru 9]
 else if iN (n7 y)=xV y then(bif AW (n7 y)then .ax [.agg (od (n7 y) sD),Rv]else .ax [.agg fZ,Ru 10])else .ax [.agg fZ,Ru 10]
theorem ua{k s d q o c m e t u v:Int}{x:ByteArray}(h:¬(k=1∨k=2∨k=3∨k=4)):nn k s d q o c m e t u v x=false:=by
 cases hc:nn k s d q o c m e t u v x with
 |false=>rfl
 |true=>
  obtain⟨_,_,_,_,_,hk⟩:=tP hc
  exfalso;apply h
  rcases hk with h|h|h|h
  ·exact .inl h.1
  ·exact .inr (.inl h.1)
  ·exact .inr (.inr (.inl h.1))
  ·exact .inr (.inr (.inr h))
theorem L6(n:Nat)(H:ae)(y:ByteArray):ab T (n+8) (.fn 33) [.str y] H=some (G8 y,H):=by
 refine aw Nd (by rfl) ?_
 unfold G8
 by_cases h1:127<y.size
 ·rw[if_pos h1]
  have d1:decide ((127:Int)<(y.size:Int))=true:=NN (by omega)
  simp only[Br,av,go_sem,simprocAttr,d1]
 ·rw[if_neg h1]
  have d1:decide ((127:Int)<(y.size:Int))=false:=NQ (by omega)
  have h40:=fun H=>MV n H y (by omega)
  unfold JL at h40
  by_cases h2:y.size<2
  ·rw[if_pos h2]at h40⊢
   simp only[Br,av,go_sem,simprocAttr,d1,h40]
  ·rw[if_neg h2]at h40⊢
   by_cases hc:iN (n7 y)=xV y
   ·rw[if_pos hc]at h40⊢
    have hs:(n7 y).size≤1000:=by rw[qx];omega
    obtain⟨s,hsd⟩:∃s,n7 y=s:=⟨_,rfl⟩
    rw[hsd]at h40 hs⊢
    have h41:=fun es b0=>KP (n+6) es b0 s hs
    have h27:∀es b0,ab T (n+7) (.fn 76) [.agg [.bF,.ptr 1 0 0 0],.ptr 2 0 0 0] ⟨[b0,.box [.str s,Rv,Rv],.box (fr 0 0 0 0 0 0 0 0 0 0 0 ⟨#[]⟩)],es,0⟩=some (.bool (decide (kD s sD=1∨kD s sD=2∨kD s sD=3∨kD s sD=4)),⟨[b0,rX s (gD s sD).1 (gD s sD).2,.box (od s sD)],es,0⟩):=
     fun es b0=>Ij s sD n b0 es hs (PO _)
    have h42:=fun es b0 b2=>Lh (n+4) es b0 b2 s (gD s sD) hs (J7 s sD (PO _))
    have h17:=fun H=>Ln (n+3) H (kD s sD) (aD s sD) (dD s sD) (qD s sD) (oD s sD) (cD s sD) (mD s sD) (eD s sD) (tD s sD) (uD s sD) (vD s sD) (xD s sD)
    have hch:¬(kD s sD=1∨kD s sD=2∨kD s sD=3∨kD s sD=4)→AW s=false:=fun h=>by
     unfold AW
     rw[ua (by omega),Rq]
    have hok:AW s=(decide (yr s (gD s sD)=0)&&nn (kD s sD) (aD s sD) (dD s sD) (qD s sD) (oD s sD) (cD s sD) (mD s sD) (eD s sD) (tD s sD) (uD s sD) (vD s sD) (xD s sD)):=rfl
    obtain⟨C,hC⟩:∃C,nn (kD s sD) (aD s sD) (dD s sD) (qD s sD) (oD s sD) (cD s sD) (mD s sD) (eD s sD) (tD s sD) (uD s sD) (vD s sD) (xD s sD)=C:=⟨_,rfl⟩
    rw[hC]at h17 hok
    obtain⟨V,hV⟩:∃V,yr s (gD s sD)=V:=⟨_,rfl⟩
    rw[hV]at h42 hok
    obtain⟨K,hK⟩:∃K,decide (kD s sD=1∨kD s sD=2∨kD s sD=3∨kD s sD=4)=K:=⟨_,rfl⟩
    rw[hK]at h27
    cases K with
    |false=>
     rw[hch (Re hK)]
     simp only[Br,av,go_sem,simprocAttr,d1,h40,h41,h27,od]
    |true=>
     cases hv:decide (V=0)with
     |false=>
      rw[hv,Rh]at hok
      rw[hok]
      simp only[Br,av,go_sem,simprocAttr,d1,h40,h41,h27,h42,hv,od]
     |true=>
      rw[hv,Q1]at hok
      rw[hok]
      unfold od at h27⊢
      cases C<;>simp only[Br,av,go_sem,simprocAttr,d1,h40,h41,h27,h42,hv,h17]
   ·rw[if_neg hc]at h40⊢
    simp only[Br,av,go_sem,simprocAttr,d1,h40]
end F
namespace F
def sl(s:ByteArray)(p w:Nat):List Bool:=(List.range w).map fun i=>decide (bA s (p+i)=1)
theorem rE(s:ByteArray)(p w:Nat):(sl s p w).length=w:=by simp[sl]
theorem wJ(s:ByteArray)(p w:Nat){i:Nat}(h:i<w):(sl s p w)[i]?=some (decide (bA s (p+i)=1)):=by simp[sl,h]
theorem wS(s:ByteArray)(p a b:Nat):sl s p (a+b)=sl s p a++sl s (p+a) b:=by
 simp only[sl,List.range_add,QL,List.map_map,N9]
 rfl
theorem ji(w v:Nat){i:Nat}(h:i<w):(bits w v)[i]?=some (v.testBit (w-1-i)):=by simp[bits,h]
theorem yq(s:ByteArray)(p w:Nat):∀i,i<w→(jm s p w).testBit (w-1-i)=decide (bA s (p+i)=1):=by
 induction w with
 |zero=>intro i h;omega
 |succ w ih=>
  intro i h
  have hb:=Ay s (p+w)
  rw[jm]
  by_cases hi:i=w
  ·subst hi
   rw[show i+1-1-i=0 by omega,Nat.testBit_zero]
   congr 1
   apply propext
   omega
  ·rw[show w+1-1-i=(w-1-i)+1 by omega,Nat.testBit_succ,show(2*jm s p w+bA s (p+w))/2=jm s p w by omega]
   exact ih i (by omega)
theorem qC(s:ByteArray)(p w:Nat):bits w (jm s p w)=sl s p w:=by
 apply Pk
 intro i
 by_cases h:i<w
 ·rw[ji w _ h,wJ s p w h,yq s p w i h]
 ·rw[Oq (by rw[aa];omega),Oq (by rw[rE];omega)]
theorem qu{w a b:Nat}(ha:a<2 ^ w)(hb:b<2 ^ w)(h:bits w a=bits w b):a=b:=by
 apply Qa
 intro i
 by_cases hi:i<w
 ·have h1:=ji w a (i:=w-1-i) (by omega)
  have h2:=ji w b (i:=w-1-i) (by omega)
  rw[h,h2]at h1
  simp only[N1]at h1
  rw[show w-1-(w-1-i)=i by omega]at h1
  exact h1.symm
 ·have hp:2 ^ w≤2 ^ i:=Pg (by decide) (by omega)
  rw[QN (by omega),QN (by omega)]
theorem vN(w v:Nat):bits w (v%2 ^ w)=bits w v:=by
 apply Pk
 intro i
 by_cases h:i<w
 ·rw[ji w _ h,ji w _ h,Nat.testBit_mod_two_pow,NN (show w-1-i<w by omega),Q1]
 ·rw[Oq (by rw[aa];omega),Oq (by rw[aa];omega)]
theorem AK{s:ByteArray}{p w v:Nat}(h:sl s p w=bits w v):jm s p w=v%2 ^ w:=
 qu (nP s p w) (Rn _ (Qs (by decide))) (by rw[qC,h,vN])
theorem wT(a b c d e f g h:Nat)(ha:a≤1)(hb:b≤1)(hc:c≤1)(hd:d≤1)(he:e≤1)(hf:f≤1)(hg:g≤1)(hh:h≤1) :
 let n:=a*128+b*64+c*32+d*16+e*8+f*4+g*2+h
 n/128%2=a∧n/64%2=b∧n/32%2=c∧n/16%2=d∧n/8%2=e∧n/4%2=f∧n/2%2=g∧n/1%2=h:=by
 intro n
 refine⟨?_,?_,?_,?_,?_,?_,?_,?_⟩<;>omega
theorem u7(bs:List Bool)(i:Nat):cE bs (i/8)/2 ^ (7-i%8)%2=bP bs i:=by
 have h:=wT (bP bs (8*(i/8))) (bP bs (8*(i/8)+1)) (bP bs (8*(i/8)+2)) (bP bs (8*(i/8)+3)) (bP bs (8*(i/8)+4)) (bP bs (8*(i/8)+5)) (bP bs (8*(i/8)+6)) (bP bs (8*(i/8)+7))
  (cL _ _) (cL _ _) (cL _ _) (cL _ _) (cL _ _) (cL _ _) (cL _ _) (cL _ _)
 obtain⟨h0,h1,h2,h3,h4,h5,h6,h7⟩:=h
 have hi:i=8*(i/8)+i%8:=by omega
 unfold cE
 rcases m8 i with h|h|h|h|h|h|h|h<;>rw[h]at hi⊢ <;>conv=>rhs;rw[hi]
 ·exact h0
 ·exact h1
 ·exact h2
 ·exact h3
 ·exact h4
 ·exact h5
 ·exact h6
 ·exact h7
theorem x6(bs:List Bool)(j:Nat):((fv bs).data[j]?).getD 0=UInt8.ofNat (cE bs j):=by
 by_cases h:j<nb bs.length
 ·simp[fv,h]
 ·have hz:cE bs j=0:=by
   have z:∀k,bP bs (8*j+k)=0:=fun k=>gg (by unfold nb at h;omega)
   unfold cE
   rw[z 1,z 2,z 3,z 4,z 5,z 6,z 7,show bP bs (8*j)=0 from z 0]
  rw[hz,P3 (by show(fv bs).size≤j;rw[dq];omega)]
  rfl
theorem sa(bs:List Bool)(i:Nat):bA (fv bs) i=bP bs i:=by
 unfold bA
 rw[x6,ofNat_toNat (mT bs _),u7]
theorem Cs(b:Bool):decide (bt b=1)=b:=by cases b<;>rfl
theorem v7(bs:List Bool):sl (fv bs) 0 bs.length=bs:=by
 apply Pk
 intro i
 by_cases h:i<bs.length
 ·rw[wJ _ _ _ h,OY,sa,bP,N4 h,O2,Cs]
 ·rw[Oq (by rw[rE];omega),Oq (by omega)]
theorem oT{s:ByteArray}{p w:Nat}(h:∀i,i<w→bA s (p+i)=0):jm s p w=0:=by
 induction w with
 |zero=>rfl
 |succ w ih=>rw[jm,ih (fun i hi=>h i (by omega)),h w (by omega)]
theorem tf(s:ByteArray)(p m:Nat):∀i,i≤m→cT (vh s p m) i=sl s p (8*i)
 |0,_=>rfl
 |i+1,h=>by
  have hd:((vh s p m).data[i]?).getD 0=UInt8.ofNat (jm s (p+8*i) 8):=by simp[vh,show i<m by omega]
  rw[cT,tf s p m i (by omega),hd,ofNat_toNat (nP s _ 8),qC,←wS]
  rfl
theorem sY{x y:ByteArray}:∀n,cT x n=cT y n→∀i,i<n→(x.data[i]?).getD 0=(y.data[i]?).getD 0
 |0,_,i,h=>by omega
 |n+1,h,i,hi=>by
  simp only[cT]at h
  obtain⟨h1,h2⟩:=List.append_inj h (by rw[cj,cj])
  by_cases e:i=n
  ·subst e
   have:=qu (w:=8) (Pw _) (Pw _) h2
   exact UInt8.toNat_inj.1 this
  ·exact sY n h1 i (by omega)
theorem AV{s x:ByteArray}{p:Nat}(h:sl s p (8*x.size)=cT x x.size):vh s p x.size=x:=by
 have h1:cT (vh s p x.size) x.size=cT x x.size:=by rw[tf s p _ _ (NV _),h]
 have h2:=sY _ h1
 have hd:(vh s p x.size).data=x.data:=by
  apply Array.ext
  ·show(vh s p x.size).size=x.size
   rw[xN]
  ·intro j q1 q2
   have:=h2 j q2
   rw[Od q1,Od q2,O2,O2]at this
   exact this
 cases x with
 |mk d=>exact congrArg ByteArray.mk hd
end F
section
namespace F
section
variable(s:ByteArray)
end
end F
end
namespace F
theorem w5(a b:Nat)(ha:a<256)(hb:b<256):(((BitVec.ofNat 16 a:gI) <<< 8)|||BitVec.ofNat 16 b).toNat=a*256+b:=by
 rw[Q9,BitVec.toNat_shiftLeft,QK,QK,Nat.shiftLeft_eq,O7 (show a<2 ^ 16 by omega),O7 (show b<2 ^ 16 by omega),O7 (show a*2 ^ 8<2 ^ 16 by omega)]
 have h:=Qt (i:=8) (b:=b) (by omega) a
 rw[Qn a,←h]
theorem ye{y:ByteArray}{z:Nat}{a b:UInt8}(hz:y.size=z+2)(hA:y.data[z]?=some a)(hB:y.data[z+1]?=some b):(xV y).toNat=a.toNat*256+b.toNat:=by
 unfold xV
 rw[hz,show z+2-2=z from rfl,show z+2-1=z+1 from rfl,hA,hB,O2,O2]
 exact w5 _ _ (Pw a) (Pw b)
theorem lP(S:ByteArray):(fA S).data=S.data++ #[UInt8.ofNat ((iN S).toNat/256),UInt8.ofNat ((iN S).toNat%256)]:=by
 rw[fA,Qw,GH]
theorem xK(S:ByteArray):n7 (fA S)=S:=by
 have hs:=lu S
 have hd:(n7 (fA S)).data=S.data:=by
  unfold n7
  rw[Qi,hs,lP,show S.size+2-2=S.data.size from rfl,Array.extract_append_left,Array.extract_size]
 cases h:n7 (fA S)with
 |mk d=>
  rw[h]at hd
  cases S with
  |mk e=>exact congrArg ByteArray.mk hd
theorem xL(S:ByteArray):xV (fA S)=iN S:=by
 have hs:=lu S
 have hl:S.data.size=S.size:=rfl
 have hA:(fA S).data[S.size]?=some (UInt8.ofNat ((iN S).toNat/256)):=by
  rw[lP,Qp (by omega),hl,Po];rfl
 have hB:(fA S).data[S.size+1]?=some (UInt8.ofNat ((iN S).toNat%256)):=by
  rw[lP,Qp (by omega),hl,show S.size+1-S.size=1 by omega];rfl
 have hW:=ye hs hA hB
 apply QV
 have:=(iN S).isLt
 rw[hW,ofNat_toNat (by omega),ofNat_toNat (by omega)]
 omega
theorem wz(S:ByteArray)(h:S.size+2≤127):G8 (fA S)=bif AW S then .ax [.agg (od S sD),Rv]else .ax [.agg fZ,Ru 10]:=by
 have hs:=lu S
 unfold G8
 rw[if_neg (by omega),if_neg (by omega),xK,xL,if_pos rfl]
end F
section
namespace F
theorem Fi{s d q o c m e t u v:Int}{x:ByteArray}:nn 1 s d q o c m e t u v x=decide (((0≤d∧d≤31)∧d≠s)∧(0≤c∧c≤255)∧(0≤m∧m≤65535)∧e=0∧t=0∧u=0∧v=0∧(0≤s∧s≤31)∧(0≤q∧q≤255)∧(0≤o∧o≤255)):=by
 rw[PK]
 simp only[nn,pS,dp,xf,decide_true,N6,Oa,NX,O3,NY,Ot,Ow]
 constructor<;>intro h<;>omega
theorem Ey{s d q o c m e t u v:Int}{x:ByteArray}:nn 2 s d q o c m e t u v x=(decide (x=⟨#[]⟩)&&decide (((0≤d∧d≤31)∧d≠s)∧(-32768≤e∧e≤32767)∧c=0∧m=0∧t=0∧u=0∧v=0∧(0≤s∧s≤31)∧(0≤q∧q≤255)∧(0≤o∧o≤255))):=by
 have k1:decide ((2:Int)=1)=false:=rfl
 rw[PK]
 simp only[nn,pS,dp,xf,k1,decide_true,N6,Oa,NX,O3,NY,Ot,Ow]
 constructor
 ·intro h
  exact⟨h.1.2.2.2.2.2.2,by omega⟩
 ·intro⟨h1,h⟩
  refine⟨⟨by omega,by omega,by omega,by omega,by omega,by omega,h1⟩,by omega⟩
theorem EX{s d q o c m e t u v:Int}{x:ByteArray}:nn 3 s d q o c m e t u v x=decide (d= -1∧(0≤t∧t≤109951162)∧(0≤u∧u≤65535)∧(0≤v∧v≤65535)∧c=0∧m=0∧e=0∧(0≤s∧s≤31)∧(0≤q∧q≤255)∧(0≤o∧o≤255)):=by
 have k1:decide ((3:Int)=1)=false:=rfl
 have k2:decide ((3:Int)=2)=false:=rfl
 rw[PK]
 simp only[nn,pS,dp,xf,k1,k2,decide_true,N6,Oa,NX,O3,NY,Ot,Ow]
 constructor<;>intro h<;>omega
theorem zV{s d q o c m e t u v:Int}{x:ByteArray}:nn 4 s d q o c m e t u v x=decide ((d= -1∨((0≤d∧d≤31)∧d≠s))∧c=0∧m=0∧e=0∧t=0∧u=0∧v=0∧(0≤s∧s≤31)∧(0≤q∧q≤255)∧(0≤o∧o≤255)):=by
 have k1:decide ((4:Int)=1)=false:=rfl
 have k2:decide ((4:Int)=2)=false:=rfl
 have k3:decide ((4:Int)=3)=false:=rfl
 rw[PK]
 simp only[nn,pS,dp,xf,k1,k2,k3,decide_true,N6,Oa,NX,O3,NY,Ot,Ow]
 constructor<;>intro h<;>omega
def At(s:ByteArray)(p:Nat)(bs:List Bool):Prop:=sl s p bs.length=bs∧p+bs.length≤8*s.size
theorem aX{s:ByteArray}{p:Nat}{a b:List Bool}(h:At s p (a++b)):At s p a∧At s (p+a.length) b:=by
 obtain⟨h1,h2⟩:=h
 rw[NO]at h1 h2
 rw[wS]at h1
 obtain⟨e1,e2⟩:=List.append_inj h1 (by rw[rE])
 exact⟨⟨e1,by omega⟩,e2,by omega⟩
theorem eb{s:ByteArray}{p w v:Nat}(h:At s p (bits w v)):aI s w (p,0)=(v%2 ^ w,(p+w,0)):=by
 obtain⟨h1,h2⟩:=h
 rw[aa]at h1 h2
 unfold aI
 rw[if_pos rfl,if_pos h2,AK h1]
theorem Cl{s:ByteArray}{p:Nat}{d:Int}(h:At s p (ah d))(hd:d<32)(hd0:d<0→d= -1):yO s (p,0)=(d,(p+(ah d).length,0)):=by
 unfold ah at h⊢
 obtain⟨h1,h2⟩:=aX h
 have e1:=eb h1
 rw[aa]at h2
 unfold yO
 by_cases h0:0≤d
 ·rw[NN h0]at h2 e1⊢
  have e1:aI s 1 (p,0)=(1,(p+1,0)):=e1
  have e2:=eb (w:=5) (v:=d.toNat) h2
  rw[e1,if_pos rfl]
  show(((aI s 5 (p+1,0)).1:Int),(aI s 5 (p+1,0)).2)=_
  rw[e2,O7 (show d.toNat<2 ^ 5 by omega),N6,NO,aa,aa]
  show(((d.toNat:Nat):Int),(p+1+5,(0:Int)))=_
  rw[N2 h0]
 ·rw[NQ h0]at e1⊢
  have e1:aI s 1 (p,0)=(0,(p+1,0)):=e1
  rw[e1,if_neg (show ¬(0:Nat)=1 by decide),hd0 (by omega)]
  rfl
theorem rY{s x:ByteArray}{p:Nat}(h:At s p (bits 7 x.size++cT x x.size))(hx:x.size≤127):my s (p,0)=(x,(p+(7+8*x.size),0)):=by
 obtain⟨h1,h2⟩:=aX h
 have e1:=eb h1
 rw[O7 (show x.size<2 ^ 7 by omega)]at e1
 rw[aa]at h2
 obtain⟨h3,h4⟩:=h2
 rw[cj]at h3 h4
 unfold my
 rw[e1,if_pos rfl,if_pos h4]
 show(vh s (p+7) x.size,(p+7+8*x.size,(0:Int)))=_
 rw[AV h3,N9]
theorem zC{e:Int}(h0: -32768≤e)(h1:e≤32767):Cg (ta e%2 ^ 16)=e:=by
 unfold Cg ta
 split<;>omega
section
variable{k a d q o c m e t u v:Int}{x:ByteArray}
theorem back(hc:nn k a d q o c m e t u v x=true)(hx:x.size≤127) :
 AW (fv (cr k a d q o c m e t u v x))=true∧od (fv (cr k a d q o c m e t u v x)) sD=fr k a d q o c m e t u v x:=by
 obtain⟨ha,hd,hd0,hq,ho,hk⟩:=tP hc
 have hA:At (fv (cr k a d q o c m e t u v x)) 0 (cr k a d q o c m e t u v x):=⟨v7 _,by rw[dq];unfold nb;omega⟩
 have hcl:∀P,P=(cr k a d q o c m e t u v x).length→yr (fv (cr k a d q o c m e t u v x)) (P,0)=0:=by
  intro P hP
  have hz:jm (fv (cr k a d q o c m e t u v x)) P (8*(fv (cr k a d q o c m e t u v x)).size-P)=0:=oT (fun i _=>by rw[sa];exact gg (by omega))
  unfold yr
  rw[if_pos rfl,if_neg (by rw[dq];unfold nb;omega),if_pos hz]
 have hk0:0≤k∧k<8:=by omega
 obtain⟨BS,hBS⟩:∃B,cr k a d q o c m e t u v x=B:=⟨_,rfl⟩
 obtain⟨s,hs⟩:∃s,fv (cr k a d q o c m e t u v x)=s:=⟨_,rfl⟩
 rw[hs]at hA hcl⊢
 have hA0:=hA
 rw[hBS]at hcl
 have hlen:BS.length=24+(ah d).length+(lF k c m e t u v x).length:=by
  rw[←hBS];simp only[cr,NO,aa];omega
 unfold cr at hA
 obtain⟨b0,hA⟩:=aX hA
 obtain⟨b1,hA⟩:=aX hA
 obtain⟨b2,hA⟩:=aX hA
 obtain⟨b3,hA⟩:=aX hA
 obtain⟨b4,hA⟩:=aX hA
 simp only[aa]at b1 b2 b3 b4 hA
 have r0:=eb b0
 have r1:=eb b1
 have r2:=Cl b2 hd hd0
 have r3:=eb b3
 have r4:=eb b4
 rw[O7 (show k.toNat<2 ^ 3 by omega)]at r0
 rw[O7 (show a.toNat<2 ^ 5 by omega)]at r1
 rw[O7 (show q.toNat<2 ^ 8 by omega)]at r3
 rw[O7 (show o.toNat<2 ^ 8 by omega)]at r4
 obtain⟨P,hP⟩:∃P,0+3+5+(ah d).length+8+8=P:=⟨_,rfl⟩
 rw[hP]at r4 hA
 have e0:kD s sD=k.toNat:=by unfold kD;exact congrArg Prod.fst r0
 have f0:g1 s sD=(0+3,0):=by unfold g1;exact congrArg Prod.snd r0
 have e1:aD s sD=a.toNat:=by unfold aD;rw[f0];exact congrArg Prod.fst r1
 have f1:g2 s sD=(0+3+5,0):=by unfold g2;rw[f0];exact congrArg Prod.snd r1
 have e2:dD s sD=d:=by unfold dD;rw[f1];exact congrArg Prod.fst r2
 have f2:g3 s sD=(0+3+5+(ah d).length,0):=by unfold g3;rw[f1];exact congrArg Prod.snd r2
 have e3:qD s sD=q.toNat:=by unfold qD;rw[f2];exact congrArg Prod.fst r3
 have f3:g4 s sD=(0+3+5+(ah d).length+8,0):=by unfold g4;rw[f2];exact congrArg Prod.snd r3
 have e4:oD s sD=o.toNat:=by unfold oD;rw[f3];exact congrArg Prod.fst r4
 have f4:g5 s sD=(P,0):=by unfold g5;rw[f3];exact congrArg Prod.snd r4
 have i0:((kD s sD:Nat):Int)=k:=by rw[e0];exact N2 hk0.1
 have i1:((aD s sD:Nat):Int)=a:=by rw[e1];exact N2 ha.1
 have i3:((qD s sD:Nat):Int)=q:=by rw[e3];exact N2 hq.1
 have i4:((oD s sD:Nat):Int)=o:=by rw[e4];exact N2 ho.1
 suffices hf:cD s sD=c∧mD s sD=m∧eD s sD=e∧tD s sD=t∧uD s sD=u∧vD s sD=v∧xD s sD=x∧gD s sD=(P+(lF k c m e t u v x).length,0) by
  obtain⟨j1,j2,j3,j4,j5,j6,j7,j8⟩:=hf
  unfold AW od
  rw[i0,i1,e2,i3,i4,j1,j2,j3,j4,j5,j6,j7,j8,hc,hcl _ (by omega)]
  exact⟨rfl,rfl⟩
 unfold lF at hA⊢
 rcases hk with⟨rfl,hcc,hmm⟩|⟨rfl,hee,rfl⟩|⟨rfl,htt,huu,hvv⟩|rfl
 ·rw[Fi,NY]at hc
  obtain⟨_,_,_,z1,z2,z3,z4,_⟩:=hc
  have k1:kD s sD=1:=by omega
  obtain⟨y1,hA⟩:=aX (show At s P (bits 8 c.toNat++(bits 16 m.toNat++(bits 7 x.size++cT x x.size)))from hA)
  obtain⟨y2,y3⟩:=aX hA
  simp only[aa]at y2 y3
  have t1:=eb y1
  have t2:=eb y2
  have t3:=rY y3 hx
  rw[O7 (show c.toNat<2 ^ 8 by omega)]at t1
  rw[O7 (show m.toNat<2 ^ 16 by omega)]at t2
  have v1:GM s sD=c.toNat:=by unfold GM;rw[f4,t1]
  have v2:Hf s sD=m.toNat:=by unfold Hf;rw[f4,t1,t2]
  have v3:CN s sD=(x,(P+8+16+(7+8*x.size),0)):=by unfold CN;rw[f4,t1,t2,t3]
  unfold cD mD eD tD uD vD xD gD
  simp only[k1,if_true,if_false,Nat.reduceEqDiff,v1,v2,v3]
  refine⟨N2 hcc.1,N2 hmm.1,z1.symm,z2.symm,z3.symm,z4.symm,(by first|trivial|rfl),?_⟩
  show(P+8+16+(7+8*x.size),(0:Int))=(P+(bits 8 c.toNat++(bits 16 m.toNat++(bits 7 x.size++cT x x.size))).length,0)
  simp only[NO,aa,cj]
  congr 1
  omega
 ·rw[Ey,NX,NY,NY]at hc
  obtain⟨_,_,_,z1,z2,z3,z4,z5,_⟩:=hc
  have k1:kD s sD=2:=by omega
  have t1:=eb (show At s P (bits 16 (ta e))from hA)
  have v1:Hr s sD=e:=by unfold Hr;rw[f4,t1];exact zC hee.1 hee.2
  unfold cD mD eD tD uD vD xD gD
  simp only[k1,if_true,if_false,Nat.reduceEqDiff,v1]
  rw[f4,t1]
  exact⟨z1.symm,z2.symm,trivial,z3.symm,z4.symm,z5.symm,trivial,rfl⟩
 ·rw[EX,NY]at hc
  obtain⟨_,_,_,_,z1,z2,z3,_⟩:=hc
  have k1:kD s sD=3:=by omega
  obtain⟨y1,hA⟩:=aX (show At s P (bits 27 t.toNat++(bits 16 u.toNat++(bits 16 v.toNat++(bits 7 x.size++cT x x.size))))from hA)
  obtain⟨y2,hA⟩:=aX hA
  obtain⟨y3,y4⟩:=aX hA
  simp only[aa]at y2 y3 y4
  have t1:=eb y1
  have t2:=eb y2
  have t3:=eb y3
  have t4:=rY y4 hx
  rw[O7 (show t.toNat<2 ^ 27 by omega)]at t1
  rw[O7 (show u.toNat<2 ^ 16 by omega)]at t2
  rw[O7 (show v.toNat<2 ^ 16 by omega)]at t3
  have v1:GX s sD=t.toNat:=by unfold GX;rw[f4,t1]
  have v2:GB s sD=u.toNat:=by unfold GB;rw[f4,t1,t2]
  have v3:GG s sD=v.toNat:=by unfold GG;rw[f4,t1,t2,t3]
  have v4:CT s sD=(x,(P+27+16+16+(7+8*x.size),0)):=by unfold CT;rw[f4,t1,t2,t3,t4]
  unfold cD mD eD tD uD vD xD gD
  simp only[k1,if_true,if_false,Nat.reduceEqDiff,v1,v2,v3,v4]
  refine⟨z1.symm,z2.symm,z3.symm,N2 htt.1,N2 huu.1,N2 hvv.1,(by first|trivial|rfl),?_⟩
  show(P+27+16+16+(7+8*x.size),(0:Int))=(P+(bits 27 t.toNat++(bits 16 u.toNat++(bits 16 v.toNat++(bits 7 x.size++cT x x.size)))).length,0)
  simp only[NO,aa,cj]
  congr 1
  omega
 ·rw[zV,NY]at hc
  obtain⟨_,z1,z2,z3,z4,z5,z6,_⟩:=hc
  have k1:kD s sD=4:=by omega
  have t1:=rY (show At s P (bits 7 x.size++cT x x.size)from hA) hx
  have v1:Dl s sD=(x,(P+(7+8*x.size),0)):=by unfold Dl;rw[f4,t1]
  unfold cD mD eD tD uD vD xD gD
  simp only[k1,if_true,if_false,Nat.reduceEqDiff,v1]
  refine⟨z1.symm,z2.symm,z3.symm,z4.symm,z5.symm,z6.symm,(by first|trivial|rfl),?_⟩
  show(P+(7+8*x.size),(0:Int))=(P+(bits 7 x.size++cT x x.size).length,0)
  simp only[NO,aa,cj]
end
end F
end
section
section
variable{A:Type}(bl l:List A)(x:A)(k j:Nat)
theorem a8:(bl++l)[bl.length]?=l[0]?:=by rw[Ol (NV _),Po]
theorem aF:(bl++l)[bl.length+k]?=l[k]?:=by rw[Ol (by omega),QM]
theorem bb:(bl++l).set bl.length x=bl++l.set 0 x:=by rw[QW _ _ (NV _),Po]
theorem aZ:(bl++l).set (bl.length+k) x=bl++l.set k x:=by rw[QW _ _ (by omega),QM]
theorem aP:(bl++l).take bl.length=bl:=by simp
theorem aN:(bl++l).take (bl.length+k)=bl++l.take k:=by rw[List.take_append,OR (by omega)];simp
theorem aO:(bl++l).drop bl.length=l:=by simp
theorem aM:(bl++l).drop (bl.length+k)=l.drop k:=by rw[List.drop_append,Qg (by omega)];simp
end
section
variable(a r k j:Nat)
theorem cu:decide (a+j≤a+k)=decide (j≤k):=by rw[PD];omega
theorem bK:decide (a≤a+k)=true:=NN (by omega)
theorem cx:decide (a+j<a+k)=decide (j<k):=by rw[PD];omega
theorem bH:decide (a<a+(k+1))=true:=NN (by omega)
theorem bI:decide (a+k<a)=false:=NQ (by omega)
theorem bN:decide (min r a≤a)=true:=NN (by omega)
theorem bn:decide (min r a≤a+k)=true:=NN (by omega)
theorem bJ:(a+j==a+k)=(j==k):=by rw[PK];simp
theorem aS(x y z:Nat):decide (max x y≤z)=(decide (x≤z)&&decide (y≤z)):=by rw[PK];simp;omega
theorem bp:decide (a≤a)=true:=NN (NV a)
theorem ew:decide (0≤a)=true:=NN (PO a)
theorem eu:decide (a+(k+1)≤a)=false:=NQ (by omega)
theorem bk:(a==a+(k+1))=false:=by simp
theorem bm:(a+(k+1)==a)=false:=by simp
end
theorem KH{A:Type}{bl l:List A}{b:Nat}{x:A}(h:bl[b]?=some x):(bl++l)[b]?=some x:=by
 rw[On (NT.1 h).1];exact h
theorem bQ{F:aC}{xs:List SV}(h:0<SV.refs.au xs):gT F xs=false:=by
 unfold gT
 rw[QT]
 left
 simp;omega
end
section
namespace F
abbrev gB(A:Nat)(bs:List Bool):aj:=.box [.bG A (nb bs.length) 0 (nb bs.length),Ru bs.length,Rv]
abbrev gL(L:List aj)(W A:Nat)(bs:List Bool):List aj:=(L.set A (wA bs)).set W (gB A bs)
abbrev gH(L:List aj)(W A:Nat)(bs:List Bool)(es:List (Nat×Nat))(ro:Nat):ae:=⟨gL L W A bs,es,ro⟩
abbrev gk(W A:Nat)(bs:List Bool)(w:Nat):List (Nat×Nat):=List.replicate (nb (bs.length+w)-nb bs.length) (W,A+1)
section
variable{L:List aj}{W A ro:Nat}
theorem gw(hWA:W<A)(hA:A<L.length)(x y:aj):((L.set A x).set W y)[W]?=some y:=by
 rw[Pd (by rw[NZ];omega)]
theorem ga(hWA:W<A)(hA:A<L.length)(x y:aj):((L.set A x).set W y)[A]?=some x:=by
 rw[N7 (by omega),Pd hA]
theorem go(j:Nat)(h1:W≠j)(h2:A≠j)(x y:aj):((L.set A x).set W y)[j]?=L[j]?:=by
 rw[N7 h1,N7 h2]
theorem gt(L:List aj)(W A:Nat)(x y:aj):((L.set A x).set W y).take L.length=(L.set A x).set W y:=OR (by simp)
theorem Lc(x y z:aj):((L.set A x).set W y).set W z=(L.set A x).set W z:=Rm ..
theorem GW(hWA:W<A)(x y z:aj):((L.set A x).set W y).set A z=(L.set A z).set W y:=by
 rw[List.set_comm _ _ (by omega:W≠A),Rm]
end
section
variable(L:List aj)(W A ro:Nat)(es:List (Nat×Nat))(bs:List Bool)(hWA:W<A)(hA:A<L.length)(hro:ro≤W)
include hWA hA hro
theorem HC(n:Nat)(w v:Nat)(hw:w≤63)(hv:v<2 ^ 64)(hb:bs.length+w≤600000) :
 ab T (n+1) (.fn 193) [.ptr W 0 0 0,Ru w,.int .u64 v] (gH L W A bs es ro)=some (.ax [],gH L W A (bs++bits w v) (es++gk W A bs w) ro):=by
 refine ao D1 (bQ (by simp[SV.refs.au,SV.refs])) ?_
 simp only[Ci,go_sem,simprocAttr]
 have hw1:bX ((w:Int)-1)=(w:Int)-1:=an (by omega) (by omega)
 have hN:decide (max (W+1) 0≤L.length)=true:=NN (by omega)
 have l0:decide (min ro L.length≤W)=true:=NN (by omega)
 have l1:decide (min ro L.length≤A)=true:=NN (by omega)
 have l2:decide (W<L.length)=true:=NN (by omega)
 have l3:decide (A<L.length)=true:=NN (by omega)
 have l4:decide (L.length<A+1)=false:=NQ (by omega)
 have l5:decide (A≤W)=false:=NQ (by omega)
 have l6:decide (L.length≤L.length)=true:=NN (NV _)
 have gw:=fun x y=>gw hWA hA x y
 have ga:=fun x y=>ga hWA hA x y
 have GW:=fun x y z=>GW (L:=L) hWA x y z
 have gt:=fun x y=>gt L W A x y
 refine bz (fun j=>([(0,.ptr W 0 0 0),(2,.int .u64 v),(6,Ru ((w:Int)-1-(j:Int)))],⟨gL L W A (bs++(bits w v).take j),List.replicate (nb (bs.length+j)-nb bs.length) (W,A+1),min ro L.length⟩)) (fun _=>True) w ?_ trivial ?_
 ·simp only[go_sem,simprocAttr,hw1,QC,OS,Po,PE,Ph,Int.sub_zero,hN,Rj,Rr,NZ,l6,gt]
  try rfl
 ·intro j hj _
  rcases Oh j w with hlt|hge
  ·have hx:decide ((0:Int)≤(w:Int)-1-j)=true:=NN (by omega)
   have hs:bX ((w:Int)-1-j-1)=(w:Int)-1-(j+1:Nat):=by rw[an (by omega) (by omega)];omega
   have hB:(bs++(bits w v).take j).length=bs.length+j:=by rw[NO,PW,aa];omega
   have hB':bs++(bits w v).take (j+1)=(bs++(bits w v).take j)++[v.testBit (w-1-j)]:=by rw[oV hlt,NR]
   obtain⟨b,hb'⟩:∃b,v.testBit (w-1-j)=b:=⟨_,rfl⟩
   obtain⟨B,hBd⟩:∃B,bs++(bits w v).take j=B:=⟨_,rfl⟩
   rw[hb',hBd]at hB'
   rw[hBd]at hB
   have gb:=fun H=>iO 1 H A (nb B.length) (nb B.length) [[.int .u8 0]] (n9 B) di
   have hw8:bX ((B.length/8:Nat):Int)=((B.length/8:Nat):Int):=an (by omega) (by omega)
   have hw7:bX (7-((B.length%8:Nat):Int))=((7-B.length%8:Nat):Int):=by rw[an (by omega) (by omega)];omega
   have hi:((w:Int)-1-j).toNat=w-1-j:=by omega
   have hE:=tx (v:=v) (i:=w-1-j) B hv (by omega)
   rw[hb']at hE
   have hw1':bX ((B.length:Int)+1)=((B.length+1:Nat):Int):=by rw[an (by omega) (by omega)];omega
   have hl1:(B++[b]).length=B.length+1:=by simp
   by_cases h8:B.length%8=0
   ·have hq:decide (((B.length%8:Nat):Int)=0)=true:=NN (by omega)
    have hr:decide ((nb B.length+1)*1≤cf)=true:=NN (O0 (show(nb B.length+1)*1≤1000000 by unfold nb;omega) (by decide))
    have e1:nb (B.length+1)=nb B.length+1:=by unfold nb;omega
    have e2:nb (bs.length+(j+1))-nb bs.length=nb (bs.length+j)-nb bs.length+1:=by unfold nb;omega
    have g0:=qk h8
    have hlt1:decide (B.length/8<nb B.length+1)=true:=NN (by unfold nb;omega)
    simp only[go_sem,simprocAttr,hw8,hw7,g0,hlt1,N0,hx,hq,hBd,gb,hr,l0,l1,l2,l3,l4,l5,l6,hN,hi,hE,hw1',hs,hB',hl1,e1,e2,gw,ga,Lc,GW,gt,NZ,P2,NU,NW,ite_self,if_true]
    refine⟨hlt,?_,trivial⟩
    erw [hE,s8 h8]
    simp only[gL,gB,wA,hl1,e1]
   ·have hq:decide (((B.length%8:Nat):Int)=0)=false:=NQ (by omega)
    have e1:nb (B.length+1)=nb B.length:=by unfold nb;omega
    have e2:nb (bs.length+(j+1))-nb bs.length=nb (bs.length+j)-nb bs.length:=by unfold nb;omega
    have g0:=qO h8
    have hlt1:decide (B.length/8<nb B.length)=true:=NN (by unfold nb;omega)
    simp only[go_sem,simprocAttr,hw8,hw7,g0,hlt1,N0,hx,hq,hBd,l0,l1,l2,l3,l4,l5,l6,hN,hi,hE,hw1',hs,hB',hl1,e1,e2,gw,ga,Lc,GW,gt,NZ,NU,NW,ite_self,if_true]
    refine⟨hlt,?_,trivial⟩
    erw [hE,tH h8]
    simp only[gL,gB,wA,hl1,e1]
  ·obtain rfl:j=w:=by omega
   have hx:decide ((0:Int)≤(j:Int)-1-j)=false:=NQ (by omega)
   have ht:(bits j v).take j=bits j v:=OR (by rw[aa];exact NV _)
   simp only[go_sem,simprocAttr,hx,ht,hN,l0,l1,l2,l3,l4,l5,l6,gt,NZ,NU,NW,ite_self,if_true]
theorem Ec(n:Nat)(w v:Nat)(v':Int)(hw:w≤63)(hv:v<2 ^ 64)(hv':IntKind.u64.wrap v'=v)(hb:bs.length+w≤524288) :
 ab T (n+2) (.fn 165) [.ptr W 0 0 0,.bool true,.bool true,Ru w,Ru v'] (gH L W A bs es ro)=some (.ax [],gH L W A (bs++bits w v) (es++gk W A bs w) ro):=by
 refine ao ES (bQ (by simp[SV.refs.au,SV.refs])) ?_
 have h:=fun es=>HC L W A (min ro L.length) es bs hWA hA (by omega) n w v hw hv (by omega)
 have hx:decide (((bs.length:Int))+w>524288)=false:=NQ (by omega)
 have hx2:decide ((524288:Int)<(bs.length:Int)+w)=false:=NQ (by omega)
 have hs:bX ((bs.length:Int)+w)=bs.length+w:=an (by omega) (by omega)
 have l2:decide (W<L.length)=true:=NN (by omega)
 have l4:decide (L.length<A+1)=false:=NQ (by omega)
 have l6:decide (L.length≤L.length)=true:=NN (NV _)
 simp only[Cj,go_sem,simprocAttr,hs,hx,hx2,hv',h,gw hWA hA,gt,l2,l4,l6,NZ,NU,NW,ite_self,if_true]
theorem jI(n:Nat)(f:Bool)(hb:bs.length+1≤524288) :
 ab T (n+3) (.fn 118) [.ptr W 0 0 0,.bool f] (gH L W A bs es ro)=some (.ax [],gH L W A (bs++bits 1 (bt f)) (es++gk W A bs 1) ro):=by
 refine ao Ee (bQ (by simp[SV.refs.au,SV.refs])) ?_
 have h:=fun es=>Ec L W A (min ro L.length) es bs hWA hA (by omega) n 1 (bt f) (bt f) (by omega) (by have:=oK f;omega) (by have:=oK f;exact e7 (by omega) (by omega)) hb
 have l2:decide (W<L.length)=true:=NN (by omega)
 have l4:decide (L.length<A+1)=false:=NQ (by omega)
 have l6:decide (L.length≤L.length)=true:=NN (NV _)
 cases f with
 |false=>
  have h:∀es,ab T (n+2) (.fn 165) [.ptr W 0 0 0,.bool true,.bool true,Ru 1,Rv] (gH L W A bs es (min ro L.length))=some (.ax [],gH L W A (bs++bits 1 0) (es++gk W A bs 1) (min ro L.length)):=h
  simp only[xn,bt,go_sem,simprocAttr,h,gt,l2,l4,l6,NZ,NU,NW,ite_self,if_true]
 |true=>
  have h:∀es,ab T (n+2) (.fn 165) [.ptr W 0 0 0,.bool true,.bool true,Ru 1,Ru 1] (gH L W A bs es (min ro L.length))=some (.ax [],gH L W A (bs++bits 1 1) (es++gk W A bs 1) (min ro L.length)):=h
  simp only[xn,bt,go_sem,simprocAttr,h,gt,l2,l4,l6,NZ,NU,NW,ite_self,if_true]
theorem um(n:Nat)(w v:Nat)(h1:1≤w)(hw:w≤62)(hv:v<2 ^ w)(hb:bs.length+w≤524288) :
 ab T (n+3) (.fn 119) [.ptr W 0 0 0,Ru w,Ru v] (gH L W A bs es ro)=some (.ax [],gH L W A (bs++bits w v) (es++gk W A bs w) ro):=by
 refine ao Fv (bQ (by simp[SV.refs.au,SV.refs])) ?_
 have h63:2 ^ w≤2 ^ 62:=Pg (by decide) hw
 have hv':IntKind.u64.wrap (v:Int)=v:=e7 (by omega) (by omega)
 have h:=fun es=>Ec L W A (min ro L.length) es bs hWA hA (by omega) n w v v (by omega) (by omega) hv' hb
 have h97:=fun H=>AM n H v (by omega)
 have hl:=(ca (x:=v) (w:=w)).2 hv
 have x1:decide ((1:Int)≤w)=true:=NN (by omega)
 have x2:decide ((w:Int)≤63)=true:=NN (by omega)
 have x3:decide (((bx v:Nat):Int)≤w)=true:=NN (by omega)
 have l2:decide (W<L.length)=true:=NN (by omega)
 have l4:decide (L.length<A+1)=false:=NQ (by omega)
 have l6:decide (L.length≤L.length)=true:=NN (NV _)
 simp only[AP,go_sem,simprocAttr,h,h97,hv',x1,x2,x3,gt,l2,l4,l6,NZ,NU,NW,ite_self,if_true]
end
end F
end
namespace F
abbrev fx(P:List ByteArray):List (List SV):=P.map fun p=>[.str p]
def qc(p a:ByteArray):Bool:=decide (p.size≤a.size)&&decide (a.extract 0 p.size=p)
theorem oc(n:Nat)(H:ae)(x h:Int):ab T (n+1) (.fn 115) [Ru x,Ru h] H=some (.bool (dp x h),H):=by
 refine aw KG (by rfl) ?_
 simp only[E1,av,go_sem,simprocAttr,dp]
 repeat' (with_reducible refine iv (fun _=>?_) (fun _=>?_)<;>simp only[*,go_sem,simprocAttr,dp])
theorem Ea(n:Nat)(H:ae)(a p:ByteArray):ab T (n+1) (.fn 178) [.str a,.str p] H=some (.bool (qc p a),H):=by
 unfold qc
 by_cases h:p.size≤a.size
 ·have h1:decide ((p.size:Int)≤(a.size:Int))=true:=NN (by omega)
  have h2:decide ((0:Int)≤(p.size:Int))=true:=NN (by omega)
  have h3:decide (p.size≤a.size)=true:=NN h
  (refine aw FQ (by rfl) ?_;simp only[B8,av,go_sem,simprocAttr,h1,h2,h3,N0])
  try rfl
 ·have h1:decide ((p.size:Int)≤(a.size:Int))=false:=NQ (by omega)
  have h3:decide (p.size≤a.size)=false:=NQ h
  (refine aw FQ (by rfl) ?_;simp only[B8,av,go_sem,simprocAttr,h1,h3])
  try rfl
theorem HU(n:Nat)(H:ae)(a p:ByteArray):ab T (n+2) (.fn 196) [.str a,.str p] H=some (.bool (qc p a),H):=by
 refine aw Ju (by rfl) ?_
 simp only[Es,av,go_sem,simprocAttr,Ea]
def uB(a p:ByteArray):SV:=bif qc p a then .ax [.str (a.extract p.size a.size),.bool true]else .ax [.str a,.bool false]
theorem IZ(n:Nat)(H:ae)(a p:ByteArray):ab T (n+2) (.fn 150) [.str a,.str p] H=some (uB a p,H):=by
 unfold uB
 have h:=fun H=>Ea n H a p
 cases hp:qc p a with
 |false=>
  rw[hp]at h
  (refine aw EG (by rfl) ?_;simp only[Ba,av,go_sem,simprocAttr,h])
 |true=>
  rw[hp]at h
  have hs:p.size≤a.size:=by unfold qc at hp;simp only[NX,NY]at hp;exact hp.1
  have h1:decide ((p.size:Int)≤(a.size:Int))=true:=NN (by omega)
  have h2:decide ((0:Int)≤(p.size:Int))=true:=NN (by omega)
  (refine aw EG (by rfl) ?_;simp only[Ba,av,go_sem,simprocAttr,h,h1,h2,N0])
theorem Mh(n:Nat)(H:ae)(a p:ByteArray):ab T (n+3) (.fn 87) [.str a,.str p] H=some (uB a p,H):=by
 have h:=fun H=>IZ n H a p
 unfold uB at h⊢
 cases hp:qc p a with
 |false=>
  rw[hp]at h
  (refine aw LH (by rfl) ?_;simp only[H8,av,go_sem,simprocAttr,h])
 |true=>
  rw[hp]at h
  (refine aw LH (by rfl) ?_;simp only[H8,av,go_sem,simprocAttr,h])
def mu(p:Int):Bool:=dp (bX (p-61616)) 15
theorem FR(n:Nat)(H:ae)(p:Int):ab T (n+2) (.fn 168) [Ru p] H=some (.bool (mu p),H):=by
 unfold mu
 refine aw Ji (by rfl) ?_
 simp only[E8,av,go_sem,simprocAttr,oc]
theorem Ft(n:Nat)(H:ae):ab T (n+1) (.fn 121) [] H=some (.aB 1 [[Ru (-1)],[Ru 1],[Ru 64],[Ru 255]] true,H):=by
 refine aw HT (by rfl) ?_
 simp only[E0,av,go_sem,simprocAttr]
end F
namespace F
def rC(P:List ByteArray)(a:ByteArray):Nat→Int
 |0=> -1
 |k+1=>bif qc ((P[k]?).getD .empty) a&&(decide (rC P a k<0)||decide (((P[(rC P a k).toNat]?).getD .empty).size<((P[k]?).getD .empty).size))then(k:Int)else rC P a k
def fd(P:List ByteArray)(a:ByteArray):Int:=rC P a P.length
theorem sm(P:List ByteArray)(a:ByteArray):∀k,k≤P.length→rC P a k= -1∨∃j,j<k∧rC P a k=(j:Int)∧∃q,P[j]?=some q∧qc q a=true
 |0,_=>.inl rfl
 |k+1,hk=>by
  unfold rC
  have hq:P[k]?=some P[k]:=N4 (by omega)
  cases hc:(qc ((P[k]?).getD .empty) a&&(decide (rC P a k<0)||decide (((P[(rC P a k).toNat]?).getD .empty).size<((P[k]?).getD .empty).size)))with
  |true=>
   rw[NX,hq]at hc
   exact .inr ⟨k,by omega,rfl,P[k],hq,hc.1⟩
  |false=>
   rcases sm P a k (by omega)with h|⟨j,h1,h2,h3⟩
   ·exact .inl h
   ·exact .inr ⟨j,by omega,h2,h3⟩
theorem Av(P:List ByteArray)(a:ByteArray):fd P a= -1∨∃j q,j<P.length∧fd P a=(j:Int)∧P[j]?=some q∧qc q a=true:=by
 rcases sm P a P.length (NV _)with h|⟨j,h1,h2,q,h3,h4⟩
 ·exact .inl h
 ·exact .inr ⟨j,q,h1,h2,h3,h4⟩
theorem IW(n:Nat)(H:ae)(P:List ByteArray)(a:ByteArray)(fl:Bool)(hP:P.length≤100):ab T (n+3) (.fn 167) [.aB 1 (fx P) fl,.str a] H=some (Ru (fd P a),H):=by
 refine aw KX (by rfl) ?_
 simp only[EB,av,go_sem,simprocAttr]
 refine bz (fun j=>([(0,.aB 1 (fx P) fl),(1,.str a),(5,Ru (rC P a j)),(8,.aB 1 (fx P) fl),(9,Ru P.length),(10,Ru j)],⟨[],[],0⟩)) (fun _=>True) P.length ?_ trivial ?_
 ·simp only[go_sem,simprocAttr,rC,Oe]
  try rfl
 ·intro j hj _
  rcases Oh j P.length with hlt|hge
  ·have hx:decide ((j:Int)<(P.length:Int))=true:=NN (by omega)
   have hs1:bX ((j:Int)+1)=((j+1:Nat):Int):=by rw[an (by omega) (by omega)];omega
   have h0:decide ((0:Int)≤(j:Int))=true:=NN (by omega)
   obtain⟨q,hq⟩:∃q,P[j]?=some q:=⟨P[j],N4 hlt⟩
   have hL:(fx P)[j]?=some [.str q]:=by simp[fx,hq]
   have hE:rC P a (j+1)=bif qc q a&&(decide (rC P a j<0)||decide (((P[(rC P a j).toNat]?).getD .empty).size<q.size))then(j:Int)else rC P a j:=by rw[rC,hq];rfl
   have h196:=fun H=>HU n H a q
   cases hp:qc q a with
   |false=>
    rw[hp]at h196 hE
    simp only[go_sem,simprocAttr,hx,h0,hL,Oe,N0,h196,hE,hs1]
    exact⟨hlt,trivial,trivial⟩
   |true=>
    rw[hp]at h196 hE
    rcases sm P a j hj with h|⟨i,h1,h2,q2,h3,h4⟩
    ·rw[h]at hE⊢
     simp only[go_sem,simprocAttr,hx,h0,hL,Oe,N0,h196,hE,hs1]
     exact⟨hlt,trivial,trivial⟩
    ·rw[h2,N0,h3]at hE
     rw[h2]
     have hi:decide ((i:Int)<(P.length:Int))=true:=NN (by omega)
     have hi0:decide ((0:Int)≤(i:Int))=true:=NN (by omega)
     have hin:decide ((i:Int)<0)=false:=NQ (by omega)
     have hL2:(fx P)[i]?=some [.str q2]:=by simp[fx,h3]
     have hsz:decide ((q2.size:Int)<(q.size:Int))=decide (q2.size<q.size):=by rw[PD];omega
     rw[hin,O2]at hE
     cases hd:decide (q2.size<q.size)with
     |false=>
      rw[hd]at hE hsz
      simp only[go_sem,simprocAttr,hx,h0,hL,Oe,N0,h196,hE,hs1,hi,hi0,hin,hL2,hsz]
      exact⟨hlt,trivial,trivial⟩
     |true=>
      rw[hd]at hE hsz
      simp only[go_sem,simprocAttr,hx,h0,hL,Oe,N0,h196,hE,hs1,hi,hi0,hin,hL2,hsz]
      exact⟨hlt,trivial,trivial⟩
  ·obtain rfl:j=P.length:=by omega
   have hx:decide ((P.length:Int)<(P.length:Int))=false:=NQ (by omega)
   simp only[go_sem,simprocAttr,hx,fd]
def th(P:List ByteArray):Bool:=decide (P.length≤8)&&!P.any fun q=>!dp ((q.size:Int)-1) 3
theorem KT:T 164=some (mB true 1):=HW
theorem JN:T 113=some (w6 164):=Jb
theorem IV(n:Nat)(bl:List aj)(ro:Nat)(q:ByteArray)(hq:q.size≤9223372036854775807):ab T (n+2) (.fn 114) [.agg [.str q]] ⟨bl,[],ro⟩=some (.bool (!dp ((q.size:Int)-1) 3),⟨bl,[],ro⟩):=by
 have hw:bX ((q.size:Int)-1)=(q.size:Int)-1:=an (by omega) (by omega)
 refine aw Jv (by rfl) ?_
 simp only[Fg,av,go_sem,simprocAttr,oc,hw]
theorem Lu(n:Nat)(H:ae)(P:List ByteArray)(fl:Bool)(hP:P.length≤1000)(hq:∀q∈P,q.size≤9223372036854775807):ab T (n+5) (.fn 68) [.aB 1 (fx P) fl] H=some (Ru (bif th P then 0 else 1),H):=by
 have h:=fun H=>xJ (T:=T) (f:=113) (n:=n+2) (H:=H) (ag:=true) (z:=1) (id:=114) (caps:=[]) (v:=.aB 1 (fx P) fl) (L:=fx P) (p:=fun r=>match r with|[.str q]=>!dp ((q.size:Int)-1) 3|_=>false) JN KT (.aB 1 fl (.inl rfl))
  (fun r hr=>by obtain⟨q,_,rfl⟩:=PM.1 hr;rfl) (fun h=>by cases h) (by rw[Oe];exact O0 hP (by decide))
  (fun r hr bl ro _=>by obtain⟨q,h1,rfl⟩:=PM.1 hr;exact IV n bl ro q (hq q h1)) (PO _)
 have hA:((fx P).any fun r=>match r with|[.str q]=>!dp ((q.size:Int)-1) 3|_=>false)=P.any fun q=>!dp ((q.size:Int)-1) 3:=by
  rw[fx,List.any_map];rfl
 rw[hA]at h
 refine aw MN (by rfl) ?_
 unfold th
 obtain⟨B,hB⟩:∃B,(P.any fun q=>!dp ((q.size:Int)-1) 3)=B:=⟨_,rfl⟩
 rw[hB]at h⊢
 by_cases h8:P.length≤8
 ·have d1:decide ((8:Int)<(P.length:Int))=false:=NQ (by omega)
  have d2:decide (P.length≤8)=true:=NN h8
  cases B<;>simp only[KM,av,go_sem,simprocAttr,h,d1,d2,Oe]
 ·have d1:decide ((8:Int)<(P.length:Int))=true:=NN (by omega)
  have d2:decide (P.length≤8)=false:=NQ h8
  simp only[KM,av,go_sem,simprocAttr,h,d1,d2,Oe]
abbrev hd(c l:Int)(a b:ByteArray)(p r n:Int):List SV:=[Ru c,Ru l,.str a,.str b,Ru p,Ru r,Ru n]
def uv(c l:Int)(a b:ByteArray)(p r n:Int):Bool:=dp c 255&&(dp l 255&&(decide (a.size=4)&&(decide (b.size=4)&&(dp p 65535&&(dp r 65535&&dp n 4095)))))
theorem LO(n:Nat)(H:ae)(c l:Int)(a b:ByteArray)(p r m:Int):ab T (n+2) (.fn 69) [.agg (hd c l a b p r m)] H=some (Ru (bif uv c l a b p r m then 0 else 1),H):=by
 refine aw Mi (by rfl) ?_
 have da:decide ((a.size:Int)=4)=decide (a.size=4):=by rw[PD];omega
 have db:decide ((b.size:Int)=4)=decide (b.size=4):=by rw[PD];omega
 unfold uv
 cases h1:dp c 255
 ·simp only[Am,av,go_sem,simprocAttr,oc,h1]
 cases h2:dp l 255
 ·simp only[Am,av,go_sem,simprocAttr,oc,h1,h2]
 cases h3:decide (a.size=4)
 ·simp only[Am,av,go_sem,simprocAttr,oc,h1,h2,da,h3]
 cases h4:decide (b.size=4)
 ·simp only[Am,av,go_sem,simprocAttr,oc,h1,h2,da,h3,db,h4]
 cases h5:dp p 65535
 ·simp only[Am,av,go_sem,simprocAttr,oc,h1,h2,da,h3,db,h4,h5]
 cases h6:dp r 65535
 ·simp only[Am,av,go_sem,simprocAttr,oc,h1,h2,da,h3,db,h4,h5,h6]
 cases h7:dp m 4095<;>simp only[Am,av,go_sem,simprocAttr,oc,h1,h2,da,h3,db,h4,h5,h6,h7]
end F
section
namespace F
theorem bW{W A:Nat}{bs bs':List Bool}{a b:Nat}(h:bs'.length=bs.length+a):gk W A bs a++gk W A bs' b=gk W A bs (a+b):=by
 unfold gk
 rw[List.replicate_append_replicate,h]
 congr 1
 unfold nb;omega
def j0(P:List ByteArray)(a:ByteArray):ByteArray:=bif decide (0≤fd P a)then a.extract ((P[(fd P a).toNat]?).getD .empty).size a.size else a
def fT(P:List ByteArray)(a:ByteArray):List Bool:=bits 1 (bt (decide (0≤fd P a)))++((bif decide (0≤fd P a)then bits 3 (fd P a).toNat else[])++cT (j0 P a) (j0 P a).size)
theorem AE(a:ByteArray)(i j:Nat):(a.extract i j).size≤a.size:=by rw[P4];omega
section
variable(L:List aj)(W A ro:Nat)(es:List (Nat×Nat))(bs:List Bool)(hWA:W<A)(hA:A<L.length)(hro:ro≤W)
include hWA hA hro
theorem Fs(n:Nat)(P:List ByteArray)(a:ByteArray)(fl:Bool)(hP:P.length≤8)(ha:a.size≤100)(hb:bs.length≤1000) :
 ab T (n+4) (.fn 123) [.ptr W 0 0 0,.aB 1 (fx P) fl,.str a] (gH L W A bs es ro)=some (.ax [],gH L W A (bs++fT P a) (es++gk W A bs (fT P a).length) ro):=by
 refine ao Jc (bQ (by simp[SV.refs.au,SV.refs])) ?_
 have h167:=fun H=>IW n H P a fl (by omega)
 have jI:=fun es bs f hb=>jI L W A (min ro L.length) es bs hWA hA (by omega) n f hb
 have um:=fun es bs w v h1 hw hv hb=>um L W A (min ro L.length) es bs hWA hA (by omega) n w v h1 hw hv hb
 have l2:decide (W<L.length)=true:=NN (by omega)
 have l4:decide (L.length<A+1)=false:=NQ (by omega)
 have l6:decide (L.length≤L.length)=true:=NN (NV _)
 have hN:decide (max (W+1) 0≤L.length)=true:=NN (by omega)
 rcases Av P a with hf|⟨i,q,hi,hf,hq,hp⟩
 ·have hd:decide ((0:Int)≤fd P a)=false:=NQ (by omega)
  have hc:j0 P a=a:=by unfold j0;rw[hd];rfl
  have hE:fT P a=bits 1 0++cT a a.size:=by unfold fT;rw[hd,hc];rfl
  have h1:∀es,ab T (n+3) (.fn 118) [.ptr W 0 0 0,.bool false] (gH L W A bs es (min ro L.length))=some (.ax [],gH L W A (bs++bits 1 0) (es++gk W A bs 1) (min ro L.length)):=fun es=>jI es bs false (by omega)
  rw[hf]at h167
  have hfin:bs++bits 1 0++cT a a.size=bs++fT P a:=by rw[hE,NR]
  have hk:gk W A bs 1++gk W A (bs++bits 1 0) (8*a.size)=gk W A bs (fT P a).length:=by
   rw[hE,bW (by rw[NO,aa]),NO,aa,cj]
  simp only[vP,go_sem,simprocAttr,h167,h1,NZ]
  obtain⟨B,hB⟩:∃B,bs++bits 1 0=B:=⟨_,rfl⟩
  have hBl:B.length=bs.length+1:=by rw[←hB,NO,aa]
  rw[hB]at hfin hk⊢
  refine bz (fun j=>([(0,.ptr W 0 0 0),(2,.str a),(29,Ru a.size),(30,Ru j)],⟨gL L W A (B++cT a j),gk W A B (8*j),min ro L.length⟩)) (fun _=>True) a.size ?_ trivial ?_
  ·simp only[go_sem,simprocAttr,cT,gk,OS,Rg,Ph,Po,PE,NZ,gt,l2,l4,l6,hN,NU,NW,ite_self,if_true]
   try rfl
  ·intro j hj _
   rcases Oh j a.size with hlt|hge
   ·have hx:decide ((j:Int)<(a.size:Int))=true:=NN (by omega)
    have hs1:bX ((j:Int)+1)=((j+1:Nat):Int):=by rw[an (by omega) (by omega)];omega
    have h0:decide ((0:Int)≤(j:Int))=true:=NN (by omega)
    have hd:a.data[j]?=some a.data[j]:=Od (by exact hlt)
    obtain⟨y,hy⟩:∃y,a.data[j]=y:=⟨_,rfl⟩
    rw[hy]at hd
    have hyl:=Pw y
    have hw:bX (y.toNat:Int)=(y.toNat:Int):=an (by omega) (by omega)
    have hT:cT a (j+1)=cT a j++bits 8 y.toNat:=by rw[cT,hd];rfl
    have hlen:(B++cT a j).length=B.length+8*j:=by rw[NO,cj]
    have h2:∀es,ab T (n+3) (.fn 119) [.ptr W 0 0 0,Ru 8,Ru (y.toNat:Nat)] (gH L W A (B++cT a j) es (min ro L.length))=some (.ax [],gH L W A (B++cT a (j+1)) (es++gk W A (B++cT a j) 8) (min ro L.length)):=fun es=>by
     have:=um es (B++cT a j) 8 y.toNat (by omega) (by omega) (by omega) (by omega)
     rw[hT,←NR];exact this
    have hE:=bW (W:=W) (A:=A) (bs:=B) (bs':=B++cT a j) (a:=8*j) (b:=8) hlen
    rw[show 8*j+8=8*(j+1) by omega]at hE
    simp only[go_sem,simprocAttr,hx,h0,hd,hw,h2,hs1,N0,NZ,gt,l2,l4,l6,hN,hE,NU,NW,ite_self,if_true]
    exact⟨hlt,trivial,trivial⟩
   ·obtain rfl:j=a.size:=by omega
    have hx:decide ((a.size:Int)<(a.size:Int))=false:=NQ (by omega)
    simp only[go_sem,simprocAttr,hx,NZ,gt,l2,l4,l6,hN,NU,NW,ite_self,if_true,hfin,hk,NR]
 ·have hd:decide ((0:Int)≤fd P a)=true:=NN (by omega)
  have hc:j0 P a=a.extract q.size a.size:=by unfold j0;rw[hd,hf,N0,hq];rfl
  have hE:fT P a=bits 1 1++(bits 3 i++cT (j0 P a) (j0 P a).size):=by unfold fT;rw[hd,hf,N0];rfl
  have hqs:q.size≤a.size:=by unfold qc at hp;simp only[NX,NY]at hp;exact hp.1
  have hxs:(j0 P a).size≤100:=by rw[hc];exact O0 (AE ..) ha
  have h1:∀es,ab T (n+3) (.fn 118) [.ptr W 0 0 0,.bool true] (gH L W A bs es (min ro L.length))=some (.ax [],gH L W A (bs++bits 1 1) (es++gk W A bs 1) (min ro L.length)):=fun es=>jI es bs true (by omega)
  have h3:∀es,ab T (n+3) (.fn 119) [.ptr W 0 0 0,Ru 3,Ru (i:Nat)] (gH L W A (bs++bits 1 1) es (min ro L.length))=some (.ax [],gH L W A (bs++bits 1 1++bits 3 i) (es++gk W A (bs++bits 1 1) 3) (min ro L.length)):=fun es=>um es _ 3 i (by omega) (by omega) (by omega) (by rw[NO,aa];omega)
  rw[hf]at h167
  have d0:decide ((0:Int)≤(i:Int))=true:=NN (by omega)
  have d1:decide ((i:Int)<(P.length:Int))=true:=NN (by omega)
  have d2:decide ((q.size:Int)≤(a.size:Int))=true:=NN (by omega)
  have d3:decide ((0:Int)≤(q.size:Int))=true:=NN (by omega)
  have hL2:(fx P)[i]?=some [.str q]:=by simp[fx,hq]
  rw[hc]at hE hxs
  have hfin:bs++bits 1 1++bits 3 i++cT (a.extract q.size a.size) (a.extract q.size a.size).size=bs++fT P a:=by rw[hE,NR,NR]
  have hk:gk W A bs 1++(gk W A (bs++bits 1 1) 3++gk W A (bs++bits 1 1++bits 3 i) (8*(a.extract q.size a.size).size))=gk W A bs (fT P a).length:=by
   rw[hE,bW (bs:=bs++bits 1 1) (by rw[NO (bs:=bits 3 i),aa]),bW (by rw[NO,aa])]
   simp only[NO,aa,cj]
  simp only[vP,go_sem,simprocAttr,h167,h1,h3,d0,d1,d2,d3,hL2,Oe,N0,NZ]
  obtain⟨B,hB⟩:∃B,bs++bits 1 1++bits 3 i=B:=⟨_,rfl⟩
  have hBl:B.length=bs.length+4:=by rw[←hB,NO,NO,aa,aa]
  rw[hB]at hfin hk⊢
  obtain⟨x,hx⟩:∃x,a.extract q.size a.size=x:=⟨_,rfl⟩
  rw[hx]at hfin hk hxs⊢
  refine bz (fun j=>([(0,.ptr W 0 0 0),(2,.str x),(29,Ru x.size),(30,Ru j)],⟨gL L W A (B++cT x j),gk W A B (8*j),min ro L.length⟩)) (fun _=>True) x.size ?_ trivial ?_
  ·simp only[go_sem,simprocAttr,cT,gk,OS,Rg,Ph,Po,PE,NZ,gt,l2,l4,l6,hN,NU,NW,ite_self,if_true]
   try rfl
  ·intro j hj _
   rcases Oh j x.size with hlt|hge
   ·have hx:decide ((j:Int)<(x.size:Int))=true:=NN (by omega)
    have hs1:bX ((j:Int)+1)=((j+1:Nat):Int):=by rw[an (by omega) (by omega)];omega
    have h0:decide ((0:Int)≤(j:Int))=true:=NN (by omega)
    have hd:x.data[j]?=some x.data[j]:=Od (by exact hlt)
    obtain⟨y,hy⟩:∃y,x.data[j]=y:=⟨_,rfl⟩
    rw[hy]at hd
    have hyl:=Pw y
    have hw:bX (y.toNat:Int)=(y.toNat:Int):=an (by omega) (by omega)
    have hT:cT x (j+1)=cT x j++bits 8 y.toNat:=by rw[cT,hd];rfl
    have hlen:(B++cT x j).length=B.length+8*j:=by rw[NO,cj]
    have h2:∀es,ab T (n+3) (.fn 119) [.ptr W 0 0 0,Ru 8,Ru (y.toNat:Nat)] (gH L W A (B++cT x j) es (min ro L.length))=some (.ax [],gH L W A (B++cT x (j+1)) (es++gk W A (B++cT x j) 8) (min ro L.length)):=fun es=>by
     have:=um es (B++cT x j) 8 y.toNat (by omega) (by omega) (by omega) (by omega)
     rw[hT,←NR];exact this
    have hE:=bW (W:=W) (A:=A) (bs:=B) (bs':=B++cT x j) (a:=8*j) (b:=8) hlen
    rw[show 8*j+8=8*(j+1) by omega]at hE
    simp only[go_sem,simprocAttr,hx,h0,hd,hw,h2,hs1,N0,NZ,gt,l2,l4,l6,hN,hE,NU,NW,ite_self,if_true]
    exact⟨hlt,trivial,trivial⟩
   ·obtain rfl:j=x.size:=by omega
    have hx:decide ((x.size:Int)<(x.size:Int))=false:=NQ (by omega)
    simp only[go_sem,simprocAttr,hx,NZ,gt,l2,l4,l6,hN,NU,NW,ite_self,if_true,hfin,hk,NR]
end
end F
end
section
namespace F
def pT(p r:Int):List Bool:=bif mu p&&mu r then bits 2 3++(bits 4 (p-61616).toNat++bits 4 (r-61616).toNat)else bif decide (p=r)then bits 2 1++bits 16 p.toNat else
 bif dp (p-61440) 255 then bits 2 2++(bits 8 (p-61440).toNat++bits 16 r.toNat)else bits 2 0++(bits 16 p.toNat++bits 16 r.toNat)
def mh(c:Int):List Bool:=bif decide (c=0)then bits 1 0 else bits 1 1++bits 8 c.toNat
def ob(l:Int):List Bool:=bif decide (l=1)then bits 2 1 else bif decide (l=64)then bits 2 2 else bif decide (l=255)then bits 2 3 else bits 2 0++bits 8 l.toNat
def l8(m:Int):List Bool:=bif decide (63<m)then bits 1 1++bits 12 m.toNat else bits 1 0++bits 6 m.toNat
theorem mA{p:Int}(h0:0≤p)(h1:p≤65535):mu p=dp (p-61616) 15:=by
 unfold mu;rw[an (by omega) (by omega)]
theorem fS{x h:Int}:dp x h=true↔0≤x∧x≤h:=by simp[dp]
section
variable(L:List aj)(W A ro:Nat)(es:List (Nat×Nat))(bs:List Bool)(hWA:W<A)(hA:A<L.length)(hro:ro≤W)
include hWA hA hro
theorem gu(n:Nat)(w:Nat)(x:Int)(es:List (Nat×Nat))(B:List Bool)(q1:1≤w)(q2:w≤62)(q3:0≤x)(q4:x<2 ^ w)(q5:B.length≤10000) :
 ab T (n+3) (.fn 119) [.ptr W 0 0 0,Ru w,Ru x] (gH L W A B es (min ro L.length))=some (.ax [],gH L W A (B++bits w x.toNat) (es++gk W A B w) (min ro L.length)):=by
 obtain⟨v,rfl⟩:∃v:Nat,x=(v:Int):=⟨x.toNat,by omega⟩
 have q6:v<2 ^ w:=by
  have:((2:Int) ^ w)=((2 ^ w:Nat):Int):=by rw[PV];rfl
  omega
 exact um L W A (min ro L.length) es B hWA hA (by omega) n w v q1 q2 q6 (by omega)
theorem IH(n:Nat)(p r:Int)(hp0:0≤p)(hp:p≤65535)(hr0:0≤r)(hr:r≤65535)(hb:bs.length≤1000) :
 ab T (n+4) (.fn 126) [.ptr W 0 0 0,Ru p,Ru r] (gH L W A bs es ro)=some (.ax [],gH L W A (bs++pT p r) (es++gk W A bs (pT p r).length) ro):=by
 refine ao Ix (bQ (by simp[SV.refs.au,SV.refs])) ?_
 have h168p:=fun H=>FR (n+1) H p
 have h168r:=fun H=>FR (n+1) H r
 have h115:=fun H=>oc (n+2) H (p-61440) 255
 have w1:bX (p-61616)=p-61616:=an (by omega) (by omega)
 have w2:bX (r-61616)=r-61616:=an (by omega) (by omega)
 have w3:bX (p-61440)=p-61440:=an (by omega) (by omega)
 have u1:=gu L W A ro hWA hA hro n
 have l2:decide (W<L.length)=true:=NN (by omega)
 have l4:decide (L.length<A+1)=false:=NQ (by omega)
 have l6:decide (L.length≤L.length)=true:=NN (NV _)
 unfold pT
 have hnp:=mA hp0 hp
 have hnr:=mA hr0 hr
 cases n1:mu p with
 |false=>
  rw[n1]at h168p
  rw[Rh]
  by_cases hpr:p=r
  ·have d1:decide (p=r)=true:=NN hpr
   rw[d1]
   have a0:∀es,ab T (n+3) (.fn 119) [.ptr W 0 0 0,Ru 2,Ru (1)] (gH L W A (bs) es (min ro L.length))=some (.ax [],gH L W A (bs++bits 2 1) (es++gk W A (bs) 2) (min ro L.length)):=fun es=>u1 2 (1) es (bs) (by omega) (by omega) (by omega) (by omega) (by first|omega|(simp only[NO,aa];omega))
   have a1:∀es,ab T (n+3) (.fn 119) [.ptr W 0 0 0,Ru 16,Ru (p)] (gH L W A (bs++bits 2 1) es (min ro L.length))=some (.ax [],gH L W A (bs++bits 2 1++bits 16 p.toNat) (es++gk W A (bs++bits 2 1) 16) (min ro L.length)):=fun es=>u1 16 (p) es (bs++bits 2 1) (by omega) (by omega) (by omega) (by omega) (by first|omega|(simp only[NO,aa];omega))
   have k1:gk W A bs 2++gk W A (bs++bits 2 1) 16=gk W A bs 18:=bW (by simp only[NO,aa])
   simp only[qn,go_sem,simprocAttr,w1,w2,w3,h168p,h168r,h115,d1,a0,a1,k1,gt,l2,l4,l6,NZ,NU,NW,ite_self,if_true]
   simp only[NR,NO,aa,N6,Oa,Nat.reduceAdd]
  ·have d1:decide (p=r)=false:=NQ hpr
   rw[d1]
   cases hi:dp (p-61440) 255 with
   |true=>
    rw[hi]at h115
    have hi2:=fS.1 hi
    have a0:∀es,ab T (n+3) (.fn 119) [.ptr W 0 0 0,Ru 2,Ru (2)] (gH L W A (bs) es (min ro L.length))=some (.ax [],gH L W A (bs++bits 2 2) (es++gk W A (bs) 2) (min ro L.length)):=fun es=>u1 2 (2) es (bs) (by omega) (by omega) (by omega) (by omega) (by first|omega|(simp only[NO,aa];omega))
    have a1:∀es,ab T (n+3) (.fn 119) [.ptr W 0 0 0,Ru 8,Ru (p-61440)] (gH L W A (bs++bits 2 2) es (min ro L.length))=some (.ax [],gH L W A (bs++bits 2 2++bits 8 (p-61440).toNat) (es++gk W A (bs++bits 2 2) 8) (min ro L.length)):=fun es=>u1 8 (p-61440) es (bs++bits 2 2) (by omega) (by omega) (by omega) (by omega) (by first|omega|(simp only[NO,aa];omega))
    have k1:gk W A bs 2++gk W A (bs++bits 2 2) 8=gk W A bs 10:=bW (by simp only[NO,aa])
    have a2:∀es,ab T (n+3) (.fn 119) [.ptr W 0 0 0,Ru 16,Ru (r)] (gH L W A (bs++bits 2 2++bits 8 (p-61440).toNat) es (min ro L.length))=some (.ax [],gH L W A (bs++bits 2 2++bits 8 (p-61440).toNat++bits 16 r.toNat) (es++gk W A (bs++bits 2 2++bits 8 (p-61440).toNat) 16) (min ro L.length)):=fun es=>u1 16 (r) es (bs++bits 2 2++bits 8 (p-61440).toNat) (by omega) (by omega) (by omega) (by omega) (by first|omega|(simp only[NO,aa];omega))
    have k2:gk W A bs 10++gk W A (bs++bits 2 2++bits 8 (p-61440).toNat) 16=gk W A bs 26:=bW (by simp only[NO,aa])
    simp only[qn,go_sem,simprocAttr,w1,w2,w3,h168p,h168r,h115,d1,a0,a1,k1,a2,k2,gt,l2,l4,l6,NZ,NU,NW,ite_self,if_true]
    simp only[NR,NO,aa,N6,Oa,Nat.reduceAdd]
   |false=>
    rw[hi]at h115
    have a0:∀es,ab T (n+3) (.fn 119) [.ptr W 0 0 0,Ru 2,Ru (0)] (gH L W A (bs) es (min ro L.length))=some (.ax [],gH L W A (bs++bits 2 0) (es++gk W A (bs) 2) (min ro L.length)):=fun es=>u1 2 (0) es (bs) (by omega) (by omega) (by omega) (by omega) (by first|omega|(simp only[NO,aa];omega))
    have a1:∀es,ab T (n+3) (.fn 119) [.ptr W 0 0 0,Ru 16,Ru (p)] (gH L W A (bs++bits 2 0) es (min ro L.length))=some (.ax [],gH L W A (bs++bits 2 0++bits 16 p.toNat) (es++gk W A (bs++bits 2 0) 16) (min ro L.length)):=fun es=>u1 16 (p) es (bs++bits 2 0) (by omega) (by omega) (by omega) (by omega) (by first|omega|(simp only[NO,aa];omega))
    have k1:gk W A bs 2++gk W A (bs++bits 2 0) 16=gk W A bs 18:=bW (by simp only[NO,aa])
    have a2:∀es,ab T (n+3) (.fn 119) [.ptr W 0 0 0,Ru 16,Ru (r)] (gH L W A (bs++bits 2 0++bits 16 p.toNat) es (min ro L.length))=some (.ax [],gH L W A (bs++bits 2 0++bits 16 p.toNat++bits 16 r.toNat) (es++gk W A (bs++bits 2 0++bits 16 p.toNat) 16) (min ro L.length)):=fun es=>u1 16 (r) es (bs++bits 2 0++bits 16 p.toNat) (by omega) (by omega) (by omega) (by omega) (by first|omega|(simp only[NO,aa];omega))
    have k2:gk W A bs 18++gk W A (bs++bits 2 0++bits 16 p.toNat) 16=gk W A bs 34:=bW (by simp only[NO,aa])
    simp only[qn,go_sem,simprocAttr,w1,w2,w3,h168p,h168r,h115,d1,a0,a1,k1,a2,k2,gt,l2,l4,l6,NZ,NU,NW,ite_self,if_true]
    simp only[NR,NO,aa,N6,Oa,Nat.reduceAdd]
 |true=>
  rw[n1]at h168p hnp
  have hp2:=fS.1 hnp.symm
  cases n2:mu r with
  |false=>
   rw[n2]at h168r
   rw[Rq]
   by_cases hpr:p=r
   ·have d1:decide (p=r)=true:=NN hpr
    rw[d1]
    have a0:∀es,ab T (n+3) (.fn 119) [.ptr W 0 0 0,Ru 2,Ru (1)] (gH L W A (bs) es (min ro L.length))=some (.ax [],gH L W A (bs++bits 2 1) (es++gk W A (bs) 2) (min ro L.length)):=fun es=>u1 2 (1) es (bs) (by omega) (by omega) (by omega) (by omega) (by first|omega|(simp only[NO,aa];omega))
    have a1:∀es,ab T (n+3) (.fn 119) [.ptr W 0 0 0,Ru 16,Ru (p)] (gH L W A (bs++bits 2 1) es (min ro L.length))=some (.ax [],gH L W A (bs++bits 2 1++bits 16 p.toNat) (es++gk W A (bs++bits 2 1) 16) (min ro L.length)):=fun es=>u1 16 (p) es (bs++bits 2 1) (by omega) (by omega) (by omega) (by omega) (by first|omega|(simp only[NO,aa];omega))
    have k1:gk W A bs 2++gk W A (bs++bits 2 1) 16=gk W A bs 18:=bW (by simp only[NO,aa])
    simp only[qn,go_sem,simprocAttr,w1,w2,w3,h168p,h168r,h115,d1,a0,a1,k1,gt,l2,l4,l6,NZ,NU,NW,ite_self,if_true]
    simp only[NR,NO,aa,N6,Oa,Nat.reduceAdd]
   ·have d1:decide (p=r)=false:=NQ hpr
    rw[d1]
    cases hi:dp (p-61440) 255 with
    |true=>
     rw[hi]at h115
     have hi2:=fS.1 hi
     have a0:∀es,ab T (n+3) (.fn 119) [.ptr W 0 0 0,Ru 2,Ru (2)] (gH L W A (bs) es (min ro L.length))=some (.ax [],gH L W A (bs++bits 2 2) (es++gk W A (bs) 2) (min ro L.length)):=fun es=>u1 2 (2) es (bs) (by omega) (by omega) (by omega) (by omega) (by first|omega|(simp only[NO,aa];omega))
     have a1:∀es,ab T (n+3) (.fn 119) [.ptr W 0 0 0,Ru 8,Ru (p-61440)] (gH L W A (bs++bits 2 2) es (min ro L.length))=some (.ax [],gH L W A (bs++bits 2 2++bits 8 (p-61440).toNat) (es++gk W A (bs++bits 2 2) 8) (min ro L.length)):=fun es=>u1 8 (p-61440) es (bs++bits 2 2) (by omega) (by omega) (by omega) (by omega) (by first|omega|(simp only[NO,aa];omega))
     have k1:gk W A bs 2++gk W A (bs++bits 2 2) 8=gk W A bs 10:=bW (by simp only[NO,aa])
     have a2:∀es,ab T (n+3) (.fn 119) [.ptr W 0 0 0,Ru 16,Ru (r)] (gH L W A (bs++bits 2 2++bits 8 (p-61440).toNat) es (min ro L.length))=some (.ax [],gH L W A (bs++bits 2 2++bits 8 (p-61440).toNat++bits 16 r.toNat) (es++gk W A (bs++bits 2 2++bits 8 (p-61440).toNat) 16) (min ro L.length)):=fun es=>u1 16 (r) es (bs++bits 2 2++bits 8 (p-61440).toNat) (by omega) (by omega) (by omega) (by omega) (by first|omega|(simp only[NO,aa];omega))
     have k2:gk W A bs 10++gk W A (bs++bits 2 2++bits 8 (p-61440).toNat) 16=gk W A bs 26:=bW (by simp only[NO,aa])
     simp only[qn,go_sem,simprocAttr,w1,w2,w3,h168p,h168r,h115,d1,a0,a1,k1,a2,k2,gt,l2,l4,l6,NZ,NU,NW,ite_self,if_true]
     simp only[NR,NO,aa,N6,Oa,Nat.reduceAdd]
    |false=>
     rw[hi]at h115
     have a0:∀es,ab T (n+3) (.fn 119) [.ptr W 0 0 0,Ru 2,Ru (0)] (gH L W A (bs) es (min ro L.length))=some (.ax [],gH L W A (bs++bits 2 0) (es++gk W A (bs) 2) (min ro L.length)):=fun es=>u1 2 (0) es (bs) (by omega) (by omega) (by omega) (by omega) (by first|omega|(simp only[NO,aa];omega))
     have a1:∀es,ab T (n+3) (.fn 119) [.ptr W 0 0 0,Ru 16,Ru (p)] (gH L W A (bs++bits 2 0) es (min ro L.length))=some (.ax [],gH L W A (bs++bits 2 0++bits 16 p.toNat) (es++gk W A (bs++bits 2 0) 16) (min ro L.length)):=fun es=>u1 16 (p) es (bs++bits 2 0) (by omega) (by omega) (by omega) (by omega) (by first|omega|(simp only[NO,aa];omega))
     have k1:gk W A bs 2++gk W A (bs++bits 2 0) 16=gk W A bs 18:=bW (by simp only[NO,aa])
     have a2:∀es,ab T (n+3) (.fn 119) [.ptr W 0 0 0,Ru 16,Ru (r)] (gH L W A (bs++bits 2 0++bits 16 p.toNat) es (min ro L.length))=some (.ax [],gH L W A (bs++bits 2 0++bits 16 p.toNat++bits 16 r.toNat) (es++gk W A (bs++bits 2 0++bits 16 p.toNat) 16) (min ro L.length)):=fun es=>u1 16 (r) es (bs++bits 2 0++bits 16 p.toNat) (by omega) (by omega) (by omega) (by omega) (by first|omega|(simp only[NO,aa];omega))
     have k2:gk W A bs 18++gk W A (bs++bits 2 0++bits 16 p.toNat) 16=gk W A bs 34:=bW (by simp only[NO,aa])
     simp only[qn,go_sem,simprocAttr,w1,w2,w3,h168p,h168r,h115,d1,a0,a1,k1,a2,k2,gt,l2,l4,l6,NZ,NU,NW,ite_self,if_true]
     simp only[NR,NO,aa,N6,Oa,Nat.reduceAdd]
  |true=>
   rw[n2]at h168r hnr
   have hr2:=fS.1 hnr.symm
   rw[O5]
   have a0:∀es,ab T (n+3) (.fn 119) [.ptr W 0 0 0,Ru 2,Ru (3)] (gH L W A (bs) es (min ro L.length))=some (.ax [],gH L W A (bs++bits 2 3) (es++gk W A (bs) 2) (min ro L.length)):=fun es=>u1 2 (3) es (bs) (by omega) (by omega) (by omega) (by omega) (by first|omega|(simp only[NO,aa];omega))
   have a1:∀es,ab T (n+3) (.fn 119) [.ptr W 0 0 0,Ru 4,Ru (p-61616)] (gH L W A (bs++bits 2 3) es (min ro L.length))=some (.ax [],gH L W A (bs++bits 2 3++bits 4 (p-61616).toNat) (es++gk W A (bs++bits 2 3) 4) (min ro L.length)):=fun es=>u1 4 (p-61616) es (bs++bits 2 3) (by omega) (by omega) (by omega) (by omega) (by first|omega|(simp only[NO,aa];omega))
   have k1:gk W A bs 2++gk W A (bs++bits 2 3) 4=gk W A bs 6:=bW (by simp only[NO,aa])
   have a2:∀es,ab T (n+3) (.fn 119) [.ptr W 0 0 0,Ru 4,Ru (r-61616)] (gH L W A (bs++bits 2 3++bits 4 (p-61616).toNat) es (min ro L.length))=some (.ax [],gH L W A (bs++bits 2 3++bits 4 (p-61616).toNat++bits 4 (r-61616).toNat) (es++gk W A (bs++bits 2 3++bits 4 (p-61616).toNat) 4) (min ro L.length)):=fun es=>u1 4 (r-61616) es (bs++bits 2 3++bits 4 (p-61616).toNat) (by omega) (by omega) (by omega) (by omega) (by first|omega|(simp only[NO,aa];omega))
   have k2:gk W A bs 6++gk W A (bs++bits 2 3++bits 4 (p-61616).toNat) 4=gk W A bs 10:=bW (by simp only[NO,aa])
   simp only[qn,go_sem,simprocAttr,w1,w2,w3,h168p,h168r,h115,n1,a0,a1,k1,a2,k2,gt,l2,l4,l6,NZ,NU,NW,ite_self,if_true]
   simp only[NR,NO,aa,N6,Oa,Nat.reduceAdd]
end
end F
end
end Go.Sh
