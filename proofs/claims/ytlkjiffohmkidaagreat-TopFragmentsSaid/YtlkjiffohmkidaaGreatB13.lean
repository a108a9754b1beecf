/- A part of the proof: texts Ktfpb, Ktfpc, Ktfpd, Ktfpe, Ktfpf, Ktfpg, Ktfph, Ktfpi, Ktfpj, Ktfpk, Ktfpl, Ktfpme, Ktfpm, Ktfpn. -/
import Derived.Test.YtlkjiffohmkidaaGreatB11
namespace Go.Sh
set_option linter.unusedSectionVars false
set_option linter.unnecessarySimpa false
set_option linter.unusedSimpArgs false
set_option linter.unusedVariables false
set_option maxRecDepth 100000
set_option maxHeartbeats 4000000
namespace F
abbrev fr(k s d q o c m e t u v:Int)(x:ByteArray):List SV:=[Ru k,Ru s,Ru d,Ru q,Ru o,Ru c,Ru m,Ru e,Ru t,Ru u,Ru v,.str x]
def dp(x h:Int):Bool:=decide (0≤x)&&decide (x≤h)
def xf(x:Int):Bool:=decide (-32768≤x)&&decide (x≤32767)
theorem fj(n:Nat)(H:ae)(x h:Int):ab T (n+1) (.fn 140) [Ru x,Ru h] H=some (.bool (dp x h),H):=by
 refine aw Je (by rfl) ?_
 simp only[EE,av,go_sem,simprocAttr,dp]
 repeat' (with_reducible refine iv (fun _=>?_) (fun _=>?_)<;>simp only[*,go_sem,simprocAttr,dp])
theorem pH(n:Nat)(H:ae)(x:Int):ab T (n+1) (.fn 174) [Ru x] H=some (.bool (xf x),H):=by
 refine aw J5 (by rfl) ?_
 simp only[Du,av,go_sem,simprocAttr,xf]
 repeat' (with_reducible refine iv (fun _=>?_) (fun _=>?_)<;>simp only[*,go_sem,simprocAttr,xf])
def pS(s d:Int):Bool:=dp d 31&&!decide (d=s)
theorem pd(n:Nat)(H:ae)(k s d q o c m e t u v:Int)(x:ByteArray):ab T (n+2) (.fn 173) [.agg (fr k s d q o c m e t u v x)] H=some (.bool (pS s d),H):=by
 refine aw Iz (by rfl) ?_
 simp only[EZ,av,go_sem,simprocAttr,pS,fj]
 cases dp d 31<;>simp only[go_sem,simprocAttr,fj]
def BO(k s d q o c m e t u v:Int)(x:ByteArray):SV:=
 bif decide (k=1)then .ax [.agg (fr k s d q o 0 0 e t u v ⟨#[]⟩),.bool (pS s d&&dp c 255&&dp m 65535)]
 else bif decide (k=2)then .ax [.agg (fr k s d q o c m 0 t u v x),.bool (pS s d&&xf e)]
 else bif decide (k=3)then .ax [.agg (fr k s d q o c m e 0 0 0 ⟨#[]⟩),.bool (decide (d= -1)&&dp t 109951162&&dp u 65535&&dp v 65535)]
 else bif decide (k=4)then .ax [.agg (fr k s d q o c m e t u v ⟨#[]⟩),.bool (decide (d= -1)||pS s d)]
 else .ax [.agg (fr k s d q o c m e t u v x),.bool false]
theorem I3(n:Nat)(H:ae)(k s d q o c m e t u v:Int)(x:ByteArray):ab T (n+3) (.fn 139) [.agg (fr k s d q o c m e t u v x)] H=some (BO k s d q o c m e t u v x,H):=by
 refine aw IE (by rfl) ?_
 simp only[Fe,av,go_sem,simprocAttr,fj,pH,pd]
 cases h1:decide (k=1)with
 |true=>
  simp only[go_sem,simprocAttr,fj,pH,pd,BO,h1]
  cases h5:pS s d<;>cases h6:dp c 255<;>simp only[go_sem,simprocAttr,fj,pH,pd,h5,h6]
 |false=>
  cases h2:decide (k=2)with
  |true=>
   simp only[go_sem,simprocAttr,fj,pH,pd,BO,h1,h2]
   cases h5:pS s d<;>simp only[go_sem,simprocAttr,fj,pH,pd,h5]
  |false=>
   cases h3:decide (k=3)with
   |true=>
    simp only[go_sem,simprocAttr,fj,pH,pd,BO,h1,h2,h3]
    cases h5:decide (d= -1)<;>cases h6:dp t 109951162<;>cases h7:dp u 65535<;>simp only[go_sem,simprocAttr,fj,pH,pd,h5,h6,h7]
   |false=>
    cases h4:decide (k=4)with
    |true=>
     simp only[go_sem,simprocAttr,fj,pH,pd,BO,h1,h2,h3,h4]
     cases h5:decide (d= -1)<;>simp only[go_sem,simprocAttr,fj,pH,pd,h5]
    |false=>simp only[go_sem,simprocAttr,BO,h1,h2,h3,h4]
def z0(c:Int):Bool:=decide (c=0)
def nn(k s d q o c m e t u v:Int)(x:ByteArray):Bool:=
 (bif decide (k=1)then(pS s d&&dp c 255&&dp m 65535)&&(decide (e=0)&&(decide (t=0)&&(decide (u=0)&&decide (v=0))))
 else bif decide (k=2)then(pS s d&&xf e)&&(decide (c=0)&&(decide (m=0)&&(decide (t=0)&&(decide (u=0)&&(decide (v=0)&&decide (x=⟨#[]⟩))))))
 else bif decide (k=3)then(decide (d= -1)&&dp t 109951162&&dp u 65535&&dp v 65535)&&(decide (c=0)&&(decide (m=0)&&decide (e=0)))
 else bif decide (k=4)then(decide (d= -1)||pS s d)&&(decide (c=0)&&(decide (m=0)&&(decide (e=0)&&(decide (t=0)&&(decide (u=0)&&decide (v=0))))))
 else false)&&(dp s 31&&(dp q 255&&dp o 255))
theorem Ln(n:Nat)(H:ae)(k s d q o c m e t u v:Int)(x:ByteArray):ab T (n+4) (.fn 78) [.agg (fr k s d q o c m e t u v x)] H=some (Ru (bif nn k s d q o c m e t u v x then 0 else 1),H):=by
 refine aw MQ (by rfl) ?_
 simp only[LJ,av,go_sem,simprocAttr,I3,fj]
 unfold BO nn
 cases h1:decide (k=1)with
 |true=>
  cases h5:(pS s d&&dp c 255&&dp m 65535)with
  |false=>simp only[go_sem,simprocAttr,fj,h1,h5]
  |true=>
   cases h6:(decide (e=0)&&(decide (t=0)&&(decide (u=0)&&decide (v=0))))<;>simp only[go_sem,simprocAttr,fj,h1,h5,h6]
   cases h7:dp s 31<;>cases h8:dp q 255<;>cases h9:dp o 255<;>simp only[go_sem,simprocAttr,fj,h7,h8,h9]
 |false=>
  cases h2:decide (k=2)with
  |true=>
   cases h5:(pS s d&&xf e)with
   |false=>simp only[go_sem,simprocAttr,fj,h1,h2,h5]
   |true=>
    cases h6:(decide (c=0)&&(decide (m=0)&&(decide (t=0)&&(decide (u=0)&&(decide (v=0)&&decide (x=⟨#[]⟩))))))<;>simp only[go_sem,simprocAttr,fj,h1,h2,h5,h6]
    cases h7:dp s 31<;>cases h8:dp q 255<;>cases h9:dp o 255<;>simp only[go_sem,simprocAttr,fj,h7,h8,h9]
  |false=>
   cases h3:decide (k=3)with
   |true=>
    cases h5:(decide (d= -1)&&dp t 109951162&&dp u 65535&&dp v 65535)with
    |false=>simp only[go_sem,simprocAttr,fj,h1,h2,h3,h5]
    |true=>
     cases h6:(decide (c=0)&&(decide (m=0)&&decide (e=0)))<;>simp only[go_sem,simprocAttr,fj,h1,h2,h3,h5,h6]
     cases h7:dp s 31<;>cases h8:dp q 255<;>cases h9:dp o 255<;>simp only[go_sem,simprocAttr,fj,h7,h8,h9]
   |false=>
    cases h4:decide (k=4)with
    |true=>
     cases h5:(decide (d= -1)||pS s d)with
     |false=>simp only[go_sem,simprocAttr,fj,h1,h2,h3,h4,h5]
     |true=>
      cases h6:(decide (c=0)&&(decide (m=0)&&(decide (e=0)&&(decide (t=0)&&(decide (u=0)&&decide (v=0))))))<;>simp only[go_sem,simprocAttr,fj,h1,h2,h3,h4,h5,h6]
      cases h7:dp s 31<;>cases h8:dp q 255<;>cases h9:dp o 255<;>simp only[go_sem,simprocAttr,fj,h7,h8,h9]
    |false=>simp only[go_sem,simprocAttr,fj,h1,h2,h3,h4]
end F
namespace F
def bt(b:Bool):Nat:=bif b then 1 else 0
theorem oK(b:Bool):bt b≤1:=by cases b<;>decide
def bP(bs:List Bool)(i:Nat):Nat:=bt ((bs[i]?).getD false)
theorem cL(bs:List Bool)(i:Nat):bP bs i≤1:=oK _
theorem gg{bs:List Bool}{i:Nat}(h:bs.length≤i):bP bs i=0:=by
 unfold bP;rw[Oq h];rfl
theorem qX(bs:List Bool)(b:Bool)(i:Nat):bP (bs++[b]) i=bP bs i+(if i=bs.length then bt b else 0):=by
 by_cases h:i=bs.length
 ·subst h
  rw[if_pos rfl,gg (NV _)]
  simp[bP]
 ·rw[if_neg h]
  by_cases h2:i<bs.length
  ·simp[bP,On h2]
  ·rw[gg (bs:=bs) (by omega),gg (by simp;omega)]
def cE(bs:List Bool)(j:Nat):Nat:=
 bP bs (8*j)*128+bP bs (8*j+1)*64+bP bs (8*j+2)*32+bP bs (8*j+3)*16+bP bs (8*j+4)*8+bP bs (8*j+5)*4+bP bs (8*j+6)*2+bP bs (8*j+7)
theorem mT(bs:List Bool)(j:Nat):cE bs j<256:=by
 have:=cL bs (8*j);have:=cL bs (8*j+1);have:=cL bs (8*j+2);have:=cL bs (8*j+3)
 have:=cL bs (8*j+4);have:=cL bs (8*j+5);have:=cL bs (8*j+6);have:=cL bs (8*j+7)
 unfold cE;omega
theorem m8(n:Nat):n%8=0∨n%8=1∨n%8=2∨n%8=3∨n%8=4∨n%8=5∨n%8=6∨n%8=7:=by omega
theorem qg{bs:List Bool}{b:Bool}{j:Nat}(h:j≠bs.length/8):cE (bs++[b]) j=cE bs j:=by
 unfold cE
 simp only[qX]
 rw[if_neg (by omega),if_neg (by omega),if_neg (by omega),if_neg (by omega),if_neg (by omega),if_neg (by omega),if_neg (by omega),if_neg (by omega)]
 simp only[Ph]
theorem vY(bs:List Bool)(b:Bool):cE (bs++[b]) (bs.length/8)=cE bs (bs.length/8)+bt b*2 ^ (7-bs.length%8):=by
 unfold cE
 simp only[qX]
 rcases m8 bs.length with h|h|h|h|h|h|h|h<;>rw[h]
 ·rw[if_pos (by omega),if_neg (by omega),if_neg (by omega),if_neg (by omega),if_neg (by omega),if_neg (by omega),if_neg (by omega),if_neg (by omega)];omega
 ·rw[if_neg (by omega),if_pos (by omega),if_neg (by omega),if_neg (by omega),if_neg (by omega),if_neg (by omega),if_neg (by omega),if_neg (by omega)];omega
 ·rw[if_neg (by omega),if_neg (by omega),if_pos (by omega),if_neg (by omega),if_neg (by omega),if_neg (by omega),if_neg (by omega),if_neg (by omega)];omega
 ·rw[if_neg (by omega),if_neg (by omega),if_neg (by omega),if_pos (by omega),if_neg (by omega),if_neg (by omega),if_neg (by omega),if_neg (by omega)];omega
 ·rw[if_neg (by omega),if_neg (by omega),if_neg (by omega),if_neg (by omega),if_pos (by omega),if_neg (by omega),if_neg (by omega),if_neg (by omega)];omega
 ·rw[if_neg (by omega),if_neg (by omega),if_neg (by omega),if_neg (by omega),if_neg (by omega),if_pos (by omega),if_neg (by omega),if_neg (by omega)];omega
 ·rw[if_neg (by omega),if_neg (by omega),if_neg (by omega),if_neg (by omega),if_neg (by omega),if_neg (by omega),if_pos (by omega),if_neg (by omega)];omega
 ·rw[if_neg (by omega),if_neg (by omega),if_neg (by omega),if_neg (by omega),if_neg (by omega),if_neg (by omega),if_neg (by omega),if_pos (by omega)];omega
theorem uZ(bs:List Bool):∃a,cE bs (bs.length/8)=2 ^ (8-bs.length%8)*a:=by
 have z:∀k,bs.length%8≤k→bP bs (8*(bs.length/8)+k)=0:=fun k hk=>gg (by omega)
 unfold cE
 rcases m8 bs.length with h|h|h|h|h|h|h|h<;>rw[h]at z⊢
 ·rw[z 1 (by omega),z 2 (by omega),z 3 (by omega),z 4 (by omega),z 5 (by omega),z 6 (by omega),z 7 (by omega),show bP bs (8*(bs.length/8))=0 from z 0 (by omega)];exact⟨0,by omega⟩
 ·rw[z 1 (by omega),z 2 (by omega),z 3 (by omega),z 4 (by omega),z 5 (by omega),z 6 (by omega),z 7 (by omega)];exact⟨bP bs (8*(bs.length/8)),by omega⟩
 ·rw[z 2 (by omega),z 3 (by omega),z 4 (by omega),z 5 (by omega),z 6 (by omega),z 7 (by omega)];exact⟨bP bs (8*(bs.length/8))*2+bP bs (8*(bs.length/8)+1),by omega⟩
 ·rw[z 3 (by omega),z 4 (by omega),z 5 (by omega),z 6 (by omega),z 7 (by omega)];exact⟨bP bs (8*(bs.length/8))*4+bP bs (8*(bs.length/8)+1)*2+bP bs (8*(bs.length/8)+2),by omega⟩
 ·rw[z 4 (by omega),z 5 (by omega),z 6 (by omega),z 7 (by omega)];exact⟨bP bs (8*(bs.length/8))*8+bP bs (8*(bs.length/8)+1)*4+bP bs (8*(bs.length/8)+2)*2+bP bs (8*(bs.length/8)+3),by omega⟩
 ·rw[z 5 (by omega),z 6 (by omega),z 7 (by omega)];exact⟨bP bs (8*(bs.length/8))*16+bP bs (8*(bs.length/8)+1)*8+bP bs (8*(bs.length/8)+2)*4+bP bs (8*(bs.length/8)+3)*2+bP bs (8*(bs.length/8)+4),by omega⟩
 ·rw[z 6 (by omega),z 7 (by omega)];exact⟨bP bs (8*(bs.length/8))*32+bP bs (8*(bs.length/8)+1)*16+bP bs (8*(bs.length/8)+2)*8+bP bs (8*(bs.length/8)+3)*4+bP bs (8*(bs.length/8)+4)*2+bP bs (8*(bs.length/8)+5),by omega⟩
 ·rw[z 7 (by omega)];exact⟨bP bs (8*(bs.length/8))*64+bP bs (8*(bs.length/8)+1)*32+bP bs (8*(bs.length/8)+2)*16+bP bs (8*(bs.length/8)+3)*8+bP bs (8*(bs.length/8)+4)*4+bP bs (8*(bs.length/8)+5)*2+bP bs (8*(bs.length/8)+6),by omega⟩
theorem wV(b:Bool)(r:Nat)(h:r<8):bt b*2 ^ (7-r)<2 ^ (8-r):=by
 have:2 ^ (8-r)=2*2 ^ (7-r):=by rw[show 8-r=(7-r)+1 by omega,Nat.pow_succ,Qn]
 have hp:0<2 ^ (7-r):=Qs (by decide)
 cases b<;>simp[bt]<;>omega
theorem vJ(bs:List Bool)(b:Bool):(cE bs (bs.length/8)|||bt b*2 ^ (7-bs.length%8))=cE (bs++[b]) (bs.length/8):=by
 rw[vY]
 obtain⟨a,ha⟩:=uZ bs
 rw[ha]
 exact(Qt (wV b _ (Rn _ (by decide))) a).symm
def nb(n:Nat):Nat:=(n+7)/8
def n9(bs:List Bool):List (List SV):=(List.range (nb bs.length)).map fun j=>[.int .u8 (cE bs j:Nat)]
@[go_sem] theorem di {bs:List Bool}:(n9 bs).length=nb bs.length:=by simp[n9]
theorem kV{bs:List Bool}{j:Nat}(h:j<nb bs.length):(n9 bs)[j]?=some [.int .u8 (cE bs j:Nat)]:=by simp[n9,h]
theorem tH{bs:List Bool}{b:Bool}(h:bs.length%8≠0):(n9 bs).set (bs.length/8) [.int .u8 (cE (bs++[b]) (bs.length/8):Nat)]=n9 (bs++[b]):=by
 have e:nb (bs.length+1)=nb bs.length:=by unfold nb;omega
 apply Pk
 intro j
 rw[PY]
 by_cases hj:j<nb bs.length
 ·rw[kV (bs:=bs++[b]) (by simp[e,hj])]
  by_cases h2:bs.length/8=j
  ·subst h2
   rw[if_pos rfl,if_pos (by rw[di];exact hj)]
  ·rw[if_neg h2,kV hj,qg (fun h=>h2 h.symm)]
 ·rw[if_neg (show ¬bs.length/8=j by unfold nb at hj;omega),Oq (by rw[di];omega),Oq (by rw[di,NO];simp[e];omega)]
theorem s8{bs:List Bool}{b:Bool}(h:bs.length%8=0):(n9 bs++[[SV.int .u8 0]]).set (bs.length/8) [.int .u8 (cE (bs++[b]) (bs.length/8):Nat)]=n9 (bs++[b]):=by
 have e:nb (bs.length+1)=nb bs.length+1:=by unfold nb;omega
 have e2:nb bs.length=bs.length/8:=by unfold nb;omega
 apply Pk
 intro j
 rw[PY]
 by_cases hj:j<nb bs.length+1
 ·rw[kV (bs:=bs++[b]) (by simp[e,hj])]
  by_cases h2:bs.length/8=j
  ·subst h2
   rw[if_pos rfl,if_pos (by rw[NO,di];simp;omega)]
  ·rw[if_neg h2,On (by rw[di];omega),kV (by omega),qg (fun h=>h2 h.symm)]
 ·rw[if_neg (show ¬bs.length/8=j by omega),Oq (by rw[NO,di];simp;omega),Oq (by rw[di,NO];simp[e];omega)]
theorem qk{bs:List Bool}(h:bs.length%8=0):(n9 bs++[[SV.int .u8 0]])[bs.length/8]?=some [.int .u8 (cE bs (bs.length/8):Nat)]:=by
 have e2:nb bs.length=bs.length/8:=by unfold nb;omega
 have z:∀k,bP bs (8*(bs.length/8)+k)=0:=fun k=>gg (by omega)
 have hb:cE bs (bs.length/8)=0:=by
  unfold cE
  rw[z 1,z 2,z 3,z 4,z 5,z 6,z 7,show bP bs (8*(bs.length/8))=0 from z 0]
 rw[hb,←e2,←di (bs:=bs),Ol (NV _)]
 simp
theorem qO{bs:List Bool}(h:bs.length%8≠0):(n9 bs)[bs.length/8]?=some [.int .u8 (cE bs (bs.length/8):Nat)]:=kV (by unfold nb;omega)
def bits(w v:Nat):List Bool:=(List.range w).map fun i=>v.testBit (w-1-i)
theorem aa(w v:Nat):(bits w v).length=w:=by simp[bits]
theorem oV{w v j:Nat}(h:j<w):(bits w v).take (j+1)=(bits w v).take j++[v.testBit (w-1-j)]:=by
 rw[List.take_add_one]
 simp[bits,h]
end F
namespace F
abbrev wB(bs:List Bool):aj:=.box [.bG 2 (nb bs.length) 0 (nb bs.length),Ru bs.length,Rv]
abbrev wA(bs:List Bool):aj:=.arr (nb bs.length) 1 (n9 bs) false
@[go_sem] theorem NH (n:Nat):(n:Int).tmod 8=((n%8:Nat):Int):=by rw[Qz (by omega)];rfl
@[go_sem] theorem ND (n:Nat):(n:Int).tdiv 8=((n/8:Nat):Int):=by rw[Int.tdiv_eq_ediv_of_nonneg (by omega)];rfl
theorem jK{n:Int}(h0:0≤n)(h1:n≤255):IntKind.u8.wrap n=n:=by
 have e:IntKind.u8.wrap n=n%256:=by simp[IntKind.wrap,IntKind.bits,IntKind.signed]
 rw[e];omega
theorem e7{n:Int}(h0:0≤n)(h1:n<2 ^ 64):IntKind.u64.wrap n=n:=by
 have e:IntKind.u64.wrap n=n%18446744073709551616:=by simp[IntKind.wrap,IntKind.bits,IntKind.signed]
 rw[e];omega
theorem cZ(B j:Nat):((B:Int).fdiv (2 ^ j))=((B/2 ^ j:Nat):Int):=by
 have h:((2:Int) ^ j)=((2 ^ j:Nat):Int):=by rw[PV];rfl
 rw[h,Int.fdiv_eq_ediv_of_nonneg _ (Int.natCast_nonneg _),Int.natCast_ediv]
theorem gl(a:Nat)(h:a<2 ^ 64):(BitVec.ofInt 64 (a:Int)).toNat=a:=by
 rw[QJ]
 omega
theorem il(a:Nat)(h:a<256):(BitVec.ofInt 8 (a:Int)).toNat=a:=by
 rw[QJ]
 omega
theorem sL(v i:Nat):bt (v.testBit i)=v/2 ^ i%2:=by
 rw[Nat.testBit_eq_decide_div_mod_eq]
 unfold bt
 rcases Nat.mod_two_eq_zero_or_one (v/2 ^ i)with h|h<;>rw[h]<;>rfl
theorem AR{v i:Nat}(hv:v<2 ^ 64)(hi:i<64):IntKind.u64.wrap ((BitVec.ofInt 64 ((v:Int).fdiv (2 ^ min i 64))&&&BitVec.ofInt 64 1).toNat:Nat)=(bt (v.testBit i):Nat):=by
 have h2:v/2 ^ i≤v:=Nat.div_le_self _ _
 have h3:(BitVec.ofInt 64 1).toNat=1:=by decide
 rw[Pb (by omega),cZ,QY,gl _ (by omega),h3,Rf,sL]
 exact e7 (by omega) (by omega)
theorem tx{v i:Nat}(B:List Bool)(hv:v<2 ^ 64)(hi:i<64):IntKind.u8.wrap ((BitVec.ofInt 8 (cE B (B.length/8):Nat)|||BitVec.ofInt 8 (IntKind.u8.wrap (IntKind.u8.wrap (IntKind.u64.wrap ((BitVec.ofInt 64 ((v:Int).fdiv (2 ^ min i 64))&&&BitVec.ofInt 64 1).toNat:Nat))*2 ^ min (7-B.length%8) 8))).toNat:Nat)=(cE (B++[v.testBit i]) (B.length/8):Nat):=by
 have hb:=oK (v.testBit i)
 have h1:=wV (v.testBit i) (B.length%8) (Rn _ (by decide))
 have h2:2 ^ (8-B.length%8)≤2 ^ 8:=Pg (by decide) (by omega)
 have h3:bt (v.testBit i)*2 ^ (7-B.length%8)<256:=by omega
 have h4:=mT B (B.length/8)
 have h5:=mT (B++[v.testBit i]) (B.length/8)
 have h6:((bt (v.testBit i):Nat):Int)*2 ^ (7-B.length%8)=((bt (v.testBit i)*2 ^ (7-B.length%8):Nat):Int):=by rw[Qu,PV];rfl
 rw[AR hv hi,jK (n:=((bt (v.testBit i):Nat):Int)) (by omega) (by omega),Pb (by omega),h6,jK (n:=((bt (v.testBit i)*2 ^ (7-B.length%8):Nat):Int)) (by omega) (by omega),Q9,il _ h4,il _ h3,vJ]
 exact jK (by omega) (by omega)
theorem A8(n:Nat)(b0:aj)(tl:List aj)(es:List (Nat×Nat))(bs:List Bool)(w v:Nat)(hw:w≤63)(hv:v<2 ^ 64)(hb:bs.length+w≤600000) :
 ab T (n+1) (.fn 193) [.ptr 1 0 0 0,Ru w,.int .u64 v] ⟨b0::wB bs::wA bs::tl,es,0⟩=
  some (.ax [],⟨b0::wB (bs++bits w v)::wA (bs++bits w v)::tl,es++List.replicate (nb (bs.length+w)-nb bs.length) (1,3),0⟩):=by
 refine ao D1 (by rfl) ?_
 simp only[Ci,go_sem,simprocAttr]
 have hw1:bX ((w:Int)-1)=(w:Int)-1:=an (by omega) (by omega)
 have hN:decide (max 2 0≤tl.length+1+1+1)=true:=NN (by omega)
 have l0:decide (0<tl.length+1+1+1)=true:=NN (by omega)
 have l1:decide (1<tl.length+1+1+1)=true:=NN (by omega)
 have l2:decide (2<tl.length+1+1+1)=true:=NN (by omega)
 have l3':decide (tl.length+1+1+1<3)=false:=NQ (by omega)
 have l3:decide (3≤tl.length+1+1+1)=true:=NN (by omega)
 refine bz (fun j=>([(0,.ptr 1 0 0 0),(2,.int .u64 v),(6,Ru ((w:Int)-1-(j:Int)))],⟨b0::wB (bs++(bits w v).take j)::wA (bs++(bits w v).take j)::tl,List.replicate (nb (bs.length+j)-nb bs.length) (1,3),0⟩)) (fun _=>True) w ?_ trivial ?_
 ·simp only[go_sem,simprocAttr,hw1,QC,OS,Po,PE,Ph,Int.sub_zero,hN,Rj,Rr]
  try rfl
 ·intro j hj _
  rcases Oh j w with hlt|hge
  ·have hx:decide ((0:Int)≤(w:Int)-1-j)=true:=NN (by omega)
   have hs:bX ((w:Int)-1-j-1)=(w:Int)-1-(j+1:Nat):=by rw[an (by omega) (by omega)];omega
   have hB:(bs++(bits w v).take j).length=bs.length+j:=by rw[NO,PW,aa];omega
   have hB':bs++(bits w v).take (j+1)=(bs++(bits w v).take j)++[v.testBit (w-1-j)]:=by rw[oV hlt,NR]
   obtain⟨b,hb'⟩:∃b,v.testBit (w-1-j)=b:=⟨_,rfl⟩
   obtain⟨B,hBd⟩:∃B,bs++(bits w v).take j=B:=⟨_,rfl⟩
   rw[hb',hBd]at hB'
   rw[hBd]at hB
   have gb:=fun H=>iO 1 H 2 (nb B.length) (nb B.length) [[.int .u8 0]] (n9 B) di
   have hw8:bX ((B.length/8:Nat):Int)=((B.length/8:Nat):Int):=an (by omega) (by omega)
   have hw7:bX (7-((B.length%8:Nat):Int))=((7-B.length%8:Nat):Int):=by rw[an (by omega) (by omega)];omega
   have hnn:∀n:Nat,decide ((n:Int)<0)=false:=fun n=>NQ (by omega)
   have hi:((w:Int)-1-j).toNat=w-1-j:=by omega
   have hE:=tx (v:=v) (i:=w-1-j) B hv (by omega)
   rw[hb']at hE
   have hw1':bX ((B.length:Int)+1)=((B.length+1:Nat):Int):=by rw[an (by omega) (by omega)];omega
   have hl1:(B++[b]).length=B.length+1:=by simp
   by_cases h8:B.length%8=0
   ·have hq:decide (((B.length%8:Nat):Int)=0)=true:=NN (by omega)
    have hr:decide ((nb B.length+1)*1≤cf)=true:=NN (O0 (show(nb B.length+1)*1≤1000000 by unfold nb;omega) (by decide))
    have e1:nb (B.length+1)=nb B.length+1:=by unfold nb;omega
    have e2:nb (bs.length+(j+1))-nb bs.length=nb (bs.length+j)-nb bs.length+1:=by unfold nb;omega
    have g0:=qk h8
    have hlt1:decide (B.length/8<nb B.length+1)=true:=NN (by unfold nb;omega)
    simp only[go_sem,simprocAttr,hw8,hw7,g0,hlt1,N0,hx,hq,hBd,gb,hr,l0,l1,l2,l3,l3',hN,hi,hE,hw1',hs,hB',hl1,e1,e2,P2,NU,NW,ite_self,if_true]
    refine⟨hlt,?_,trivial⟩
    erw [hE,s8 h8]
    simp only[wB,wA,hl1,e1]
   ·have hq:decide (((B.length%8:Nat):Int)=0)=false:=NQ (by omega)
    have e1:nb (B.length+1)=nb B.length:=by unfold nb;omega
    have e2:nb (bs.length+(j+1))-nb bs.length=nb (bs.length+j)-nb bs.length:=by unfold nb;omega
    have g0:=qO h8
    have hlt1:decide (B.length/8<nb B.length)=true:=NN (by unfold nb;omega)
    simp only[go_sem,simprocAttr,hw8,hw7,g0,hlt1,N0,hx,hq,hBd,l0,l1,l2,l3,l3',hN,hi,hE,hw1',hs,hB',hl1,e1,e2,NU,NW,ite_self,if_true]
    refine⟨hlt,?_,trivial⟩
    erw [hE,tH h8]
    simp only[wB,wA,hl1,e1]
  ·obtain rfl:j=w:=by omega
   have hx:decide ((0:Int)≤(j:Int)-1-j)=false:=NQ (by omega)
   have ht:(bits j v).take j=bits j v:=OR (by rw[aa];exact NV _)
   simp only[go_sem,simprocAttr,hx,ht,hN,l0,l1,l2,l3,l3',NU,NW,ite_self,if_true]
end F
namespace F
def bx(x:Nat):Nat:=if x=0 then 0 else x.log2+1
theorem ca{x w:Nat}:bx x≤w↔x<2 ^ w:=by
 unfold bx
 by_cases h:x=0
 ·subst h;simp;exact Qs (by decide)
 ·rw[if_neg h,Nat.succ_le_iff,Nat.log2_lt h]
theorem fI{x k:Nat}(h:2 ^ k≤x):bx (x/2 ^ k)+k=bx x:=by
 have key:∀w,bx (x/2 ^ k)+k≤w↔bx x≤w:=fun w=>by
  by_cases hw:k≤w
  ·obtain⟨d,rfl⟩:=Nat.exists_eq_add_of_le hw
   rw[show(bx (x/2 ^ k)+k≤k+d)↔bx (x/2 ^ k)≤d by omega,ca,ca,Nat.pow_add,Nat.div_lt_iff_lt_mul (Qs (by decide)),Qn]
  ·rw[ca]
   have h2:2 ^ w≤2 ^ k:=Pg (by decide) (by omega)
   omega
 exact Nat.le_antisymm ((key _).2 (NV _)) ((key _).1 (NV _))
def ct:ByteArray:=⟨⟨[0,1,2,2,3,3,3,3,4,4,4,4,4,4,4,4,5,5,5,5,5,5,5,5,5,5,5,5,5,5,5,5,6,6,6,6,6,6,6,6,6,6,6,6,6,6,6,6,6,6,6,6,6,6,6,6,6,6,6,6,6,6,6,6,7,7,7,7,7,7,7,7,7,7,7,7,7,7,7,7,7,7,7,7,7,7,7,7,7,7,7,7,7,7,7,7,7,7,7,7,7,7,7,7,7,7,7,7,7,7,7,7,7,7,7,7,7,7,7,7,7,7,7,7,7,7,7,7,8,8,8,8,8,8,8,8,8,8,8,8,8,8,8,8,8,8,8,8,8,8,8,8,8,8,8,8,8,8,8,8,8,8,8,8,8,8,8,8,8,8,8,8,8,8,8,8,8,8,8,8,8,8,8,8,8,8,8,8,8,8,8,8,8,8,8,8,8,8,8,8,8,8,8,8,8,8,8,8,8,8,8,8,8,8,8,8,8,8,8,8,8,8,8,8,8,8,8,8,8,8,8,8,8,8,8,8,8,8,8,8,8,8,8,8,8,8,8,8,8,8,8,8,8,8,8,8]⟩⟩
theorem vU:∀i:Fin 256,ct.data[(i:Nat)]?=some (UInt8.ofNat (bx i)):=by decide
theorem yl(x:Nat):(x:Int).fdiv (2 ^ min 32 64)=((x/2 ^ 32:Nat):Int):=by rw[show min 32 64=32 from rfl,cZ]
theorem y9(x:Nat):(x:Int).fdiv (2 ^ min 16 64)=((x/2 ^ 16:Nat):Int):=by rw[show min 16 64=16 from rfl,cZ]
theorem GY(x:Nat):(x:Int).fdiv (2 ^ min 8 64)=((x/2 ^ 8:Nat):Int):=by rw[show min 8 64=8 from rfl,cZ]
theorem yK{x:Nat}(h:x<256):IntKind.u8.wrap (x:Int)=x:=jK (by omega) (by omega)
theorem fV{x:Nat}(h:x<256):ct.data[x]?=some (UInt8.ofNat (bx x)):=vU ⟨x,h⟩
theorem ofNat_toNat{a:Nat}(h:a<256):(UInt8.ofNat a).toNat=a:=by
 simp[UInt8.toNat_ofNat,O7 h]
theorem Ad:bX (32+16)=48:=by decide
theorem zY:bX (48+8)=56:=by decide
theorem AA:bX (0+16)=16:=by decide
theorem Ab:bX (16+8)=24:=by decide
theorem zW:bX (32+8)=40:=by decide
theorem Al:bX (0+8)=8:=by decide
theorem ej:ct.size=256:=by rfl
theorem IU(n:Nat)(H:ae)(x:Nat)(h:x<2 ^ 64):ab T (n+1) (.fn 195) [.int .u64 x] H=some (Ru (bx x),H):=by
 refine aw KW (by rfl) ?_
 simp only[Ek,av,go_sem,Int.reduceToNat,Nat.reduceAdd,Nat.reduceBEq,Nat.reduceLeDiff,Nat.reduceLT,Nat.reduceMul,Nat.reduceSub,Int.reduceEq,Int.reduceLT,Int.reduceLE,Int.reduceNeg]
 rw[←ct]
 by_cases h32:4294967296≤x
 ·have hd32:decide ((4294967296:Int)≤(x:Int))=true:=NN (by omega)
  have hl32:=fI (x:=x) (k:=32) (by omega)
  obtain⟨y32,hy32⟩:∃z,x/2 ^ 32=z:=⟨_,rfl⟩
  rw[hy32]at hl32
  have hb32:y32<4294967296:=by omega
  by_cases h16:65536≤y32
  ·have hd16:decide ((65536:Int)≤(y32:Int))=true:=NN (by omega)
   have hl16:=fI (x:=y32) (k:=16) (by omega)
   obtain⟨y16,hy16⟩:∃z,y32/2 ^ 16=z:=⟨_,rfl⟩
   rw[hy16]at hl16
   have hb16:y16<65536:=by omega
   by_cases h8:256≤y16
   ·have hd8:decide ((256:Int)≤(y16:Int))=true:=NN (by omega)
    have hl8:=fI (x:=y16) (k:=8) (by omega)
    obtain⟨y8,hy8⟩:∃z,y16/2 ^ 8=z:=⟨_,rfl⟩
    rw[hy8]at hl8
    have hb8:y8<256:=by omega
    have hu:=yK (x:=y8) (by omega)
    have hg:=fV (x:=y8) (by omega)
    have hn:(UInt8.ofNat (bx y8)).toNat=bx y8:=by have:=(ca (x:=y8) (w:=8)).2 (by omega);exact ofNat_toNat (by omega)
    have hn2:bx y8≤8:=(ca (x:=y8) (w:=8)).2 (by omega)
    have hz:decide ((y8:Int)<256)=true:=NN (by omega)
    have hz0:decide ((0:Int)≤(y8:Int))=true:=NN (by omega)
    have hw1:bX ((bx y8:Nat):Int)=(bx y8:Nat):=an (by omega) (by omega)
    have hw2:bX (56+((bx y8:Nat):Int))=(bx x:Nat):=by rw[an (by omega) (by omega)];omega
    simp only[go_sem,Int.reduceToNat,Nat.reduceAdd,Nat.reduceBEq,Nat.reduceLeDiff,Nat.reduceLT,Nat.reduceMul,Nat.reduceSub,Int.reduceEq,Int.reduceLT,Int.reduceLE,Int.reduceNeg,hd32,yl,hy32,hd16,y9,hy16,hd8,GY,hy8,hu,hg,hn,hz,hz0,hw1,hw2,ej,N0,Ad,zY,AA,Ab,zW,Al]
    try rfl
   ·have hd8:decide ((256:Int)≤(y16:Int))=false:=NQ (by omega)
    have hu:=yK (x:=y16) (by omega)
    have hg:=fV (x:=y16) (by omega)
    have hn:(UInt8.ofNat (bx y16)).toNat=bx y16:=by have:=(ca (x:=y16) (w:=8)).2 (by omega);exact ofNat_toNat (by omega)
    have hn2:bx y16≤8:=(ca (x:=y16) (w:=8)).2 (by omega)
    have hz:decide ((y16:Int)<256)=true:=NN (by omega)
    have hz0:decide ((0:Int)≤(y16:Int))=true:=NN (by omega)
    have hw1:bX ((bx y16:Nat):Int)=(bx y16:Nat):=an (by omega) (by omega)
    have hw2:bX (48+((bx y16:Nat):Int))=(bx x:Nat):=by rw[an (by omega) (by omega)];omega
    simp only[go_sem,Int.reduceToNat,Nat.reduceAdd,Nat.reduceBEq,Nat.reduceLeDiff,Nat.reduceLT,Nat.reduceMul,Nat.reduceSub,Int.reduceEq,Int.reduceLT,Int.reduceLE,Int.reduceNeg,hd32,yl,hy32,hd16,y9,hy16,hd8,hu,hg,hn,hz,hz0,hw1,hw2,ej,N0,Ad,zY,AA,Ab,zW,Al]
    try rfl
  ·have hd16:decide ((65536:Int)≤(y32:Int))=false:=NQ (by omega)
   by_cases h8:256≤y32
   ·have hd8:decide ((256:Int)≤(y32:Int))=true:=NN (by omega)
    have hl8:=fI (x:=y32) (k:=8) (by omega)
    obtain⟨y8,hy8⟩:∃z,y32/2 ^ 8=z:=⟨_,rfl⟩
    rw[hy8]at hl8
    have hb8:y8<256:=by omega
    have hu:=yK (x:=y8) (by omega)
    have hg:=fV (x:=y8) (by omega)
    have hn:(UInt8.ofNat (bx y8)).toNat=bx y8:=by have:=(ca (x:=y8) (w:=8)).2 (by omega);exact ofNat_toNat (by omega)
    have hn2:bx y8≤8:=(ca (x:=y8) (w:=8)).2 (by omega)
    have hz:decide ((y8:Int)<256)=true:=NN (by omega)
    have hz0:decide ((0:Int)≤(y8:Int))=true:=NN (by omega)
    have hw1:bX ((bx y8:Nat):Int)=(bx y8:Nat):=an (by omega) (by omega)
    have hw2:bX (40+((bx y8:Nat):Int))=(bx x:Nat):=by rw[an (by omega) (by omega)];omega
    simp only[go_sem,Int.reduceToNat,Nat.reduceAdd,Nat.reduceBEq,Nat.reduceLeDiff,Nat.reduceLT,Nat.reduceMul,Nat.reduceSub,Int.reduceEq,Int.reduceLT,Int.reduceLE,Int.reduceNeg,hd32,yl,hy32,hd16,hd8,GY,hy8,hu,hg,hn,hz,hz0,hw1,hw2,ej,N0,Ad,zY,AA,Ab,zW,Al]
    try rfl
   ·have hd8:decide ((256:Int)≤(y32:Int))=false:=NQ (by omega)
    have hu:=yK (x:=y32) (by omega)
    have hg:=fV (x:=y32) (by omega)
    have hn:(UInt8.ofNat (bx y32)).toNat=bx y32:=by have:=(ca (x:=y32) (w:=8)).2 (by omega);exact ofNat_toNat (by omega)
    have hn2:bx y32≤8:=(ca (x:=y32) (w:=8)).2 (by omega)
    have hz:decide ((y32:Int)<256)=true:=NN (by omega)
    have hz0:decide ((0:Int)≤(y32:Int))=true:=NN (by omega)
    have hw1:bX ((bx y32:Nat):Int)=(bx y32:Nat):=an (by omega) (by omega)
    have hw2:bX (32+((bx y32:Nat):Int))=(bx x:Nat):=by rw[an (by omega) (by omega)];omega
    simp only[go_sem,Int.reduceToNat,Nat.reduceAdd,Nat.reduceBEq,Nat.reduceLeDiff,Nat.reduceLT,Nat.reduceMul,Nat.reduceSub,Int.reduceEq,Int.reduceLT,Int.reduceLE,Int.reduceNeg,hd32,yl,hy32,hd16,hd8,hu,hg,hn,hz,hz0,hw1,hw2,ej,N0,Ad,zY,AA,Ab,zW,Al]
    try rfl
 ·have hd32:decide ((4294967296:Int)≤(x:Int))=false:=NQ (by omega)
  by_cases h16:65536≤x
  ·have hd16:decide ((65536:Int)≤(x:Int))=true:=NN (by omega)
   have hl16:=fI (x:=x) (k:=16) (by omega)
   obtain⟨y16,hy16⟩:∃z,x/2 ^ 16=z:=⟨_,rfl⟩
   rw[hy16]at hl16
   have hb16:y16<65536:=by omega
   by_cases h8:256≤y16
   ·have hd8:decide ((256:Int)≤(y16:Int))=true:=NN (by omega)
    have hl8:=fI (x:=y16) (k:=8) (by omega)
    obtain⟨y8,hy8⟩:∃z,y16/2 ^ 8=z:=⟨_,rfl⟩
    rw[hy8]at hl8
    have hb8:y8<256:=by omega
    have hu:=yK (x:=y8) (by omega)
    have hg:=fV (x:=y8) (by omega)
    have hn:(UInt8.ofNat (bx y8)).toNat=bx y8:=by have:=(ca (x:=y8) (w:=8)).2 (by omega);exact ofNat_toNat (by omega)
    have hn2:bx y8≤8:=(ca (x:=y8) (w:=8)).2 (by omega)
    have hz:decide ((y8:Int)<256)=true:=NN (by omega)
    have hz0:decide ((0:Int)≤(y8:Int))=true:=NN (by omega)
    have hw1:bX ((bx y8:Nat):Int)=(bx y8:Nat):=an (by omega) (by omega)
    have hw2:bX (24+((bx y8:Nat):Int))=(bx x:Nat):=by rw[an (by omega) (by omega)];omega
    simp only[go_sem,Int.reduceToNat,Nat.reduceAdd,Nat.reduceBEq,Nat.reduceLeDiff,Nat.reduceLT,Nat.reduceMul,Nat.reduceSub,Int.reduceEq,Int.reduceLT,Int.reduceLE,Int.reduceNeg,hd32,hd16,y9,hy16,hd8,GY,hy8,hu,hg,hn,hz,hz0,hw1,hw2,ej,N0,Ad,zY,AA,Ab,zW,Al]
    try rfl
   ·have hd8:decide ((256:Int)≤(y16:Int))=false:=NQ (by omega)
    have hu:=yK (x:=y16) (by omega)
    have hg:=fV (x:=y16) (by omega)
    have hn:(UInt8.ofNat (bx y16)).toNat=bx y16:=by have:=(ca (x:=y16) (w:=8)).2 (by omega);exact ofNat_toNat (by omega)
    have hn2:bx y16≤8:=(ca (x:=y16) (w:=8)).2 (by omega)
    have hz:decide ((y16:Int)<256)=true:=NN (by omega)
    have hz0:decide ((0:Int)≤(y16:Int))=true:=NN (by omega)
    have hw1:bX ((bx y16:Nat):Int)=(bx y16:Nat):=an (by omega) (by omega)
    have hw2:bX (16+((bx y16:Nat):Int))=(bx x:Nat):=by rw[an (by omega) (by omega)];omega
    simp only[go_sem,Int.reduceToNat,Nat.reduceAdd,Nat.reduceBEq,Nat.reduceLeDiff,Nat.reduceLT,Nat.reduceMul,Nat.reduceSub,Int.reduceEq,Int.reduceLT,Int.reduceLE,Int.reduceNeg,hd32,hd16,y9,hy16,hd8,hu,hg,hn,hz,hz0,hw1,hw2,ej,N0,Ad,zY,AA,Ab,zW,Al]
    try rfl
  ·have hd16:decide ((65536:Int)≤(x:Int))=false:=NQ (by omega)
   by_cases h8:256≤x
   ·have hd8:decide ((256:Int)≤(x:Int))=true:=NN (by omega)
    have hl8:=fI (x:=x) (k:=8) (by omega)
    obtain⟨y8,hy8⟩:∃z,x/2 ^ 8=z:=⟨_,rfl⟩
    rw[hy8]at hl8
    have hb8:y8<256:=by omega
    have hu:=yK (x:=y8) (by omega)
    have hg:=fV (x:=y8) (by omega)
    have hn:(UInt8.ofNat (bx y8)).toNat=bx y8:=by have:=(ca (x:=y8) (w:=8)).2 (by omega);exact ofNat_toNat (by omega)
    have hn2:bx y8≤8:=(ca (x:=y8) (w:=8)).2 (by omega)
    have hz:decide ((y8:Int)<256)=true:=NN (by omega)
    have hz0:decide ((0:Int)≤(y8:Int))=true:=NN (by omega)
    have hw1:bX ((bx y8:Nat):Int)=(bx y8:Nat):=an (by omega) (by omega)
    have hw2:bX (8+((bx y8:Nat):Int))=(bx x:Nat):=by rw[an (by omega) (by omega)];omega
    simp only[go_sem,Int.reduceToNat,Nat.reduceAdd,Nat.reduceBEq,Nat.reduceLeDiff,Nat.reduceLT,Nat.reduceMul,Nat.reduceSub,Int.reduceEq,Int.reduceLT,Int.reduceLE,Int.reduceNeg,hd32,hd16,hd8,GY,hy8,hu,hg,hn,hz,hz0,hw1,hw2,ej,N0,Ad,zY,AA,Ab,zW,Al]
    try rfl
   ·have hd8:decide ((256:Int)≤(x:Int))=false:=NQ (by omega)
    have hu:=yK (x:=x) (by omega)
    have hg:=fV (x:=x) (by omega)
    have hn:(UInt8.ofNat (bx x)).toNat=bx x:=by have:=(ca (x:=x) (w:=8)).2 (by omega);exact ofNat_toNat (by omega)
    have hn2:bx x≤8:=(ca (x:=x) (w:=8)).2 (by omega)
    have hz:decide ((x:Int)<256)=true:=NN (by omega)
    have hz0:decide ((0:Int)≤(x:Int))=true:=NN (by omega)
    have hw1:bX ((bx x:Nat):Int)=(bx x:Nat):=an (by omega) (by omega)
    have hw2:bX (0+((bx x:Nat):Int))=(bx x:Nat):=by rw[an (by omega) (by omega)];omega
    simp only[go_sem,Int.reduceToNat,Nat.reduceAdd,Nat.reduceBEq,Nat.reduceLeDiff,Nat.reduceLT,Nat.reduceMul,Nat.reduceSub,Int.reduceEq,Int.reduceLT,Int.reduceLE,Int.reduceNeg,hd32,hd16,hd8,hu,hg,hn,hz,hz0,hw1,hw2,ej,N0,Ad,zY,AA,Ab,zW,Al]
    try rfl
end F
section
namespace F
abbrev wH(b0:aj)(bs:List Bool)(tl:List aj)(es:List (Nat×Nat)):ae:=⟨b0::wB bs::wA bs::tl,es,0⟩
abbrev ek(bs:List Bool)(w:Nat):List (Nat×Nat):=List.replicate (nb (bs.length+w)-nb bs.length) (1,3)
theorem AM(n:Nat)(H:ae)(x:Nat)(h:x<2 ^ 64):ab T (n+2) (.fn 166) [.int .u64 x] H=some (Ru (bx x),H):=by
 refine aw IY (by rfl) ?_
 simp only[FO,av,go_sem,simprocAttr,IU _ _ _ h]
theorem BA(n:Nat)(H:ae)(x:Int):ab T (n+1) (.fn 223) [Ru x] H=some (.bool (decide (1≤x)&&decide (x≤4095)),H):=by
 refine aw JR (by rfl) ?_
 simp only[E4,av,go_sem,simprocAttr]
 repeat' (with_reducible refine iv (fun _=>?_) (fun _=>?_)<;>simp only[*,go_sem,simprocAttr])
theorem EJ(n:Nat)(H:ae):ab T (n+3) (.fn 224) [Ru 127] H=some (Ru 7,H):=by
 refine aw Ii (by rfl) ?_
 have h:∀H,ab T (n+2) (.fn 166) [.int .u64 127] H=some (Ru 7,H):=fun H=>AM n H 127 (by decide)
 have e:IntKind.u64.wrap 127=127:=by decide
 have e3:max (1:Int) 7=7:=by decide
 simp only[EH,av,go_sem,simprocAttr,e,h,e3]
section
variable(b0:aj)(tl:List aj)(es:List (Nat×Nat))(bs:List Bool)
theorem Bv(n:Nat)(w v:Nat)(v':Int)(hw:w≤63)(hv:v<2 ^ 64)(hv':IntKind.u64.wrap v'=v)(hb:bs.length+w≤524288) :
 ab T (n+2) (.fn 165) [.ptr 1 0 0 0,.bool true,.bool true,Ru w,Ru v'] (wH b0 bs tl es)=some (.ax [],wH b0 (bs++bits w v) tl (es++ek bs w)):=by
 refine ao ES (by rfl) ?_
 have h:=fun es=>A8 n b0 tl es bs w v hw hv (by omega)
 have hx:decide (((bs.length:Int))+w>524288)=false:=NQ (by omega)
 have hx2:decide ((524288:Int)<(bs.length:Int)+w)=false:=NQ (by omega)
 have hs:bX ((bs.length:Int)+w)=bs.length+w:=an (by omega) (by omega)
 have l0:decide (0<tl.length+1+1+1)=true:=NN (by omega)
 have l1:decide (1<tl.length+1+1+1)=true:=NN (by omega)
 have l2:decide (2<tl.length+1+1+1)=true:=NN (by omega)
 have l3':decide (tl.length+1+1+1<3)=false:=NQ (by omega)
 have l3:decide (3≤tl.length+1+1+1)=true:=NN (by omega)
 simp only[Cj,go_sem,simprocAttr,hs,hx,hx2,hv',h,l0,l1,l2,l3,l3',NU,NW,ite_self,if_true]
theorem JA(n:Nat)(f:Bool)(hb:bs.length+1≤524288) :
 ab T (n+3) (.fn 118) [.ptr 1 0 0 0,.bool f] (wH b0 bs tl es)=some (.ax [],wH b0 (bs++bits 1 (bt f)) tl (es++ek bs 1)):=by
 refine ao Ee (by rfl) ?_
 have h:=fun es=>Bv b0 tl es bs n 1 (bt f) (bt f) (by omega) (by have:=oK f;omega) (by have:=oK f;exact e7 (by omega) (by omega)) hb
 have l1:decide (1<tl.length+1+1+1)=true:=NN (by omega)
 have l3':decide (tl.length+1+1+1<3)=false:=NQ (by omega)
 have l3:decide (3≤tl.length+1+1+1)=true:=NN (by omega)
 cases f with
 |false=>
  have h:∀es,ab T (n+2) (.fn 165) [.ptr 1 0 0 0,.bool true,.bool true,Ru 1,Rv] (wH b0 bs tl es)=some (.ax [],wH b0 (bs++bits 1 0) tl (es++ek bs 1)):=h
  simp only[xn,bt,go_sem,simprocAttr,h,l1,l3,l3',NU,NW,ite_self,if_true]
 |true=>
  have h:∀es,ab T (n+2) (.fn 165) [.ptr 1 0 0 0,.bool true,.bool true,Ru 1,Ru 1] (wH b0 bs tl es)=some (.ax [],wH b0 (bs++bits 1 1) tl (es++ek bs 1)):=h
  simp only[xn,bt,go_sem,simprocAttr,h,l1,l3,l3',NU,NW,ite_self,if_true]
theorem u4(n:Nat)(w v:Nat)(h1:1≤w)(hw:w≤62)(hv:v<2 ^ w)(hb:bs.length+w≤524288) :
 ab T (n+3) (.fn 119) [.ptr 1 0 0 0,Ru w,Ru v] (wH b0 bs tl es)=some (.ax [],wH b0 (bs++bits w v) tl (es++ek bs w)):=by
 refine ao Fv (by rfl) ?_
 have h63:2 ^ w≤2 ^ 62:=Pg (by decide) hw
 have hv':IntKind.u64.wrap (v:Int)=v:=e7 (by omega) (by omega)
 have h:=fun es=>Bv b0 tl es bs n w v v (by omega) (by omega) hv' hb
 have h97:=fun H=>AM n H v (by omega)
 have hl:=(ca (x:=v) (w:=w)).2 hv
 have x1:decide ((1:Int)≤w)=true:=NN (by omega)
 have x2:decide ((w:Int)≤63)=true:=NN (by omega)
 have x3:decide (((bx v:Nat):Int)≤w)=true:=NN (by omega)
 have l1:decide (1<tl.length+1+1+1)=true:=NN (by omega)
 have l3':decide (tl.length+1+1+1<3)=false:=NQ (by omega)
 have l3:decide (3≤tl.length+1+1+1)=true:=NN (by omega)
 simp only[AP,go_sem,simprocAttr,h,h97,hv',x1,x2,x3,l1,l3,l3',NU,NW,ite_self,if_true]
end
end F
end
section
namespace F
def ta(x:Int):Nat:=(x%18446744073709551616).toNat
theorem BP(x:Int):ta x<2 ^ 64:=by unfold ta;omega
theorem wU(x:Int):IntKind.u64.wrap x=(ta x:Nat):=by
 have e:IntKind.u64.wrap x=x%18446744073709551616:=by simp[IntKind.wrap,IntKind.bits,IntKind.signed]
 unfold ta;rw[e];omega
theorem bE{bs bs':List Bool}{a b:Nat}(h:bs'.length=bs.length+a):ek bs a++ek bs' b=ek bs (a+b):=by
 unfold ek
 rw[List.replicate_append_replicate,h]
 congr 1
 unfold nb;omega
section
variable(b0:aj)(tl:List aj)(es:List (Nat×Nat))(bs:List Bool)
theorem I6(n:Nat)(x:Int)(h0: -32768≤x)(h1:x≤32767)(hb:bs.length+16≤524288) :
 ab T (n+3) (.fn 171) [.ptr 1 0 0 0,Ru 16,Ru x] (wH b0 bs tl es)=some (.ax [],wH b0 (bs++bits 16 (ta x)) tl (es++ek bs 16)):=by
 refine ao Jj (by rfl) ?_
 have h:∀es,ab T (n+2) (.fn 165) [.ptr 1 0 0 0,.bool true,.bool true,Ru 16,Ru x] (wH b0 bs tl es)=some (.ax [],wH b0 (bs++bits 16 (ta x)) tl (es++ek bs 16)):=fun es=>Bv b0 tl es bs n 16 (ta x) x (by omega) (BP x) (wU x) hb
 have x1:decide (-32768≤x)=true:=NN h0
 have x2:decide (x≤32767)=true:=NN h1
 have m1:max (16:Int) 1=16:=by decide
 have m2:bX (16-1)=15:=by decide
 have m3:bX (-1*2 ^ min 15 64)= -32768:=by decide
 have m4:bX (1*2 ^ min 15 64)=32768:=by decide
 have m5:bX (32768-1)=32767:=by decide
 have l1:decide (1<tl.length+1+1+1)=true:=NN (by omega)
 have l3':decide (tl.length+1+1+1<3)=false:=NQ (by omega)
 have l3:decide (3≤tl.length+1+1+1)=true:=NN (by omega)
 simp only[Fx,go_sem,Int.reduceToNat,Nat.reduceAdd,Nat.reduceBEq,Nat.reduceLeDiff,Nat.reduceLT,Nat.reduceMul,Nat.reduceSub,Int.reduceEq,Int.reduceLT,Int.reduceLE,Int.reduceNeg,h,x1,x2,m1,m2,m3,m4,m5,l1,l3,l3',NU,NW,ite_self,if_true]
def cT(x:ByteArray):Nat→List Bool
 |0=>[]
 |i+1=>cT x i++bits 8 ((x.data[i]?).getD 0).toNat
theorem cj(x:ByteArray):∀i,(cT x i).length=8*i
 |0=>rfl
 |i+1=>by simp only[cT,NO,cj x i,aa];omega
theorem Kp(n:Nat)(x:ByteArray)(hx:x.size≤127)(hb:bs.length≤1000) :
 ab T (n+4) (.fn 198) [.ptr 1 0 0 0,Ru 127,.str x] (wH b0 bs tl es)=some (.ax [],wH b0 (bs++bits 7 x.size++cT x x.size) tl (es++ek bs (7+8*x.size))):=by
 refine ao Fk (by rfl) ?_
 have h101:=fun H=>BA (n+2) H 127
 have h102:=fun H=>EJ n H
 have x1:decide ((127:Int)<(x.size:Int))=false:=NQ (by omega)
 have w1:bX ((bs.length:Int)+7)=(bs.length:Int)+7:=an (by omega) (by omega)
 have w2:bX (8*(x.size:Int))=8*(x.size:Int):=an (by omega) (by omega)
 have w3:bX ((bs.length:Int)+7+8*(x.size:Int))=(bs.length:Int)+7+8*(x.size:Int):=an (by omega) (by omega)
 have x2:decide ((524288:Int)<(bs.length:Int)+7+8*(x.size:Int))=false:=NQ (by omega)
 have hu:IntKind.u64.wrap (x.size:Int)=(x.size:Nat):=e7 (by omega) (by omega)
 have h103:∀es,ab T (n+3) (.fn 193) [.ptr 1 0 0 0,Ru 7,.int .u64 x.size] (wH b0 bs tl es)=some (.ax [],wH b0 (bs++bits 7 x.size) tl (es++ek bs 7)):=fun es=>A8 (n+2) b0 tl es bs 7 x.size (by omega) (by omega) (by omega)
 have l0:decide (0<tl.length+1+1+1)=true:=NN (by omega)
 have l1:decide (1<tl.length+1+1+1)=true:=NN (by omega)
 have l2:decide (2<tl.length+1+1+1)=true:=NN (by omega)
 have l3':decide (tl.length+1+1+1<3)=false:=NQ (by omega)
 have l3:decide (3≤tl.length+1+1+1)=true:=NN (by omega)
 have hN:decide (max 2 0≤tl.length+1+1+1)=true:=NN (by omega)
 simp only[AY,go_sem,Int.reduceToNat,Nat.reduceAdd,Nat.reduceBEq,Nat.reduceLeDiff,Nat.reduceLT,Nat.reduceMul,Nat.reduceSub,Int.reduceEq,Int.reduceLT,Int.reduceLE,Int.reduceNeg,h101,h102,x1,w1,w2,w3,x2,hu,h103,l0,l1,l2,l3,l3',NU,NW,ite_self,if_true]
 have hP:(bs++bits 7 x.size).length=bs.length+7:=by rw[NO,aa]
 obtain⟨P,hPd⟩:∃P,bs++bits 7 x.size=P:=⟨_,rfl⟩
 rw[hPd]at hP⊢
 rw[←bE (bs':=P) (by omega),←NR]
 have hx2:x.size≤maxLen:=O0 hx (by decide)
 refine bz (fun i=>([(0,.ptr 1 0 0 0),(2,.str x),(15,Ru x.size),(16,Ru i)],⟨b0::wB (P++cT x i)::wA (P++cT x i)::tl,ek P (8*i),0⟩)) (fun _=>True) x.size ?_ trivial ?_
 ·simp only[go_sem,Int.reduceToNat,Nat.reduceAdd,Nat.reduceBEq,Nat.reduceLeDiff,Nat.reduceLT,Nat.reduceMul,Nat.reduceSub,Int.reduceEq,Int.reduceLT,Int.reduceLE,Int.reduceNeg,hN,l0,l1,l2,l3,l3',cT,OS,Rg,Ph,Po,PE]
  rw[show ek P 0=[] by simp[ek]]
 ·intro i hi _
  rcases Oh i x.size with hlt|hge
  ·have hs:=mz hlt hx2
   have hd:x.data[i]?=some x.data[i]:=Od (by exact hlt)
   have hv:=Pw x.data[i]
   have hu8:IntKind.u64.wrap ((x.data[i].toNat:Nat):Int)=(x.data[i].toNat:Nat):=e7 (by omega) (by omega)
   have h1:∀es,ab T (n+3) (.fn 193) [.ptr 1 0 0 0,Ru 8,.int .u64 (x.data[i].toNat:Nat)] (wH b0 (P++cT x i) tl es)=some (.ax [],wH b0 (P++cT x i++bits 8 x.data[i].toNat) tl (es++ek (P++cT x i) 8)):=
    fun es=>A8 (n+2) b0 tl es (P++cT x i) 8 x.data[i].toNat (by omega) (by omega) (by rw[NO,cj];omega)
   have hB:P++cT x i++bits 8 x.data[i].toNat=P++cT x (i+1):=by simp only[cT,hd,O2,NR]
   have hE:ek P (8*i)++ek (P++cT x i) 8=ek P (8*(i+1)):=by rw[bE (by rw[NO,cj])];rfl
   rw[hB]at h1
   simp only[go_sem,Int.reduceToNat,Nat.reduceAdd,Nat.reduceBEq,Nat.reduceLeDiff,Nat.reduceLT,Nat.reduceMul,Nat.reduceSub,Int.reduceEq,Int.reduceLT,Int.reduceLE,Int.reduceNeg,hlt,hd,hu8,h1,hE,hs,hN,l0,l1,l2,l3,l3',NU,NW,ite_self,if_true]
   refine⟨by first|trivial|omega,by first|trivial|rfl,trivial⟩
  ·obtain rfl:i=x.size:=by omega
   have hd:decide (x.size<x.size)=false:=NQ (by omega)
   simp only[go_sem,Int.reduceToNat,Nat.reduceAdd,Nat.reduceBEq,Nat.reduceLeDiff,Nat.reduceLT,Nat.reduceMul,Nat.reduceSub,Int.reduceEq,Int.reduceLT,Int.reduceLE,Int.reduceNeg,hd,hN,l0,l1,l2,l3,l3',NU,NW,Oj,O6,ite_self,if_true,O5,NR]
end
end F
end
section
namespace F
abbrev pW:SV:=.agg [.ptr 1 0 0 0,.bF]
section
variable(n:Nat)(cs:List SV)(t1 t2 t3:aj)(es:List (Nat×Nat))(bs:List Bool)
theorem eI(w v j:Nat)(hj:cs[j]?=some (Ru v))(h1:1≤w)(hw:w≤62)(hv:v<2 ^ w)(hb:bs.length+w≤524288) :
 ab T (n+4) (.fn 134) [pW,Ru w,.ptr 0 0 0 j] (wH (.box cs) bs [t1,t2] es)=some (.ax [],wH (.box cs) (bs++bits w v) [t1,t2] (es++ek bs w)):=by
 refine ao Cf (by rfl) ?_
 have h:=fun t es=>u4 (.box cs) [t1,t2,t] es bs n w v h1 hw hv hb
 simp only[zA,go_sem,simprocAttr,h,hj,Og,Oc,NU,NW,ite_self,if_true]
theorem nE(w v j:Nat)(hj:cs[j]?=some (Ru v))(h1:1≤w)(hw:w≤62)(hv:v<2 ^ w)(hb:bs.length+w≤524288) :
 ab T (n+4) (.fn 134) [pW,Ru w,.ptr 0 0 0 j] (wH (.box cs) bs [t1,t2,t3] es)=some (.ax [],wH (.box cs) (bs++bits w v) [t1,t2,t3] (es++ek bs w)):=by
 refine ao Cf (by rfl) ?_
 have h:=fun t es=>u4 (.box cs) [t1,t2,t3,t] es bs n w v h1 hw hv hb
 simp only[zA,go_sem,simprocAttr,h,hj,Og,Oc,NU,NW,Oj,O6,O5,NR,ite_self,if_true]
theorem Bi(x:ByteArray)(j:Nat)(hj:cs[j]?=some (.str x))(hx:x.size≤127)(hb:bs.length≤1000) :
 ab T (n+5) (.fn 170) [pW,.ptr 0 0 0 j] (wH (.box cs) bs [t1,t2,t3] es)=some (.ax [],wH (.box cs) (bs++bits 7 x.size++cT x x.size) [t1,t2,t3] (es++ek bs (7+8*x.size))):=by
 refine ao Bp (by rfl) ?_
 have h:=fun t es=>Kp (.box cs) [t1,t2,t3,t] es bs n x hx hb
 simp only[yU,go_sem,simprocAttr,h,hj,Og,Oc,NU,NW,Oj,O6,O5,NR,ite_self,if_true]
def ah(d:Int):List Bool:=bits 1 (bt (decide (0≤d)))++bif decide (0≤d)then bits 5 d.toNat else[]
def aR(d:Int):Nat:=1+bif decide (0≤d)then 5 else 0
theorem aE(d:Int):(ah d).length=aR d:=by
 unfold ah aR;cases decide (0≤d)<;>simp[aa]
section
variable(k s d q o c m e t u v:Int)(x:ByteArray)
theorem rM(hd:d<32)(hd0:d<0→d= -1)(hb:bs.length≤1000) :
 ab T (n+6) (.fn 135) [pW,.ptr 0 0 0 2] (wH (aj.box (fr k s d q o c m e t u v x)) bs [t1,t2] es)=some (.ax [],wH (aj.box (fr k s d q o c m e t u v x)) (bs++ah d) [t1,t2] (es++ek bs (aR d))):=by
 refine ao Ep (by rfl) ?_
 have h87:=fun tt es f=>JA (aj.box (fr k s d q o c m e t u v x)) [t1,t2,tt] es bs (n+2) f (by omega)
 cases hf:decide (0≤d)with
 |false=>
  have h87:=fun tt es=>h87 tt es false
  have hd1:d= -1:=by simp only[Ow]at hf;omega
  subst hd1
  simp only[vw,go_sem,simprocAttr,h87,hf,ah,aR,Og,Oc,NU,NW,Oj,O6,O5,NR,ite_self,if_true]
 |true=>
  have h87:=fun tt es=>h87 tt es true
  simp only[NY]at hf
  have h61:∀tt es,ab T (n+5) (.fn 134) [pW,Ru 5,.ptr 0 0 0 2] (wH (aj.box (fr k s d q o c m e t u v x)) (bs++bits 1 (bt true)) [t1,t2,tt] es)=some (.ax [],wH (aj.box (fr k s d q o c m e t u v x)) (bs++bits 1 (bt true)++bits 5 d.toNat) [t1,t2,tt] (es++ek (bs++bits 1 (bt true)) 5)):=
   fun t' es=>nE (n+1) _ t1 t2 t' es (bs++bits 1 (bt true)) 5 d.toNat 2 (by rw[N2 hf];rfl) (by omega) (by omega) (by omega) (by rw[NO,aa];omega)
  have hf2:decide (0≤d)=true:=NN hf
  have hk:ek bs 6=ek bs 1++ek (bs++bits 1 (bt true)) 5:=(bE (bs:=bs) (bs':=bs++bits 1 (bt true)) (a:=1) (b:=5) (by rw[NO,aa])).symm
  simp only[vw,go_sem,simprocAttr,h87,h61,hf2,ah,aR,hk,Og,Oc,NU,NW,Oj,O6,O5,NR,ite_self,if_true]
theorem HJ(hc:0≤c∧c≤255)(hm:0≤m∧m≤65535)(hx:x.size≤127)(hb:bs.length≤900) :
 ab T (n+6) (.fn 130) [pW,.ptr 0 0 0 0] (wH (aj.box (fr k s d q o c m e t u v x)) bs [t1,t2] es)=some (.ax [],wH (aj.box (fr k s d q o c m e t u v x)) (bs++(bits 8 c.toNat++(bits 16 m.toNat++(bits 7 x.size++(cT x x.size))))) [t1,t2] (es++ek bs (24+(7+8*x.size)))):=by
 refine ao BQ (by rfl) ?_
 have h0:∀t' es,ab T (n+5) (.fn 134) [pW,Ru 8,.ptr 0 0 0 5] (wH (aj.box (fr k s d q o c m e t u v x)) bs [t1,t2,t'] es)=some (.ax [],wH (aj.box (fr k s d q o c m e t u v x)) (bs++(bits 8 c.toNat)) [t1,t2,t'] (es++ek bs 8)):=fun t' es=>by
  have:=nE (n+1) _ t1 t2 t' es bs 8 c.toNat 5 (show(fr k s d q o c m e t u v x)[5]?=_ by rw[N2 hc.1];rfl) (by omega) (by omega) (by omega) (by omega)
  try simp only[NR]at this
  exact this
 have l0:(bs++(bits 8 c.toNat)).length=bs.length+8:=by simp only[NO,aa]<;>omega
 have h1:∀t' es,ab T (n+5) (.fn 134) [pW,Ru 16,.ptr 0 0 0 6] (wH (aj.box (fr k s d q o c m e t u v x)) (bs++(bits 8 c.toNat)) [t1,t2,t'] es)=some (.ax [],wH (aj.box (fr k s d q o c m e t u v x)) (bs++(bits 8 c.toNat++(bits 16 m.toNat))) [t1,t2,t'] (es++ek (bs++(bits 8 c.toNat)) 16)):=fun t' es=>by
  have:=nE (n+1) _ t1 t2 t' es (bs++(bits 8 c.toNat)) 16 m.toNat 6 (show(fr k s d q o c m e t u v x)[6]?=_ by rw[N2 hm.1];rfl) (by omega) (by omega) (by omega) (by rw[l0];omega)
  try simp only[NR]at this
  exact this
 have l1:(bs++(bits 8 c.toNat++(bits 16 m.toNat))).length=bs.length+24:=by simp only[NO,aa]<;>omega
 have ht:∀t' es,ab T (n+5) (.fn 170) [pW,.ptr 0 0 0 11] (wH (aj.box (fr k s d q o c m e t u v x)) (bs++(bits 8 c.toNat++(bits 16 m.toNat))) [t1,t2,t'] es)=some (.ax [],wH (aj.box (fr k s d q o c m e t u v x)) (bs++(bits 8 c.toNat++(bits 16 m.toNat++(bits 7 x.size++(cT x x.size))))) [t1,t2,t'] (es++ek (bs++(bits 8 c.toNat++(bits 16 m.toNat))) (7+8*x.size))):=fun t' es=>by
  have:=Bi n _ t1 t2 t' es (bs++(bits 8 c.toNat++(bits 16 m.toNat))) x 11 (show(fr k s d q o c m e t u v x)[11]?=some (.str x)from rfl) hx (by rw[l1];omega)
  try simp only[NR]at this
  exact this
 have hk:ek bs (24+(7+8*x.size))=ek bs 8++ek (bs++(bits 8 c.toNat)) 16++ek (bs++(bits 8 c.toNat++(bits 16 m.toNat))) (7+8*x.size):=by rw[bE l0,bE l1]
 simp only[NR]at hk
 rw[hk]
 simp only[zw,go_sem,simprocAttr,h0,h1,ht,Og,Oc,NU,NW,Oj,O6,O5,NR,ite_self,if_true]
theorem JJ(ht:0≤t∧t≤109951162)(hu:0≤u∧u≤65535)(hv:0≤v∧v≤65535)(hx:x.size≤127)(hb:bs.length≤900) :
 ab T (n+6) (.fn 132) [pW,.ptr 0 0 0 0] (wH (aj.box (fr k s d q o c m e t u v x)) bs [t1,t2] es)=some (.ax [],wH (aj.box (fr k s d q o c m e t u v x)) (bs++(bits 27 t.toNat++(bits 16 u.toNat++(bits 16 v.toNat++(bits 7 x.size++(cT x x.size)))))) [t1,t2] (es++ek bs (59+(7+8*x.size)))):=by
 refine ao AZ (by rfl) ?_
 have h0:∀t' es,ab T (n+5) (.fn 134) [pW,Ru 27,.ptr 0 0 0 8] (wH (aj.box (fr k s d q o c m e t u v x)) bs [t1,t2,t'] es)=some (.ax [],wH (aj.box (fr k s d q o c m e t u v x)) (bs++(bits 27 t.toNat)) [t1,t2,t'] (es++ek bs 27)):=fun t' es=>by
  have:=nE (n+1) _ t1 t2 t' es bs 27 t.toNat 8 (show(fr k s d q o c m e t u v x)[8]?=_ by rw[N2 ht.1];rfl) (by omega) (by omega) (by omega) (by omega)
  try simp only[NR]at this
  exact this
 have l0:(bs++(bits 27 t.toNat)).length=bs.length+27:=by simp only[NO,aa]<;>omega
 have h1:∀t' es,ab T (n+5) (.fn 134) [pW,Ru 16,.ptr 0 0 0 9] (wH (aj.box (fr k s d q o c m e t u v x)) (bs++(bits 27 t.toNat)) [t1,t2,t'] es)=some (.ax [],wH (aj.box (fr k s d q o c m e t u v x)) (bs++(bits 27 t.toNat++(bits 16 u.toNat))) [t1,t2,t'] (es++ek (bs++(bits 27 t.toNat)) 16)):=fun t' es=>by
  have:=nE (n+1) _ t1 t2 t' es (bs++(bits 27 t.toNat)) 16 u.toNat 9 (show(fr k s d q o c m e t u v x)[9]?=_ by rw[N2 hu.1];rfl) (by omega) (by omega) (by omega) (by rw[l0];omega)
  try simp only[NR]at this
  exact this
 have l1:(bs++(bits 27 t.toNat++(bits 16 u.toNat))).length=bs.length+43:=by simp only[NO,aa]<;>omega
 have h2:∀t' es,ab T (n+5) (.fn 134) [pW,Ru 16,.ptr 0 0 0 10] (wH (aj.box (fr k s d q o c m e t u v x)) (bs++(bits 27 t.toNat++(bits 16 u.toNat))) [t1,t2,t'] es)=some (.ax [],wH (aj.box (fr k s d q o c m e t u v x)) (bs++(bits 27 t.toNat++(bits 16 u.toNat++(bits 16 v.toNat)))) [t1,t2,t'] (es++ek (bs++(bits 27 t.toNat++(bits 16 u.toNat))) 16)):=fun t' es=>by
  have:=nE (n+1) _ t1 t2 t' es (bs++(bits 27 t.toNat++(bits 16 u.toNat))) 16 v.toNat 10 (show(fr k s d q o c m e t u v x)[10]?=_ by rw[N2 hv.1];rfl) (by omega) (by omega) (by omega) (by rw[l1];omega)
  try simp only[NR]at this
  exact this
 have l2:(bs++(bits 27 t.toNat++(bits 16 u.toNat++(bits 16 v.toNat)))).length=bs.length+59:=by simp only[NO,aa]<;>omega
 have hT:∀t' es,ab T (n+5) (.fn 170) [pW,.ptr 0 0 0 11] (wH (aj.box (fr k s d q o c m e t u v x)) (bs++(bits 27 t.toNat++(bits 16 u.toNat++(bits 16 v.toNat)))) [t1,t2,t'] es)=some (.ax [],wH (aj.box (fr k s d q o c m e t u v x)) (bs++(bits 27 t.toNat++(bits 16 u.toNat++(bits 16 v.toNat++(bits 7 x.size++(cT x x.size)))))) [t1,t2,t'] (es++ek (bs++(bits 27 t.toNat++(bits 16 u.toNat++(bits 16 v.toNat)))) (7+8*x.size))):=fun t' es=>by
  have:=Bi n _ t1 t2 t' es (bs++(bits 27 t.toNat++(bits 16 u.toNat++(bits 16 v.toNat)))) x 11 (show(fr k s d q o c m e t u v x)[11]?=some (.str x)from rfl) hx (by rw[l2];omega)
  try simp only[NR]at this
  exact this
 have hk:ek bs (59+(7+8*x.size))=ek bs 27++ek (bs++(bits 27 t.toNat)) 16++ek (bs++(bits 27 t.toNat++(bits 16 u.toNat))) 16++ek (bs++(bits 27 t.toNat++(bits 16 u.toNat++(bits 16 v.toNat)))) (7+8*x.size):=by rw[bE l0,bE l1,bE l2]
 simp only[NR]at hk
 rw[hk]
 simp only[zk,go_sem,simprocAttr,h0,h1,h2,hT,Og,Oc,NU,NW,Oj,O6,O5,NR,ite_self,if_true]
theorem JM(hx:x.size≤127)(hb:bs.length≤900) :
 ab T (n+6) (.fn 133) [pW,.ptr 0 0 0 0] (wH (aj.box (fr k s d q o c m e t u v x)) bs [t1,t2] es)=some (.ax [],wH (aj.box (fr k s d q o c m e t u v x)) (bs++(bits 7 x.size++(cT x x.size))) [t1,t2] (es++ek bs (7+8*x.size))):=by
 refine ao Cn (by rfl) ?_
 have ht:∀t' es,ab T (n+5) (.fn 170) [pW,.ptr 0 0 0 11] (wH (aj.box (fr k s d q o c m e t u v x)) bs [t1,t2,t'] es)=some (.ax [],wH (aj.box (fr k s d q o c m e t u v x)) (bs++(bits 7 x.size++(cT x x.size))) [t1,t2,t'] (es++ek bs (7+8*x.size))):=fun t' es=>by
  have:=Bi n _ t1 t2 t' es bs x 11 (show(fr k s d q o c m e t u v x)[11]?=some (.str x)from rfl) hx (by omega)
  try simp only[NR]at this
  exact this
 simp only[zj,go_sem,simprocAttr,ht,Og,Oc,NU,NW,Oj,O6,O5,NR,ite_self,if_true]
theorem K6(h0: -32768≤e)(h1:e≤32767)(hb:bs.length≤900) :
 ab T (n+4) (.fn 131) [pW,.ptr 0 0 0 0] (wH (aj.box (fr k s d q o c m e t u v x)) bs [t1,t2] es)=some (.ax [],wH (aj.box (fr k s d q o c m e t u v x)) (bs++bits 16 (ta e)) [t1,t2] (es++ek bs 16)):=by
 refine ao FK (by rfl) ?_
 have h:=fun t' es=>I6 (aj.box (fr k s d q o c m e t u v x)) [t1,t2,t'] es bs n e h0 h1 (by omega)
 simp only[AS,go_sem,simprocAttr,h,Og,Oc,NU,NW,Oj,O6,O5,NR,ite_self,if_true]
end
end
end F
end
section
namespace F
theorem ey(d:Int):aR d≤6:=by unfold aR;cases decide (0≤d)<;>simp
section
variable(n:Nat)(es:List (Nat×Nat))(bs:List Bool)
theorem D6(s d q o c m e t u v:Int)(x:ByteArray)(hs:0≤s∧s≤31)(hd:d<32)(hd0:d<0→d= -1)(hq:0≤q∧q≤255)(ho:0≤o∧o≤255)(hc:0≤c∧c≤255)(hm:0≤m∧m≤65535)(hx:x.size≤127)(hb:bs.length≤100) :
 ab T (n+7) (.fn 76) [pW,.ptr 0 0 0 0] (wH (.box (fr 1 s d q o c m e t u v x)) bs [] es)=some (.bool true,wH (.box (fr 1 s d q o c m e t u v x)) (bs++(bits 3 1++(bits 5 s.toNat++(ah d++(bits 8 q.toNat++(bits 8 o.toNat++(bits 8 c.toNat++(bits 16 m.toNat++(bits 7 x.size++(cT x x.size)))))))))) [] (es++ek bs ((24+aR d)+(24+(7+8*x.size))))):=by
 refine ao Ap (by rfl) ?_
 have h0:∀t1 t2 es,ab T (n+6) (.fn 134) [pW,Ru 3,.ptr 0 0 0 0] (wH (.box (fr 1 s d q o c m e t u v x)) bs [t1,t2] es)=some (.ax [],wH (.box (fr 1 s d q o c m e t u v x)) (bs++(bits 3 1)) [t1,t2] (es++ek bs 3)):=fun t1 t2 es=>by
  have:=eI (n+2) (fr 1 s d q o c m e t u v x) t1 t2 es bs 3 1 0 rfl (by omega) (by omega) (by omega) (by omega)
  try simp only[NR]at this
  exact this
 have l0:(bs++(bits 3 1)).length=bs.length+(3):=by simp only[NO,aa,aE]<;>omega
 have h1:∀t1 t2 es,ab T (n+6) (.fn 134) [pW,Ru 5,.ptr 0 0 0 1] (wH (.box (fr 1 s d q o c m e t u v x)) (bs++(bits 3 1)) [t1,t2] es)=some (.ax [],wH (.box (fr 1 s d q o c m e t u v x)) (bs++(bits 3 1++(bits 5 s.toNat))) [t1,t2] (es++ek (bs++(bits 3 1)) 5)):=fun t1 t2 es=>by
  have:=eI (n+2) (fr 1 s d q o c m e t u v x) t1 t2 es (bs++(bits 3 1)) 5 s.toNat 1 (show(fr 1 s d q o c m e t u v x)[1]?=_ by rw[N2 hs.1];rfl) (by omega) (by omega) (by omega) (by have:=ey d;rw[l0];omega)
  try simp only[NR]at this
  exact this
 have l1:(bs++(bits 3 1++(bits 5 s.toNat))).length=bs.length+(8):=by simp only[NO,aa,aE]<;>omega
 have h2:∀t1 t2 es,ab T (n+6) (.fn 135) [pW,.ptr 0 0 0 2] (wH (.box (fr 1 s d q o c m e t u v x)) (bs++(bits 3 1++(bits 5 s.toNat))) [t1,t2] es)=some (.ax [],wH (.box (fr 1 s d q o c m e t u v x)) (bs++(bits 3 1++(bits 5 s.toNat++(ah d)))) [t1,t2] (es++ek (bs++(bits 3 1++(bits 5 s.toNat))) (aR d))):=fun t1 t2 es=>by
  have:=rM n t1 t2 es (bs++(bits 3 1++(bits 5 s.toNat))) 1 s d q o c m e t u v x hd hd0 (by rw[l1];omega)
  try simp only[NR]at this
  exact this
 have l2:(bs++(bits 3 1++(bits 5 s.toNat++(ah d)))).length=bs.length+(8+aR d):=by simp only[NO,aa,aE]<;>omega
 have h3:∀t1 t2 es,ab T (n+6) (.fn 134) [pW,Ru 8,.ptr 0 0 0 3] (wH (.box (fr 1 s d q o c m e t u v x)) (bs++(bits 3 1++(bits 5 s.toNat++(ah d)))) [t1,t2] es)=some (.ax [],wH (.box (fr 1 s d q o c m e t u v x)) (bs++(bits 3 1++(bits 5 s.toNat++(ah d++(bits 8 q.toNat))))) [t1,t2] (es++ek (bs++(bits 3 1++(bits 5 s.toNat++(ah d)))) 8)):=fun t1 t2 es=>by
  have:=eI (n+2) (fr 1 s d q o c m e t u v x) t1 t2 es (bs++(bits 3 1++(bits 5 s.toNat++(ah d)))) 8 q.toNat 3 (show(fr 1 s d q o c m e t u v x)[3]?=_ by rw[N2 hq.1];rfl) (by omega) (by omega) (by omega) (by have:=ey d;rw[l2];omega)
  try simp only[NR]at this
  exact this
 have l3:(bs++(bits 3 1++(bits 5 s.toNat++(ah d++(bits 8 q.toNat))))).length=bs.length+(16+aR d):=by simp only[NO,aa,aE]<;>omega
 have h4:∀t1 t2 es,ab T (n+6) (.fn 134) [pW,Ru 8,.ptr 0 0 0 4] (wH (.box (fr 1 s d q o c m e t u v x)) (bs++(bits 3 1++(bits 5 s.toNat++(ah d++(bits 8 q.toNat))))) [t1,t2] es)=some (.ax [],wH (.box (fr 1 s d q o c m e t u v x)) (bs++(bits 3 1++(bits 5 s.toNat++(ah d++(bits 8 q.toNat++(bits 8 o.toNat)))))) [t1,t2] (es++ek (bs++(bits 3 1++(bits 5 s.toNat++(ah d++(bits 8 q.toNat))))) 8)):=fun t1 t2 es=>by
  have:=eI (n+2) (fr 1 s d q o c m e t u v x) t1 t2 es (bs++(bits 3 1++(bits 5 s.toNat++(ah d++(bits 8 q.toNat))))) 8 o.toNat 4 (show(fr 1 s d q o c m e t u v x)[4]?=_ by rw[N2 ho.1];rfl) (by omega) (by omega) (by omega) (by have:=ey d;rw[l3];omega)
  try simp only[NR]at this
  exact this
 have l4:(bs++(bits 3 1++(bits 5 s.toNat++(ah d++(bits 8 q.toNat++(bits 8 o.toNat)))))).length=bs.length+(24+aR d):=by simp only[NO,aa,aE]<;>omega
 have hb1:∀t1 t2 es,ab T (n+6) (.fn 130) [pW,.ptr 0 0 0 0] (wH (.box (fr 1 s d q o c m e t u v x)) (bs++(bits 3 1++(bits 5 s.toNat++(ah d++(bits 8 q.toNat++(bits 8 o.toNat)))))) [t1,t2] es)=some (.ax [],wH (.box (fr 1 s d q o c m e t u v x)) (bs++(bits 3 1++(bits 5 s.toNat++(ah d++(bits 8 q.toNat++(bits 8 o.toNat++(bits 8 c.toNat++(bits 16 m.toNat++(bits 7 x.size++(cT x x.size)))))))))) [t1,t2] (es++ek (bs++(bits 3 1++(bits 5 s.toNat++(ah d++(bits 8 q.toNat++(bits 8 o.toNat)))))) (24+(7+8*x.size)))):=fun t1 t2 es=>by
  have:=HJ n t1 t2 es (bs++(bits 3 1++(bits 5 s.toNat++(ah d++(bits 8 q.toNat++(bits 8 o.toNat)))))) 1 s d q o c m e t u v x hc hm hx (by have:=ey d;rw[l4];omega)
  try simp only[NR]at this
  exact this
 have hk:ek bs ((24+aR d)+(24+(7+8*x.size)))=ek bs 3++ek (bs++(bits 3 1)) 5++ek (bs++(bits 3 1++(bits 5 s.toNat))) (aR d)++ek (bs++(bits 3 1++(bits 5 s.toNat++(ah d)))) 8++ek (bs++(bits 3 1++(bits 5 s.toNat++(ah d++(bits 8 q.toNat))))) 8++ek (bs++(bits 3 1++(bits 5 s.toNat++(ah d++(bits 8 q.toNat++(bits 8 o.toNat)))))) (24+(7+8*x.size)):=by
  rw[bE (bs:=bs) (a:=3) l0,bE (a:=3+5) (by rw[l1]),bE (a:=3+5+aR d) (by rw[l2]),bE (a:=3+5+aR d+8) (by rw[l3];omega),bE (a:=3+5+aR d+8+8) (by rw[l4];omega)]
  congr 1;omega
 simp only[NR]at hk
 rw[hk]
 simp only[uG,go_sem,simprocAttr,h0,h1,h2,h3,h4,hb1,Og,Oc,NU,NW,Oj,O6,O5,NR,ite_self,if_true]
theorem Gd(s d q o c m e t u v:Int)(x:ByteArray)(hs:0≤s∧s≤31)(hd:d<32)(hd0:d<0→d= -1)(hq:0≤q∧q≤255)(ho:0≤o∧o≤255)(he: -32768≤e∧e≤32767)(hb:bs.length≤100) :
 ab T (n+7) (.fn 76) [pW,.ptr 0 0 0 0] (wH (.box (fr 2 s d q o c m e t u v x)) bs [] es)=some (.bool true,wH (.box (fr 2 s d q o c m e t u v x)) (bs++(bits 3 2++(bits 5 s.toNat++(ah d++(bits 8 q.toNat++(bits 8 o.toNat++(bits 16 (ta e)))))))) [] (es++ek bs ((24+aR d)+(16)))):=by
 refine ao Ap (by rfl) ?_
 have h0:∀t1 t2 es,ab T (n+6) (.fn 134) [pW,Ru 3,.ptr 0 0 0 0] (wH (.box (fr 2 s d q o c m e t u v x)) bs [t1,t2] es)=some (.ax [],wH (.box (fr 2 s d q o c m e t u v x)) (bs++(bits 3 2)) [t1,t2] (es++ek bs 3)):=fun t1 t2 es=>by
  have:=eI (n+2) (fr 2 s d q o c m e t u v x) t1 t2 es bs 3 2 0 rfl (by omega) (by omega) (by omega) (by omega)
  try simp only[NR]at this
  exact this
 have l0:(bs++(bits 3 2)).length=bs.length+(3):=by simp only[NO,aa,aE]<;>omega
 have h1:∀t1 t2 es,ab T (n+6) (.fn 134) [pW,Ru 5,.ptr 0 0 0 1] (wH (.box (fr 2 s d q o c m e t u v x)) (bs++(bits 3 2)) [t1,t2] es)=some (.ax [],wH (.box (fr 2 s d q o c m e t u v x)) (bs++(bits 3 2++(bits 5 s.toNat))) [t1,t2] (es++ek (bs++(bits 3 2)) 5)):=fun t1 t2 es=>by
  have:=eI (n+2) (fr 2 s d q o c m e t u v x) t1 t2 es (bs++(bits 3 2)) 5 s.toNat 1 (show(fr 2 s d q o c m e t u v x)[1]?=_ by rw[N2 hs.1];rfl) (by omega) (by omega) (by omega) (by have:=ey d;rw[l0];omega)
  try simp only[NR]at this
  exact this
 have l1:(bs++(bits 3 2++(bits 5 s.toNat))).length=bs.length+(8):=by simp only[NO,aa,aE]<;>omega
 have h2:∀t1 t2 es,ab T (n+6) (.fn 135) [pW,.ptr 0 0 0 2] (wH (.box (fr 2 s d q o c m e t u v x)) (bs++(bits 3 2++(bits 5 s.toNat))) [t1,t2] es)=some (.ax [],wH (.box (fr 2 s d q o c m e t u v x)) (bs++(bits 3 2++(bits 5 s.toNat++(ah d)))) [t1,t2] (es++ek (bs++(bits 3 2++(bits 5 s.toNat))) (aR d))):=fun t1 t2 es=>by
  have:=rM n t1 t2 es (bs++(bits 3 2++(bits 5 s.toNat))) 2 s d q o c m e t u v x hd hd0 (by rw[l1];omega)
  try simp only[NR]at this
  exact this
 have l2:(bs++(bits 3 2++(bits 5 s.toNat++(ah d)))).length=bs.length+(8+aR d):=by simp only[NO,aa,aE]<;>omega
 have h3:∀t1 t2 es,ab T (n+6) (.fn 134) [pW,Ru 8,.ptr 0 0 0 3] (wH (.box (fr 2 s d q o c m e t u v x)) (bs++(bits 3 2++(bits 5 s.toNat++(ah d)))) [t1,t2] es)=some (.ax [],wH (.box (fr 2 s d q o c m e t u v x)) (bs++(bits 3 2++(bits 5 s.toNat++(ah d++(bits 8 q.toNat))))) [t1,t2] (es++ek (bs++(bits 3 2++(bits 5 s.toNat++(ah d)))) 8)):=fun t1 t2 es=>by
  have:=eI (n+2) (fr 2 s d q o c m e t u v x) t1 t2 es (bs++(bits 3 2++(bits 5 s.toNat++(ah d)))) 8 q.toNat 3 (show(fr 2 s d q o c m e t u v x)[3]?=_ by rw[N2 hq.1];rfl) (by omega) (by omega) (by omega) (by have:=ey d;rw[l2];omega)
  try simp only[NR]at this
  exact this
 have l3:(bs++(bits 3 2++(bits 5 s.toNat++(ah d++(bits 8 q.toNat))))).length=bs.length+(16+aR d):=by simp only[NO,aa,aE]<;>omega
 have h4:∀t1 t2 es,ab T (n+6) (.fn 134) [pW,Ru 8,.ptr 0 0 0 4] (wH (.box (fr 2 s d q o c m e t u v x)) (bs++(bits 3 2++(bits 5 s.toNat++(ah d++(bits 8 q.toNat))))) [t1,t2] es)=some (.ax [],wH (.box (fr 2 s d q o c m e t u v x)) (bs++(bits 3 2++(bits 5 s.toNat++(ah d++(bits 8 q.toNat++(bits 8 o.toNat)))))) [t1,t2] (es++ek (bs++(bits 3 2++(bits 5 s.toNat++(ah d++(bits 8 q.toNat))))) 8)):=fun t1 t2 es=>by
  have:=eI (n+2) (fr 2 s d q o c m e t u v x) t1 t2 es (bs++(bits 3 2++(bits 5 s.toNat++(ah d++(bits 8 q.toNat))))) 8 o.toNat 4 (show(fr 2 s d q o c m e t u v x)[4]?=_ by rw[N2 ho.1];rfl) (by omega) (by omega) (by omega) (by have:=ey d;rw[l3];omega)
  try simp only[NR]at this
  exact this
 have l4:(bs++(bits 3 2++(bits 5 s.toNat++(ah d++(bits 8 q.toNat++(bits 8 o.toNat)))))).length=bs.length+(24+aR d):=by simp only[NO,aa,aE]<;>omega
 have hb1:∀t1 t2 es,ab T (n+6) (.fn 131) [pW,.ptr 0 0 0 0] (wH (.box (fr 2 s d q o c m e t u v x)) (bs++(bits 3 2++(bits 5 s.toNat++(ah d++(bits 8 q.toNat++(bits 8 o.toNat)))))) [t1,t2] es)=some (.ax [],wH (.box (fr 2 s d q o c m e t u v x)) (bs++(bits 3 2++(bits 5 s.toNat++(ah d++(bits 8 q.toNat++(bits 8 o.toNat++(bits 16 (ta e)))))))) [t1,t2] (es++ek (bs++(bits 3 2++(bits 5 s.toNat++(ah d++(bits 8 q.toNat++(bits 8 o.toNat)))))) (16))):=fun t1 t2 es=>by
  have:=K6 (n+2) t1 t2 es (bs++(bits 3 2++(bits 5 s.toNat++(ah d++(bits 8 q.toNat++(bits 8 o.toNat)))))) 2 s d q o c m e t u v x he.1 he.2 (by have:=ey d;rw[l4];omega)
  try simp only[NR]at this
  exact this
 have hk:ek bs ((24+aR d)+(16))=ek bs 3++ek (bs++(bits 3 2)) 5++ek (bs++(bits 3 2++(bits 5 s.toNat))) (aR d)++ek (bs++(bits 3 2++(bits 5 s.toNat++(ah d)))) 8++ek (bs++(bits 3 2++(bits 5 s.toNat++(ah d++(bits 8 q.toNat))))) 8++ek (bs++(bits 3 2++(bits 5 s.toNat++(ah d++(bits 8 q.toNat++(bits 8 o.toNat)))))) (16):=by
  rw[bE (bs:=bs) (a:=3) l0,bE (a:=3+5) (by rw[l1]),bE (a:=3+5+aR d) (by rw[l2]),bE (a:=3+5+aR d+8) (by rw[l3];omega),bE (a:=3+5+aR d+8+8) (by rw[l4];omega)]
  congr 1;omega
 simp only[NR]at hk
 rw[hk]
 simp only[uG,go_sem,simprocAttr,h0,h1,h2,h3,h4,hb1,Og,Oc,NU,NW,Oj,O6,O5,NR,ite_self,if_true]
theorem Ex(s d q o c m e t u v:Int)(x:ByteArray)(hs:0≤s∧s≤31)(hd:d<32)(hd0:d<0→d= -1)(hq:0≤q∧q≤255)(ho:0≤o∧o≤255)(ht:0≤t∧t≤109951162)(hu:0≤u∧u≤65535)(hv:0≤v∧v≤65535)(hx:x.size≤127)(hb:bs.length≤100) :
 ab T (n+7) (.fn 76) [pW,.ptr 0 0 0 0] (wH (.box (fr 3 s d q o c m e t u v x)) bs [] es)=some (.bool true,wH (.box (fr 3 s d q o c m e t u v x)) (bs++(bits 3 3++(bits 5 s.toNat++(ah d++(bits 8 q.toNat++(bits 8 o.toNat++(bits 27 t.toNat++(bits 16 u.toNat++(bits 16 v.toNat++(bits 7 x.size++(cT x x.size))))))))))) [] (es++ek bs ((24+aR d)+(59+(7+8*x.size))))):=by
 refine ao Ap (by rfl) ?_
 have h0:∀t1 t2 es,ab T (n+6) (.fn 134) [pW,Ru 3,.ptr 0 0 0 0] (wH (.box (fr 3 s d q o c m e t u v x)) bs [t1,t2] es)=some (.ax [],wH (.box (fr 3 s d q o c m e t u v x)) (bs++(bits 3 3)) [t1,t2] (es++ek bs 3)):=fun t1 t2 es=>by
  have:=eI (n+2) (fr 3 s d q o c m e t u v x) t1 t2 es bs 3 3 0 rfl (by omega) (by omega) (by omega) (by omega)
  try simp only[NR]at this
  exact this
 have l0:(bs++(bits 3 3)).length=bs.length+(3):=by simp only[NO,aa,aE]<;>omega
 have h1:∀t1 t2 es,ab T (n+6) (.fn 134) [pW,Ru 5,.ptr 0 0 0 1] (wH (.box (fr 3 s d q o c m e t u v x)) (bs++(bits 3 3)) [t1,t2] es)=some (.ax [],wH (.box (fr 3 s d q o c m e t u v x)) (bs++(bits 3 3++(bits 5 s.toNat))) [t1,t2] (es++ek (bs++(bits 3 3)) 5)):=fun t1 t2 es=>by
  have:=eI (n+2) (fr 3 s d q o c m e t u v x) t1 t2 es (bs++(bits 3 3)) 5 s.toNat 1 (show(fr 3 s d q o c m e t u v x)[1]?=_ by rw[N2 hs.1];rfl) (by omega) (by omega) (by omega) (by have:=ey d;rw[l0];omega)
  try simp only[NR]at this
  exact this
 have l1:(bs++(bits 3 3++(bits 5 s.toNat))).length=bs.length+(8):=by simp only[NO,aa,aE]<;>omega
 have h2:∀t1 t2 es,ab T (n+6) (.fn 135) [pW,.ptr 0 0 0 2] (wH (.box (fr 3 s d q o c m e t u v x)) (bs++(bits 3 3++(bits 5 s.toNat))) [t1,t2] es)=some (.ax [],wH (.box (fr 3 s d q o c m e t u v x)) (bs++(bits 3 3++(bits 5 s.toNat++(ah d)))) [t1,t2] (es++ek (bs++(bits 3 3++(bits 5 s.toNat))) (aR d))):=fun t1 t2 es=>by
  have:=rM n t1 t2 es (bs++(bits 3 3++(bits 5 s.toNat))) 3 s d q o c m e t u v x hd hd0 (by rw[l1];omega)
  try simp only[NR]at this
  exact this
 have l2:(bs++(bits 3 3++(bits 5 s.toNat++(ah d)))).length=bs.length+(8+aR d):=by simp only[NO,aa,aE]<;>omega
 have h3:∀t1 t2 es,ab T (n+6) (.fn 134) [pW,Ru 8,.ptr 0 0 0 3] (wH (.box (fr 3 s d q o c m e t u v x)) (bs++(bits 3 3++(bits 5 s.toNat++(ah d)))) [t1,t2] es)=some (.ax [],wH (.box (fr 3 s d q o c m e t u v x)) (bs++(bits 3 3++(bits 5 s.toNat++(ah d++(bits 8 q.toNat))))) [t1,t2] (es++ek (bs++(bits 3 3++(bits 5 s.toNat++(ah d)))) 8)):=fun t1 t2 es=>by
  have:=eI (n+2) (fr 3 s d q o c m e t u v x) t1 t2 es (bs++(bits 3 3++(bits 5 s.toNat++(ah d)))) 8 q.toNat 3 (show(fr 3 s d q o c m e t u v x)[3]?=_ by rw[N2 hq.1];rfl) (by omega) (by omega) (by omega) (by have:=ey d;rw[l2];omega)
  try simp only[NR]at this
  exact this
 have l3:(bs++(bits 3 3++(bits 5 s.toNat++(ah d++(bits 8 q.toNat))))).length=bs.length+(16+aR d):=by simp only[NO,aa,aE]<;>omega
 have h4:∀t1 t2 es,ab T (n+6) (.fn 134) [pW,Ru 8,.ptr 0 0 0 4] (wH (.box (fr 3 s d q o c m e t u v x)) (bs++(bits 3 3++(bits 5 s.toNat++(ah d++(bits 8 q.toNat))))) [t1,t2] es)=some (.ax [],wH (.box (fr 3 s d q o c m e t u v x)) (bs++(bits 3 3++(bits 5 s.toNat++(ah d++(bits 8 q.toNat++(bits 8 o.toNat)))))) [t1,t2] (es++ek (bs++(bits 3 3++(bits 5 s.toNat++(ah d++(bits 8 q.toNat))))) 8)):=fun t1 t2 es=>by
  have:=eI (n+2) (fr 3 s d q o c m e t u v x) t1 t2 es (bs++(bits 3 3++(bits 5 s.toNat++(ah d++(bits 8 q.toNat))))) 8 o.toNat 4 (show(fr 3 s d q o c m e t u v x)[4]?=_ by rw[N2 ho.1];rfl) (by omega) (by omega) (by omega) (by have:=ey d;rw[l3];omega)
  try simp only[NR]at this
  exact this
 have l4:(bs++(bits 3 3++(bits 5 s.toNat++(ah d++(bits 8 q.toNat++(bits 8 o.toNat)))))).length=bs.length+(24+aR d):=by simp only[NO,aa,aE]<;>omega
 have hb1:∀t1 t2 es,ab T (n+6) (.fn 132) [pW,.ptr 0 0 0 0] (wH (.box (fr 3 s d q o c m e t u v x)) (bs++(bits 3 3++(bits 5 s.toNat++(ah d++(bits 8 q.toNat++(bits 8 o.toNat)))))) [t1,t2] es)=some (.ax [],wH (.box (fr 3 s d q o c m e t u v x)) (bs++(bits 3 3++(bits 5 s.toNat++(ah d++(bits 8 q.toNat++(bits 8 o.toNat++(bits 27 t.toNat++(bits 16 u.toNat++(bits 16 v.toNat++(bits 7 x.size++(cT x x.size))))))))))) [t1,t2] (es++ek (bs++(bits 3 3++(bits 5 s.toNat++(ah d++(bits 8 q.toNat++(bits 8 o.toNat)))))) (59+(7+8*x.size)))):=fun t1 t2 es=>by
  have:=JJ n t1 t2 es (bs++(bits 3 3++(bits 5 s.toNat++(ah d++(bits 8 q.toNat++(bits 8 o.toNat)))))) 3 s d q o c m e t u v x ht hu hv hx (by have:=ey d;rw[l4];omega)
  try simp only[NR]at this
  exact this
 have hk:ek bs ((24+aR d)+(59+(7+8*x.size)))=ek bs 3++ek (bs++(bits 3 3)) 5++ek (bs++(bits 3 3++(bits 5 s.toNat))) (aR d)++ek (bs++(bits 3 3++(bits 5 s.toNat++(ah d)))) 8++ek (bs++(bits 3 3++(bits 5 s.toNat++(ah d++(bits 8 q.toNat))))) 8++ek (bs++(bits 3 3++(bits 5 s.toNat++(ah d++(bits 8 q.toNat++(bits 8 o.toNat)))))) (59+(7+8*x.size)):=by
  rw[bE (bs:=bs) (a:=3) l0,bE (a:=3+5) (by rw[l1]),bE (a:=3+5+aR d) (by rw[l2]),bE (a:=3+5+aR d+8) (by rw[l3];omega),bE (a:=3+5+aR d+8+8) (by rw[l4];omega)]
  congr 1;omega
 simp only[NR]at hk
 rw[hk]
 simp only[uG,go_sem,simprocAttr,h0,h1,h2,h3,h4,hb1,Og,Oc,NU,NW,Oj,O6,O5,NR,ite_self,if_true]
theorem DZ(s d q o c m e t u v:Int)(x:ByteArray)(hs:0≤s∧s≤31)(hd:d<32)(hd0:d<0→d= -1)(hq:0≤q∧q≤255)(ho:0≤o∧o≤255)(hx:x.size≤127)(hb:bs.length≤100) :
 ab T (n+7) (.fn 76) [pW,.ptr 0 0 0 0] (wH (.box (fr 4 s d q o c m e t u v x)) bs [] es)=some (.bool true,wH (.box (fr 4 s d q o c m e t u v x)) (bs++(bits 3 4++(bits 5 s.toNat++(ah d++(bits 8 q.toNat++(bits 8 o.toNat++(bits 7 x.size++(cT x x.size)))))))) [] (es++ek bs ((24+aR d)+(7+8*x.size)))):=by
 refine ao Ap (by rfl) ?_
 have h0:∀t1 t2 es,ab T (n+6) (.fn 134) [pW,Ru 3,.ptr 0 0 0 0] (wH (.box (fr 4 s d q o c m e t u v x)) bs [t1,t2] es)=some (.ax [],wH (.box (fr 4 s d q o c m e t u v x)) (bs++(bits 3 4)) [t1,t2] (es++ek bs 3)):=fun t1 t2 es=>by
  have:=eI (n+2) (fr 4 s d q o c m e t u v x) t1 t2 es bs 3 4 0 rfl (by omega) (by omega) (by omega) (by omega)
  try simp only[NR]at this
  exact this
 have l0:(bs++(bits 3 4)).length=bs.length+(3):=by simp only[NO,aa,aE]<;>omega
 have h1:∀t1 t2 es,ab T (n+6) (.fn 134) [pW,Ru 5,.ptr 0 0 0 1] (wH (.box (fr 4 s d q o c m e t u v x)) (bs++(bits 3 4)) [t1,t2] es)=some (.ax [],wH (.box (fr 4 s d q o c m e t u v x)) (bs++(bits 3 4++(bits 5 s.toNat))) [t1,t2] (es++ek (bs++(bits 3 4)) 5)):=fun t1 t2 es=>by
  have:=eI (n+2) (fr 4 s d q o c m e t u v x) t1 t2 es (bs++(bits 3 4)) 5 s.toNat 1 (show(fr 4 s d q o c m e t u v x)[1]?=_ by rw[N2 hs.1];rfl) (by omega) (by omega) (by omega) (by have:=ey d;rw[l0];omega)
  try simp only[NR]at this
  exact this
 have l1:(bs++(bits 3 4++(bits 5 s.toNat))).length=bs.length+(8):=by simp only[NO,aa,aE]<;>omega
 have h2:∀t1 t2 es,ab T (n+6) (.fn 135) [pW,.ptr 0 0 0 2] (wH (.box (fr 4 s d q o c m e t u v x)) (bs++(bits 3 4++(bits 5 s.toNat))) [t1,t2] es)=some (.ax [],wH (.box (fr 4 s d q o c m e t u v x)) (bs++(bits 3 4++(bits 5 s.toNat++(ah d)))) [t1,t2] (es++ek (bs++(bits 3 4++(bits 5 s.toNat))) (aR d))):=fun t1 t2 es=>by
  have:=rM n t1 t2 es (bs++(bits 3 4++(bits 5 s.toNat))) 4 s d q o c m e t u v x hd hd0 (by rw[l1];omega)
  try simp only[NR]at this
  exact this
 have l2:(bs++(bits 3 4++(bits 5 s.toNat++(ah d)))).length=bs.length+(8+aR d):=by simp only[NO,aa,aE]<;>omega
 have h3:∀t1 t2 es,ab T (n+6) (.fn 134) [pW,Ru 8,.ptr 0 0 0 3] (wH (.box (fr 4 s d q o c m e t u v x)) (bs++(bits 3 4++(bits 5 s.toNat++(ah d)))) [t1,t2] es)=some (.ax [],wH (.box (fr 4 s d q o c m e t u v x)) (bs++(bits 3 4++(bits 5 s.toNat++(ah d++(bits 8 q.toNat))))) [t1,t2] (es++ek (bs++(bits 3 4++(bits 5 s.toNat++(ah d)))) 8)):=fun t1 t2 es=>by
  have:=eI (n+2) (fr 4 s d q o c m e t u v x) t1 t2 es (bs++(bits 3 4++(bits 5 s.toNat++(ah d)))) 8 q.toNat 3 (show(fr 4 s d q o c m e t u v x)[3]?=_ by rw[N2 hq.1];rfl) (by omega) (by omega) (by omega) (by have:=ey d;rw[l2];omega)
  try simp only[NR]at this
  exact this
 have l3:(bs++(bits 3 4++(bits 5 s.toNat++(ah d++(bits 8 q.toNat))))).length=bs.length+(16+aR d):=by simp only[NO,aa,aE]<;>omega
 have h4:∀t1 t2 es,ab T (n+6) (.fn 134) [pW,Ru 8,.ptr 0 0 0 4] (wH (.box (fr 4 s d q o c m e t u v x)) (bs++(bits 3 4++(bits 5 s.toNat++(ah d++(bits 8 q.toNat))))) [t1,t2] es)=some (.ax [],wH (.box (fr 4 s d q o c m e t u v x)) (bs++(bits 3 4++(bits 5 s.toNat++(ah d++(bits 8 q.toNat++(bits 8 o.toNat)))))) [t1,t2] (es++ek (bs++(bits 3 4++(bits 5 s.toNat++(ah d++(bits 8 q.toNat))))) 8)):=fun t1 t2 es=>by
  have:=eI (n+2) (fr 4 s d q o c m e t u v x) t1 t2 es (bs++(bits 3 4++(bits 5 s.toNat++(ah d++(bits 8 q.toNat))))) 8 o.toNat 4 (show(fr 4 s d q o c m e t u v x)[4]?=_ by rw[N2 ho.1];rfl) (by omega) (by omega) (by omega) (by have:=ey d;rw[l3];omega)
  try simp only[NR]at this
  exact this
 have l4:(bs++(bits 3 4++(bits 5 s.toNat++(ah d++(bits 8 q.toNat++(bits 8 o.toNat)))))).length=bs.length+(24+aR d):=by simp only[NO,aa,aE]<;>omega
 have hb1:∀t1 t2 es,ab T (n+6) (.fn 133) [pW,.ptr 0 0 0 0] (wH (.box (fr 4 s d q o c m e t u v x)) (bs++(bits 3 4++(bits 5 s.toNat++(ah d++(bits 8 q.toNat++(bits 8 o.toNat)))))) [t1,t2] es)=some (.ax [],wH (.box (fr 4 s d q o c m e t u v x)) (bs++(bits 3 4++(bits 5 s.toNat++(ah d++(bits 8 q.toNat++(bits 8 o.toNat++(bits 7 x.size++(cT x x.size)))))))) [t1,t2] (es++ek (bs++(bits 3 4++(bits 5 s.toNat++(ah d++(bits 8 q.toNat++(bits 8 o.toNat)))))) (7+8*x.size))):=fun t1 t2 es=>by
  have:=JM n t1 t2 es (bs++(bits 3 4++(bits 5 s.toNat++(ah d++(bits 8 q.toNat++(bits 8 o.toNat)))))) 4 s d q o c m e t u v x hx (by have:=ey d;rw[l4];omega)
  try simp only[NR]at this
  exact this
 have hk:ek bs ((24+aR d)+(7+8*x.size))=ek bs 3++ek (bs++(bits 3 4)) 5++ek (bs++(bits 3 4++(bits 5 s.toNat))) (aR d)++ek (bs++(bits 3 4++(bits 5 s.toNat++(ah d)))) 8++ek (bs++(bits 3 4++(bits 5 s.toNat++(ah d++(bits 8 q.toNat))))) 8++ek (bs++(bits 3 4++(bits 5 s.toNat++(ah d++(bits 8 q.toNat++(bits 8 o.toNat)))))) (7+8*x.size):=by
  rw[bE (bs:=bs) (a:=3) l0,bE (a:=3+5) (by rw[l1]),bE (a:=3+5+aR d) (by rw[l2]),bE (a:=3+5+aR d+8) (by rw[l3];omega),bE (a:=3+5+aR d+8+8) (by rw[l4];omega)]
  congr 1;omega
 simp only[NR]at hk
 rw[hk]
 simp only[uG,go_sem,simprocAttr,h0,h1,h2,h3,h4,hb1,Og,Oc,NU,NW,Oj,O6,O5,NR,ite_self,if_true]
end
end F
end
namespace F
abbrev gI:=BitVec 16
def xd:gI:=0x1021#16
def tm(c:gI):gI:=(c <<< 1) ^^^ (bif c.msb then xd else 0#16)
theorem Bg(a b:gI):tm (a ^^^ b)=tm a ^^^ tm b:=by
 unfold tm
 rw[BitVec.shiftLeft_xor_distrib,BitVec.msb_xor]
 cases a.msb<;>cases b.msb<;>simp only[Bool.xor_false,Bool.xor_true,Bool.false_xor,Bool.true_xor,N6,Oa,Px,Ro,Qv]
 ·ac_rfl
 ·ac_rfl
 ·rw[show a <<< 1 ^^^ xd ^^^ (b <<< 1 ^^^ xd)=a <<< 1 ^^^ b <<< 1 ^^^ (xd ^^^ xd) by ac_rfl,Ra,Qv]
def t4(c:gI):gI:=tm (tm (tm (tm c)))
theorem w7(a b:gI):t4 (a ^^^ b)=t4 a ^^^ t4 b:=by simp only[t4,Bg]
theorem pJ{c:gI}(h:c.msb=false):tm c=c <<< 1:=by unfold tm;rw[h];simp
def C0:List gI:=[0x0000#16,0x1021#16,0x2042#16,0x3063#16,0x4084#16,0x50a5#16,0x60c6#16,0x70e7#16,0x8108#16,0x9129#16,0xa14a#16,0xb16b#16,0xc18c#16,0xd1ad#16,0xe1ce#16,0xf1ef#16]
theorem zf:∀h:Fin 16,C0[(h:Nat)]?=some (t4 ((BitVec.ofNat 16 h) <<< 12)):=by decide
theorem BY(c:gI):t4 ((c <<< 4) >>> 4)=c <<< 4:=by
 have m:∀(i:Nat),i<4→(((c <<< 4) >>> 4) <<< i).msb=false:=by
  intro i hi
  rw[BitVec.msb_eq_getLsbD_last]
  simp[QG,QA]
  omega
 have e:∀i:Nat,(((c <<< 4) >>> 4) <<< i) <<< 1=((c <<< 4) >>> 4) <<< (i+1):=fun i=>(BitVec.shiftLeft_add _ _ _).symm
 have h0:=m 0 (by omega)
 rw[BitVec.shiftLeft_zero]at h0
 unfold t4
 rw[pJ h0,pJ (m 1 (by omega)),e 1,pJ (m 2 (by omega)),e 2,pJ (m 3 (by omega)),e 3]
 apply BitVec.eq_of_getLsbD_eq
 intro i hi
 simp[QG,QA]
 by_cases h:i<4
 ·simp[h]
 ·simp[h,hi,show 4+(i-4)=i by omega]
theorem zE(c:gI):c=((c >>> 12) <<< 12) ^^^ ((c <<< 4) >>> 4):=by
 apply BitVec.eq_of_getLsbD_eq
 intro i hi
 simp[QG,QA]
 by_cases h:i<12
 ·simp[h,show 4+i-4=i by omega,show 4+i<16 by omega]
 ·simp[h,show ¬4+i<16 by omega,show 12+(i-12)=i by omega]
  exact fun _=>hi
theorem Bh(c:gI):C0[(c >>> 12).toNat]?=some (t4 c ^^^ (c <<< 4)):=by
 have hlt:(c >>> 12).toNat<16:=by
  rw[BitVec.toNat_ushiftRight,Nat.shiftRight_eq_div_pow]
  have:=c.isLt
  omega
 have h:=zf ⟨(c >>> 12).toNat,hlt⟩
 rw[show C0[(c >>> 12).toNat]?=_ from h]
 congr 1
 have e:BitVec.ofNat 16 (c >>> 12).toNat=c >>> 12:=by rw[BitVec.ofNat_toNat];exact BitVec.setWidth_eq _
 show t4 (BitVec.ofNat 16 (c >>> 12).toNat <<< 12)=_
 rw[e]
 have h2:t4 c=t4 ((c >>> 12) <<< 12) ^^^ (c <<< 4):=by
  rw[←BY c,←w7,←zE]
 rw[h2,BitVec.xor_assoc,Ra,Qv]
end F
namespace F
def uc:List SV:=C0.map fun w=>.int .u16 w.toNat
@[go_sem] theorem EI:uc.length=16:=by rfl
theorem xa(i:Nat):uc[i]?=(C0[i]?).map fun w=>.int .u16 w.toNat:=by simp[uc]
theorem JE(n:Nat)(H:ae):ab T (n+3) (.fn 222) [] H=some (.agg uc,H):=ri J4 (by rfl) (qU (T:=T) 100 (n+3) (.fn 222) [] av (.agg uc,av) (by kernel_rfl))
def Cz(c:gI)(b:Nat):gI:=t4 (t4 (c ^^^ (BitVec.ofNat 16 b <<< 8)))
def zS(c:gI)(s:ByteArray):Nat→gI
 |0=>c
 |i+1=>Cz (zS c s i) ((s.data[i]?).getD 0).toNat
theorem Fz:∀v:Fin 16,((BitVec.ofNat 16 v:gI) <<< 12) >>> 12=BitVec.ofNat 16 v:=by decide
theorem EN:∀v:Fin 16,((BitVec.ofNat 16 v:gI) <<< 12) <<< 4=0#16:=by decide
theorem E7:∀v:Fin 16,t4 ((BitVec.ofNat 16 v:gI) <<< 8)=BitVec.ofNat 16 v <<< 12:=by decide
theorem E2:∀b:Fin 256,((BitVec.ofNat 16 (b/16):gI) <<< 12) ^^^ (BitVec.ofNat 16 (b%16) <<< 8)=BitVec.ofNat 16 b <<< 8:=by decide +kernel
theorem Lk(c:gI){v:Nat}(hv:v<16):C0[((c >>> 12) ^^^ BitVec.ofNat 16 v).toNat]?=some (t4 (c ^^^ (BitVec.ofNat 16 v <<< 12)) ^^^ (c <<< 4)):=by
 have h:=Bh (c ^^^ (BitVec.ofNat 16 v <<< 12))
 rw[BitVec.ushiftRight_xor_distrib,BitVec.shiftLeft_xor_distrib,Fz ⟨v,hv⟩,EN ⟨v,hv⟩,Qv]at h
 exact h
theorem BX(c:gI){b:Nat}(hb:b<256):Cz c b=t4 (t4 (c ^^^ (BitVec.ofNat 16 (b/16) <<< 12)) ^^^ (BitVec.ofNat 16 (b%16) <<< 12)):=by
 unfold Cz
 rw[←E7 ⟨b%16,by omega⟩,←w7,BitVec.xor_assoc,E2 ⟨b,hb⟩]
theorem ni{n:Int}:IntKind.u16.wrap n=n%65536:=by simp[IntKind.wrap,IntKind.bits,IntKind.signed]
theorem FB(C:gI)(k:Nat)(hk:k≤16):IntKind.u16.wrap ((C.toNat:Int)*2 ^ min k 16)=((C <<< k).toNat:Nat):=by
 have h:((C.toNat:Int)*2 ^ k)=((C.toNat*2 ^ k:Nat):Int):=by rw[Qu,PV];rfl
 rw[Pb hk,ni,h,BitVec.toNat_shiftLeft,Nat.shiftLeft_eq]
 omega
theorem KN(C:gI)(k:Nat)(hk:k≤16):((C.toNat:Int)).fdiv (2 ^ min k 16)=((C >>> k).toNat:Nat):=by
 rw[Pb hk,cZ,BitVec.toNat_ushiftRight,Nat.shiftRight_eq_div_pow]
theorem GS(C:gI):(BitVec.ofInt 16 (C.toNat:Int))=C:=by
 apply QV
 rw[QJ]
 have:=C.isLt
 omega
def BW(a b:Int):Int:=IntKind.u16.wrap ((BitVec.ofInt 16 a ^^^ BitVec.ofInt 16 b).toNat)
@[go_sem high] theorem Fl (a b:Int):bY .xor (.int .u16 a) (.int .u16 b)=some (.int .u16 (BW a b)):=by
  simp only[bY,O8,N6];rfl
def oF(a b:Int):Int:=IntKind.u8.wrap ((BitVec.ofInt 8 a&&&BitVec.ofInt 8 b).toNat)
@[go_sem high] theorem G4 (a b:Int):bY .and (.int .u8 a) (.int .u8 b)=some (.int .u8 (oF a b)):=by
  simp only[bY,O8,N6];rfl
theorem DR(A B:gI):BW (A.toNat:Int) (B.toNat:Int)=((A ^^^ B).toNat:Nat):=by
 unfold BW
 rw[GS,GS,ni]
 have:=(A ^^^ B).isLt
 omega
theorem D5{b:Nat}(hb:b<256):oF b 15=((b%16:Nat):Int):=by
 unfold oF
 have h3:(BitVec.ofInt 8 15).toNat=15:=by decide
 rw[QY,il _ hb,h3,Nat.and_two_pow_sub_one_eq_mod b 4]
 exact jK (by omega) (by omega)
theorem toW{v:Nat}(h:v<65536):(v:Int)=((BitVec.ofNat 16 v:gI).toNat:Nat):=by
 rw[QK];omega
theorem Kh(n:Nat)(H:ae)(s:ByteArray)(hs:s.size≤1000):ab T (n+4) (.fn 197) [.int .u16 0,.str s] H=some (.int .u16 ((zS 0#16 s s.size).toNat:Nat),H):=by
 refine aw J3 (by rfl) ?_
 have h:=fun H=>JE n H
 simp only[F9,av,go_sem,simprocAttr,h]
 refine bz (fun i=>([(0,.int .u16 ((zS 0#16 s i).toNat:Nat)),(1,.str s),(5,.ptr 0 0 0 0),(9,Ru s.size),(10,Ru i)],⟨[.box uc],[],0⟩)) (fun _=>True) s.size ?_ trivial ?_
 ·simp only[go_sem,simprocAttr]<;>rfl
 ·intro i hi _
  rcases Oh i s.size with hlt|hge
  ·have hs2:=mz hlt (O0 hs (by decide))
   have hd:s.data[i]?=some s.data[i]:=Od (by exact hlt)
   have hu:zS 0#16 s (i+1)=Cz (zS 0#16 s i) s.data[i].toNat:=by simp only[zS,hd,O2]
   have hv:=Pw s.data[i]
   obtain⟨C,hC⟩:∃C,zS 0#16 s i=C:=⟨_,rfl⟩
   obtain⟨b,hb⟩:∃b,s.data[i].toNat=b:=⟨_,rfl⟩
   rw[hC,hb]at hu
   rw[hb]at hv
   have e1:IntKind.u16.wrap (((b:Int)).fdiv (2 ^ min 4 8))=((BitVec.ofNat 16 (b/16):gI).toNat:Nat):=by
    rw[show min 4 8=4 from rfl,cZ,ni,←toW (by omega)];omega
   have e2:IntKind.u16.wrap ((b%16:Nat):Int)=((BitVec.ofNat 16 (b%16):gI).toNat:Nat):=by
    rw[ni,←toW (by omega)];omega
   have e3:=D5 hv
   have q1:=Lk C (v:=b/16) (by omega)
   have l1:((C >>> 12) ^^^ BitVec.ofNat 16 (b/16)).toNat<16:=by
    have:=NT.1 q1
    exact this.1
   obtain⟨C1,hC1⟩:∃C1,t4 (C ^^^ (BitVec.ofNat 16 (b/16) <<< 12))=C1:=⟨_,rfl⟩
   have q2:=Lk C1 (v:=b%16) (by omega)
   have l2:((C1 >>> 12) ^^^ BitVec.ofNat 16 (b%16)).toNat<16:=by
    have:=NT.1 q2
    exact this.1
   have hst:Cz C b=t4 (C1 ^^^ (BitVec.ofNat 16 (b%16) <<< 12)):=by rw[BX C hv,hC1]
   rw[hC1]at q1
   have x1:(C <<< 4) ^^^ (C1 ^^^ (C <<< 4))=C1:=by rw[show(C <<< 4) ^^^ (C1 ^^^ (C <<< 4))=C1 ^^^ ((C <<< 4) ^^^ (C <<< 4)) by ac_rfl,Ra,Qv]
   have x2:(C1 <<< 4) ^^^ (t4 (C1 ^^^ (BitVec.ofNat 16 (b%16) <<< 12)) ^^^ (C1 <<< 4))=Cz C b:=by
    rw[hst,show ∀P Q:gI,P ^^^ (Q ^^^ P)=Q ^^^ (P ^^^ P)from fun P Q=>by ac_rfl,Ra,Qv]
   have d1:∀n:Nat,n<16→decide ((n:Int)<16)=true:=fun n h=>NN (by omega)
   have d1:=d1 _ l1
   have d2:decide (((((C1 >>> 12) ^^^ BitVec.ofNat 16 (b%16)).toNat:Nat):Int)<16)=true:=NN (by omega)
   have s1:=fun C=>FB C 4 (by omega)
   have s2:=fun C=>KN C 12 (by omega)
   have hm:decide (max 0 (max 0 (max 1 0))≤1)=true:=by decide
   simp only[go_sem,simprocAttr,hlt,hd,hs2,hC,hb,hu,e1,e2,e3,s1,s2,DR,d1,d2,N0,Qq,xa,q1,q2,x1,x2,hm]
   exact⟨trivial,trivial,trivial⟩
  ·obtain rfl:i=s.size:=by omega
   have hd:decide (s.size<s.size)=false:=NQ (by omega)
   simp only[go_sem,simprocAttr,hd]
end F
namespace F
def iN(s:ByteArray):gI:=zS 0#16 s s.size
def GH(C:gI):ByteArray:=⟨#[UInt8.ofNat (C.toNat/256),UInt8.ofNat (C.toNat%256)]⟩
def fA(s:ByteArray):ByteArray:=s++GH (iN s)
theorem we(C:gI):(GH C).size=2:=by rfl
theorem lu(s:ByteArray):(fA s).size=s.size+2:=by rw[fA,Pv,we]
theorem EW(C:gI):IntKind.u8.wrap ((C.toNat:Int).fdiv (2 ^ min 8 16))=((C.toNat/256:Nat):Int):=by
 have:=C.isLt
 rw[show min 8 16=8 from rfl,cZ]
 exact jK (by omega) (by omega)
theorem EP(C:gI):IntKind.u8.wrap (C.toNat:Int)=((C.toNat%256:Nat):Int):=by
 have e:∀n:Int,IntKind.u8.wrap n=n%256:=fun n=>by simp[IntKind.wrap,IntKind.bits,IntKind.signed]
 rw[e];omega
theorem toB_cons{n:Nat}(L:List (List SV)):toBytes ([.int .u8 (n:Int)]::L)=(toBytes L).map (fun l=>UInt8.ofNat n::l):=by
 simp only[toBytes,N0]
theorem toB_nil:toBytes []=some []:=rfl
theorem FC(n:Nat)(H:ae)(s:ByteArray)(hs:s.size≤1000):ab T (n+5) (.fn 169) [.str s] H=some (.int .u16 ((iN s).toNat:Nat),H):=by
 refine aw IP (by rfl) ?_
 simp only[EL,av,go_sem,simprocAttr,Kh _ _ _ hs,iN]
theorem Kt(n:Nat)(H:ae)(s:ByteArray)(hs:s.size≤1000):ab T (n+6) (.fn 128) [.str s] H=some (.str (fA s),H):=by
 refine aw Jy (by rfl) ?_
 obtain⟨C,hC⟩:∃C,iN s=C:=⟨_,rfl⟩
 have h:∀H,ab T (n+5) (.fn 169) [.str s] H=some (.int .u16 (C.toNat:Nat),H):=fun H=>hC▸FC n H s hs
 have hz:decide (s.size+ #[UInt8.ofNat (C.toNat/256),UInt8.ofNat (C.toNat%256)].size≤4611686018427387904)=true:=NN (show s.size+2≤4611686018427387904 by omega)
 simp only[Fp,av,go_sem,simprocAttr,h,EW,EP,fA,hC,GH,toB_cons,toB_nil,Oo,hz]
def fv(bs:List Bool):ByteArray:=⟨((List.range (nb bs.length)).map fun j=>UInt8.ofNat (cE bs j)).toArray⟩
theorem dq(bs:List Bool):(fv bs).size=nb bs.length:=by simp[fv,ByteArray.size]
theorem toB_map(f:Nat→Nat):∀l:List Nat,toBytes (l.map fun j=>[.int .u8 (f j:Nat)])=some (l.map fun j=>UInt8.ofNat (f j))
 |[]=>rfl
 |a::l=>by rw[Ov,toB_cons,toB_map f l];rfl
theorem toB_pkS(bs:List Bool):toBytes (n9 bs)=some ((List.range (nb bs.length)).map fun j=>UInt8.ofNat (cE bs j)):=toB_map _ _
theorem L0(n:Nat)(b0:aj)(tl:List aj)(es:List (Nat×Nat))(bs:List Bool):ab T (n+1) (.fn 71) [.ptr 1 0 0 0] (wH b0 bs tl es)=some (.ax [.str (fv bs),Rv],wH b0 bs tl es):=by
 refine ao It (by rfl) ?_
 have l0:decide (0<tl.length+1+1+1)=true:=NN (by omega)
 have l3:decide (3≤tl.length+1+1+1)=true:=NN (by omega)
 have ht:List.take (nb bs.length) (n9 bs)=n9 bs:=OR (by rw[di];exact NV _)
 have hl:decide (nb bs.length≤(n9 bs).length)=true:=NN (by rw[di];exact NV _)
 have hl2:decide (nb bs.length≤nb bs.length)=true:=NN (NV _)
 simp only[GK,go_sem,simprocAttr,l0,l3,ht,hl,hl2,toB_pkS,fv]
 trace_state
end F
section
namespace F
abbrev wE(bs:List Bool):aj:=.box [.bG 2 (nb bs.length) 0 (nb bs.length),Ru bs.length,Ru 8]
abbrev wX(b0:aj)(bs:List Bool)(tl:List aj)(es:List (Nat×Nat)):ae:=⟨b0::wE bs::wA bs::tl,es,0⟩
section
variable(b0:aj)(tl:List aj)(es:List (Nat×Nat))(bs:List Bool)
theorem Kv(n:Nat)(x:ByteArray)(hx:127<x.size) :
 ab T (n+4) (.fn 198) [.ptr 1 0 0 0,Ru 127,.str x] (wH b0 bs tl es)=some (.ax [],wX b0 bs tl es):=by
 refine ao Fk (by rfl) ?_
 have h101:=fun H=>BA (n+2) H 127
 have x1:decide ((127:Int)<(x.size:Int))=true:=NN (by omega)
 have l0:decide (0<tl.length+1+1+1)=true:=NN (by omega)
 have l1:decide (1<tl.length+1+1+1)=true:=NN (by omega)
 have l2:decide (2<tl.length+1+1+1)=true:=NN (by omega)
 have l3':decide (tl.length+1+1+1<3)=false:=NQ (by omega)
 have l3:decide (3≤tl.length+1+1+1)=true:=NN (by omega)
 simp only[AY,go_sem,simprocAttr,h101,x1,l0,l1,l2,l3,l3',NU,NW,ite_self,if_true]
theorem Ie(n:Nat):ab T (n+1) (.fn 71) [.ptr 1 0 0 0] (wX b0 bs tl es)=some (.ax [.str ⟨#[]⟩,Ru 8],wX b0 bs tl es):=by
 refine ao It (by rfl) ?_
 have l3:decide (3≤tl.length+1+1+1)=true:=NN (by omega)
 simp only[GK,go_sem,simprocAttr,l3]
end
section
variable(n:Nat)(cs:List SV)(t1 t2 t3:aj)(es:List (Nat×Nat))(bs:List Bool)
theorem Bq(x:ByteArray)(j:Nat)(hj:cs[j]?=some (.str x))(hx:127<x.size) :
 ab T (n+5) (.fn 170) [pW,.ptr 0 0 0 j] (wH (.box cs) bs [t1,t2,t3] es)=some (.ax [],wX (.box cs) bs [t1,t2,t3] es):=by
 refine ao Bp (by rfl) ?_
 have h:=fun t es=>Kv (.box cs) [t1,t2,t3,t] es bs n x hx
 simp only[yU,go_sem,simprocAttr,h,hj,Og,Oc,NU,NW,Oj,O6,O5,NR,ite_self,if_true]
theorem HN(k s d q o c m e t u v:Int)(x:ByteArray)(hc:0≤c∧c≤255)(hm:0≤m∧m≤65535)(hx:127<x.size)(hb:bs.length≤900) :
 ab T (n+6) (.fn 130) [pW,.ptr 0 0 0 0] (wH (.box (fr k s d q o c m e t u v x)) bs [t1,t2] es)=some (.ax [],wX (.box (fr k s d q o c m e t u v x)) (bs++(bits 8 c.toNat++(bits 16 m.toNat))) [t1,t2] (es++ek bs 24)):=by
 refine ao BQ (by rfl) ?_
 have h0:∀t' es,ab T (n+5) (.fn 134) [pW,Ru 8,.ptr 0 0 0 5] (wH (.box (fr k s d q o c m e t u v x)) bs [t1,t2,t'] es)=some (.ax [],wH (.box (fr k s d q o c m e t u v x)) (bs++(bits 8 c.toNat)) [t1,t2,t'] (es++ek bs 8)):=fun t' es=>by
  have:=nE (n+1) _ t1 t2 t' es bs 8 c.toNat 5 (show(fr k s d q o c m e t u v x)[5]?=_ by rw[N2 hc.1];rfl) (by omega) (by omega) (by omega) (by omega)
  try simp only[NR]at this
  exact this
 have l0:(bs++(bits 8 c.toNat)).length=bs.length+8:=by simp only[NO,aa]<;>omega
 have h1:∀t' es,ab T (n+5) (.fn 134) [pW,Ru 16,.ptr 0 0 0 6] (wH (.box (fr k s d q o c m e t u v x)) (bs++(bits 8 c.toNat)) [t1,t2,t'] es)=some (.ax [],wH (.box (fr k s d q o c m e t u v x)) (bs++(bits 8 c.toNat++(bits 16 m.toNat))) [t1,t2,t'] (es++ek (bs++(bits 8 c.toNat)) 16)):=fun t' es=>by
  have:=nE (n+1) _ t1 t2 t' es (bs++(bits 8 c.toNat)) 16 m.toNat 6 (show(fr k s d q o c m e t u v x)[6]?=_ by rw[N2 hm.1];rfl) (by omega) (by omega) (by omega) (by rw[l0];omega)
  try simp only[NR]at this
  exact this
 have l1:(bs++(bits 8 c.toNat++(bits 16 m.toNat))).length=bs.length+24:=by simp only[NO,aa]<;>omega
 have hT:∀t' es,ab T (n+5) (.fn 170) [pW,.ptr 0 0 0 11] (wH (.box (fr k s d q o c m e t u v x)) (bs++(bits 8 c.toNat++(bits 16 m.toNat))) [t1,t2,t'] es)=some (.ax [],wX (.box (fr k s d q o c m e t u v x)) (bs++(bits 8 c.toNat++(bits 16 m.toNat))) [t1,t2,t'] es):=fun t' es=>Bq n (fr k s d q o c m e t u v x) t1 t2 t' es (bs++(bits 8 c.toNat++(bits 16 m.toNat))) x 11 rfl hx
 have hk:ek bs 24=ek bs 8++ek (bs++(bits 8 c.toNat)) 16:=by rw[bE l0]
 try simp only[NR]at hk
 rw[hk]
 simp only[zw,go_sem,simprocAttr,h0,h1,hT,Og,Oc,NU,NW,Oj,O6,O5,NR,ite_self,if_true]
theorem JY(k s d q o c m e t u v:Int)(x:ByteArray)(ht:0≤t∧t≤109951162)(hu:0≤u∧u≤65535)(hv:0≤v∧v≤65535)(hx:127<x.size)(hb:bs.length≤900) :
 ab T (n+6) (.fn 132) [pW,.ptr 0 0 0 0] (wH (.box (fr k s d q o c m e t u v x)) bs [t1,t2] es)=some (.ax [],wX (.box (fr k s d q o c m e t u v x)) (bs++(bits 27 t.toNat++(bits 16 u.toNat++(bits 16 v.toNat)))) [t1,t2] (es++ek bs 59)):=by
 refine ao AZ (by rfl) ?_
 have h0:∀t' es,ab T (n+5) (.fn 134) [pW,Ru 27,.ptr 0 0 0 8] (wH (.box (fr k s d q o c m e t u v x)) bs [t1,t2,t'] es)=some (.ax [],wH (.box (fr k s d q o c m e t u v x)) (bs++(bits 27 t.toNat)) [t1,t2,t'] (es++ek bs 27)):=fun t' es=>by
  have:=nE (n+1) _ t1 t2 t' es bs 27 t.toNat 8 (show(fr k s d q o c m e t u v x)[8]?=_ by rw[N2 ht.1];rfl) (by omega) (by omega) (by omega) (by omega)
  try simp only[NR]at this
  exact this
 have l0:(bs++(bits 27 t.toNat)).length=bs.length+27:=by simp only[NO,aa]<;>omega
 have h1:∀t' es,ab T (n+5) (.fn 134) [pW,Ru 16,.ptr 0 0 0 9] (wH (.box (fr k s d q o c m e t u v x)) (bs++(bits 27 t.toNat)) [t1,t2,t'] es)=some (.ax [],wH (.box (fr k s d q o c m e t u v x)) (bs++(bits 27 t.toNat++(bits 16 u.toNat))) [t1,t2,t'] (es++ek (bs++(bits 27 t.toNat)) 16)):=fun t' es=>by
  have:=nE (n+1) _ t1 t2 t' es (bs++(bits 27 t.toNat)) 16 u.toNat 9 (show(fr k s d q o c m e t u v x)[9]?=_ by rw[N2 hu.1];rfl) (by omega) (by omega) (by omega) (by rw[l0];omega)
  try simp only[NR]at this
  exact this
 have l1:(bs++(bits 27 t.toNat++(bits 16 u.toNat))).length=bs.length+43:=by simp only[NO,aa]<;>omega
 have h2:∀t' es,ab T (n+5) (.fn 134) [pW,Ru 16,.ptr 0 0 0 10] (wH (.box (fr k s d q o c m e t u v x)) (bs++(bits 27 t.toNat++(bits 16 u.toNat))) [t1,t2,t'] es)=some (.ax [],wH (.box (fr k s d q o c m e t u v x)) (bs++(bits 27 t.toNat++(bits 16 u.toNat++(bits 16 v.toNat)))) [t1,t2,t'] (es++ek (bs++(bits 27 t.toNat++(bits 16 u.toNat))) 16)):=fun t' es=>by
  have:=nE (n+1) _ t1 t2 t' es (bs++(bits 27 t.toNat++(bits 16 u.toNat))) 16 v.toNat 10 (show(fr k s d q o c m e t u v x)[10]?=_ by rw[N2 hv.1];rfl) (by omega) (by omega) (by omega) (by rw[l1];omega)
  try simp only[NR]at this
  exact this
 have l2:(bs++(bits 27 t.toNat++(bits 16 u.toNat++(bits 16 v.toNat)))).length=bs.length+59:=by simp only[NO,aa]<;>omega
 have hT:∀t' es,ab T (n+5) (.fn 170) [pW,.ptr 0 0 0 11] (wH (.box (fr k s d q o c m e t u v x)) (bs++(bits 27 t.toNat++(bits 16 u.toNat++(bits 16 v.toNat)))) [t1,t2,t'] es)=some (.ax [],wX (.box (fr k s d q o c m e t u v x)) (bs++(bits 27 t.toNat++(bits 16 u.toNat++(bits 16 v.toNat)))) [t1,t2,t'] es):=fun t' es=>Bq n (fr k s d q o c m e t u v x) t1 t2 t' es (bs++(bits 27 t.toNat++(bits 16 u.toNat++(bits 16 v.toNat)))) x 11 rfl hx
 have hk:ek bs 59=ek bs 27++ek (bs++(bits 27 t.toNat)) 16++ek (bs++(bits 27 t.toNat++(bits 16 u.toNat))) 16:=by rw[bE l0,bE l1]
 try simp only[NR]at hk
 rw[hk]
 simp only[zk,go_sem,simprocAttr,h0,h1,h2,hT,Og,Oc,NU,NW,Oj,O6,O5,NR,ite_self,if_true]
theorem Jk(k s d q o c m e t u v:Int)(x:ByteArray)(hx:127<x.size)(hb:bs.length≤900) :
 ab T (n+6) (.fn 133) [pW,.ptr 0 0 0 0] (wH (.box (fr k s d q o c m e t u v x)) bs [t1,t2] es)=some (.ax [],wX (.box (fr k s d q o c m e t u v x)) bs [t1,t2] es):=by
 refine ao Cn (by rfl) ?_
 have hT:∀t' es,ab T (n+5) (.fn 170) [pW,.ptr 0 0 0 11] (wH (.box (fr k s d q o c m e t u v x)) bs [t1,t2,t'] es)=some (.ax [],wX (.box (fr k s d q o c m e t u v x)) bs [t1,t2,t'] es):=fun t' es=>Bq n (fr k s d q o c m e t u v x) t1 t2 t' es bs x 11 rfl hx
 simp only[zj,go_sem,simprocAttr,hT,Og,Oc,NU,NW,Oj,O6,O5,NR,ite_self,if_true]
theorem A7(s d q o c m e t u v:Int)(x:ByteArray)(hs:0≤s∧s≤31)(hd:d<32)(hd0:d<0→d= -1)(hq:0≤q∧q≤255)(ho:0≤o∧o≤255)(hc:0≤c∧c≤255)(hm:0≤m∧m≤65535)(hx:127<x.size)(hb:bs.length≤100) :
 ∃bs' es',ab T (n+7) (.fn 76) [pW,.ptr 0 0 0 0] (wH (.box (fr 1 s d q o c m e t u v x)) bs [] es)=some (.bool true,wX (.box (fr 1 s d q o c m e t u v x)) bs' [] es'):=by
 refine⟨(bs++(bits 3 1++(bits 5 s.toNat++(ah d++(bits 8 q.toNat++(bits 8 o.toNat++(bits 8 c.toNat++(bits 16 m.toNat)))))))),es++(ek bs 3++(ek (bs++(bits 3 1)) 5++(ek (bs++(bits 3 1++(bits 5 s.toNat))) (aR d)++(ek (bs++(bits 3 1++(bits 5 s.toNat++(ah d)))) 8++(ek (bs++(bits 3 1++(bits 5 s.toNat++(ah d++(bits 8 q.toNat))))) 8++(ek (bs++(bits 3 1++(bits 5 s.toNat++(ah d++(bits 8 q.toNat++(bits 8 o.toNat)))))) 24)))))),?_⟩
 refine ao Ap (by rfl) ?_
 have h0:∀t1 t2 es,ab T (n+6) (.fn 134) [pW,Ru 3,.ptr 0 0 0 0] (wH (.box (fr 1 s d q o c m e t u v x)) bs [t1,t2] es)=some (.ax [],wH (.box (fr 1 s d q o c m e t u v x)) (bs++(bits 3 1)) [t1,t2] (es++ek bs 3)):=fun t1 t2 es=>by
  have:=eI (n+2) (fr 1 s d q o c m e t u v x) t1 t2 es bs 3 1 0 rfl (by omega) (by omega) (by omega) (by omega)
  try simp only[NR]at this
  exact this
 have l0:(bs++(bits 3 1)).length=bs.length+(3):=by simp only[NO,aa,aE]<;>omega
 have h1:∀t1 t2 es,ab T (n+6) (.fn 134) [pW,Ru 5,.ptr 0 0 0 1] (wH (.box (fr 1 s d q o c m e t u v x)) (bs++(bits 3 1)) [t1,t2] es)=some (.ax [],wH (.box (fr 1 s d q o c m e t u v x)) (bs++(bits 3 1++(bits 5 s.toNat))) [t1,t2] (es++ek (bs++(bits 3 1)) 5)):=fun t1 t2 es=>by
  have:=eI (n+2) (fr 1 s d q o c m e t u v x) t1 t2 es (bs++(bits 3 1)) 5 s.toNat 1 (show(fr 1 s d q o c m e t u v x)[1]?=_ by rw[N2 hs.1];rfl) (by omega) (by omega) (by omega) (by have:=ey d;rw[l0];omega)
  try simp only[NR]at this
  exact this
 have l1:(bs++(bits 3 1++(bits 5 s.toNat))).length=bs.length+(8):=by simp only[NO,aa,aE]<;>omega
 have h2:∀t1 t2 es,ab T (n+6) (.fn 135) [pW,.ptr 0 0 0 2] (wH (.box (fr 1 s d q o c m e t u v x)) (bs++(bits 3 1++(bits 5 s.toNat))) [t1,t2] es)=some (.ax [],wH (.box (fr 1 s d q o c m e t u v x)) (bs++(bits 3 1++(bits 5 s.toNat++(ah d)))) [t1,t2] (es++ek (bs++(bits 3 1++(bits 5 s.toNat))) (aR d))):=fun t1 t2 es=>by
  have:=rM n t1 t2 es (bs++(bits 3 1++(bits 5 s.toNat))) 1 s d q o c m e t u v x hd hd0 (by rw[l1];omega)
  try simp only[NR]at this
  exact this
 have l2:(bs++(bits 3 1++(bits 5 s.toNat++(ah d)))).length=bs.length+(8+aR d):=by simp only[NO,aa,aE]<;>omega
 have h3:∀t1 t2 es,ab T (n+6) (.fn 134) [pW,Ru 8,.ptr 0 0 0 3] (wH (.box (fr 1 s d q o c m e t u v x)) (bs++(bits 3 1++(bits 5 s.toNat++(ah d)))) [t1,t2] es)=some (.ax [],wH (.box (fr 1 s d q o c m e t u v x)) (bs++(bits 3 1++(bits 5 s.toNat++(ah d++(bits 8 q.toNat))))) [t1,t2] (es++ek (bs++(bits 3 1++(bits 5 s.toNat++(ah d)))) 8)):=fun t1 t2 es=>by
  have:=eI (n+2) (fr 1 s d q o c m e t u v x) t1 t2 es (bs++(bits 3 1++(bits 5 s.toNat++(ah d)))) 8 q.toNat 3 (show(fr 1 s d q o c m e t u v x)[3]?=_ by rw[N2 hq.1];rfl) (by omega) (by omega) (by omega) (by have:=ey d;rw[l2];omega)
  try simp only[NR]at this
  exact this
 have l3:(bs++(bits 3 1++(bits 5 s.toNat++(ah d++(bits 8 q.toNat))))).length=bs.length+(16+aR d):=by simp only[NO,aa,aE]<;>omega
 have h4:∀t1 t2 es,ab T (n+6) (.fn 134) [pW,Ru 8,.ptr 0 0 0 4] (wH (.box (fr 1 s d q o c m e t u v x)) (bs++(bits 3 1++(bits 5 s.toNat++(ah d++(bits 8 q.toNat))))) [t1,t2] es)=some (.ax [],wH (.box (fr 1 s d q o c m e t u v x)) (bs++(bits 3 1++(bits 5 s.toNat++(ah d++(bits 8 q.toNat++(bits 8 o.toNat)))))) [t1,t2] (es++ek (bs++(bits 3 1++(bits 5 s.toNat++(ah d++(bits 8 q.toNat))))) 8)):=fun t1 t2 es=>by
  have:=eI (n+2) (fr 1 s d q o c m e t u v x) t1 t2 es (bs++(bits 3 1++(bits 5 s.toNat++(ah d++(bits 8 q.toNat))))) 8 o.toNat 4 (show(fr 1 s d q o c m e t u v x)[4]?=_ by rw[N2 ho.1];rfl) (by omega) (by omega) (by omega) (by have:=ey d;rw[l3];omega)
  try simp only[NR]at this
  exact this
 have l4:(bs++(bits 3 1++(bits 5 s.toNat++(ah d++(bits 8 q.toNat++(bits 8 o.toNat)))))).length=bs.length+(24+aR d):=by simp only[NO,aa,aE]<;>omega
 have hb1:∀t1 t2 es,ab T (n+6) (.fn 130) [pW,.ptr 0 0 0 0] (wH (.box (fr 1 s d q o c m e t u v x)) (bs++(bits 3 1++(bits 5 s.toNat++(ah d++(bits 8 q.toNat++(bits 8 o.toNat)))))) [t1,t2] es)=some (.ax [],wX (.box (fr 1 s d q o c m e t u v x)) (bs++(bits 3 1++(bits 5 s.toNat++(ah d++(bits 8 q.toNat++(bits 8 o.toNat++(bits 8 c.toNat++(bits 16 m.toNat)))))))) [t1,t2] (es++ek (bs++(bits 3 1++(bits 5 s.toNat++(ah d++(bits 8 q.toNat++(bits 8 o.toNat)))))) 24)):=fun t1 t2 es=>by
  have:=HN n t1 t2 es (bs++(bits 3 1++(bits 5 s.toNat++(ah d++(bits 8 q.toNat++(bits 8 o.toNat)))))) 1 s d q o c m e t u v x hc hm hx (by have:=ey d;rw[l4];omega)
  try simp only[NR]at this
  exact this
 simp only[uG,go_sem,simprocAttr,h0,h1,h2,h3,h4,hb1,Og,Oc,NU,NW,Oj,O6,O5,NR,ite_self,if_true]
theorem BJ(s d q o c m e t u v:Int)(x:ByteArray)(hs:0≤s∧s≤31)(hd:d<32)(hd0:d<0→d= -1)(hq:0≤q∧q≤255)(ho:0≤o∧o≤255)(ht:0≤t∧t≤109951162)(hu:0≤u∧u≤65535)(hv:0≤v∧v≤65535)(hx:127<x.size)(hb:bs.length≤100) :
 ∃bs' es',ab T (n+7) (.fn 76) [pW,.ptr 0 0 0 0] (wH (.box (fr 3 s d q o c m e t u v x)) bs [] es)=some (.bool true,wX (.box (fr 3 s d q o c m e t u v x)) bs' [] es'):=by
 refine⟨(bs++(bits 3 3++(bits 5 s.toNat++(ah d++(bits 8 q.toNat++(bits 8 o.toNat++(bits 27 t.toNat++(bits 16 u.toNat++(bits 16 v.toNat))))))))),es++(ek bs 3++(ek (bs++(bits 3 3)) 5++(ek (bs++(bits 3 3++(bits 5 s.toNat))) (aR d)++(ek (bs++(bits 3 3++(bits 5 s.toNat++(ah d)))) 8++(ek (bs++(bits 3 3++(bits 5 s.toNat++(ah d++(bits 8 q.toNat))))) 8++(ek (bs++(bits 3 3++(bits 5 s.toNat++(ah d++(bits 8 q.toNat++(bits 8 o.toNat)))))) 59)))))),?_⟩
 refine ao Ap (by rfl) ?_
 have h0:∀t1 t2 es,ab T (n+6) (.fn 134) [pW,Ru 3,.ptr 0 0 0 0] (wH (.box (fr 3 s d q o c m e t u v x)) bs [t1,t2] es)=some (.ax [],wH (.box (fr 3 s d q o c m e t u v x)) (bs++(bits 3 3)) [t1,t2] (es++ek bs 3)):=fun t1 t2 es=>by
  have:=eI (n+2) (fr 3 s d q o c m e t u v x) t1 t2 es bs 3 3 0 rfl (by omega) (by omega) (by omega) (by omega)
  try simp only[NR]at this
  exact this
 have l0:(bs++(bits 3 3)).length=bs.length+(3):=by simp only[NO,aa,aE]<;>omega
 have h1:∀t1 t2 es,ab T (n+6) (.fn 134) [pW,Ru 5,.ptr 0 0 0 1] (wH (.box (fr 3 s d q o c m e t u v x)) (bs++(bits 3 3)) [t1,t2] es)=some (.ax [],wH (.box (fr 3 s d q o c m e t u v x)) (bs++(bits 3 3++(bits 5 s.toNat))) [t1,t2] (es++ek (bs++(bits 3 3)) 5)):=fun t1 t2 es=>by
  have:=eI (n+2) (fr 3 s d q o c m e t u v x) t1 t2 es (bs++(bits 3 3)) 5 s.toNat 1 (show(fr 3 s d q o c m e t u v x)[1]?=_ by rw[N2 hs.1];rfl) (by omega) (by omega) (by omega) (by have:=ey d;rw[l0];omega)
  try simp only[NR]at this
  exact this
 have l1:(bs++(bits 3 3++(bits 5 s.toNat))).length=bs.length+(8):=by simp only[NO,aa,aE]<;>omega
 have h2:∀t1 t2 es,ab T (n+6) (.fn 135) [pW,.ptr 0 0 0 2] (wH (.box (fr 3 s d q o c m e t u v x)) (bs++(bits 3 3++(bits 5 s.toNat))) [t1,t2] es)=some (.ax [],wH (.box (fr 3 s d q o c m e t u v x)) (bs++(bits 3 3++(bits 5 s.toNat++(ah d)))) [t1,t2] (es++ek (bs++(bits 3 3++(bits 5 s.toNat))) (aR d))):=fun t1 t2 es=>by
  have:=rM n t1 t2 es (bs++(bits 3 3++(bits 5 s.toNat))) 3 s d q o c m e t u v x hd hd0 (by rw[l1];omega)
  try simp only[NR]at this
  exact this
 have l2:(bs++(bits 3 3++(bits 5 s.toNat++(ah d)))).length=bs.length+(8+aR d):=by simp only[NO,aa,aE]<;>omega
 have h3:∀t1 t2 es,ab T (n+6) (.fn 134) [pW,Ru 8,.ptr 0 0 0 3] (wH (.box (fr 3 s d q o c m e t u v x)) (bs++(bits 3 3++(bits 5 s.toNat++(ah d)))) [t1,t2] es)=some (.ax [],wH (.box (fr 3 s d q o c m e t u v x)) (bs++(bits 3 3++(bits 5 s.toNat++(ah d++(bits 8 q.toNat))))) [t1,t2] (es++ek (bs++(bits 3 3++(bits 5 s.toNat++(ah d)))) 8)):=fun t1 t2 es=>by
  have:=eI (n+2) (fr 3 s d q o c m e t u v x) t1 t2 es (bs++(bits 3 3++(bits 5 s.toNat++(ah d)))) 8 q.toNat 3 (show(fr 3 s d q o c m e t u v x)[3]?=_ by rw[N2 hq.1];rfl) (by omega) (by omega) (by omega) (by have:=ey d;rw[l2];omega)
  try simp only[NR]at this
  exact this
 have l3:(bs++(bits 3 3++(bits 5 s.toNat++(ah d++(bits 8 q.toNat))))).length=bs.length+(16+aR d):=by simp only[NO,aa,aE]<;>omega
 have h4:∀t1 t2 es,ab T (n+6) (.fn 134) [pW,Ru 8,.ptr 0 0 0 4] (wH (.box (fr 3 s d q o c m e t u v x)) (bs++(bits 3 3++(bits 5 s.toNat++(ah d++(bits 8 q.toNat))))) [t1,t2] es)=some (.ax [],wH (.box (fr 3 s d q o c m e t u v x)) (bs++(bits 3 3++(bits 5 s.toNat++(ah d++(bits 8 q.toNat++(bits 8 o.toNat)))))) [t1,t2] (es++ek (bs++(bits 3 3++(bits 5 s.toNat++(ah d++(bits 8 q.toNat))))) 8)):=fun t1 t2 es=>by
  have:=eI (n+2) (fr 3 s d q o c m e t u v x) t1 t2 es (bs++(bits 3 3++(bits 5 s.toNat++(ah d++(bits 8 q.toNat))))) 8 o.toNat 4 (show(fr 3 s d q o c m e t u v x)[4]?=_ by rw[N2 ho.1];rfl) (by omega) (by omega) (by omega) (by have:=ey d;rw[l3];omega)
  try simp only[NR]at this
  exact this
 have l4:(bs++(bits 3 3++(bits 5 s.toNat++(ah d++(bits 8 q.toNat++(bits 8 o.toNat)))))).length=bs.length+(24+aR d):=by simp only[NO,aa,aE]<;>omega
 have hb1:∀t1 t2 es,ab T (n+6) (.fn 132) [pW,.ptr 0 0 0 0] (wH (.box (fr 3 s d q o c m e t u v x)) (bs++(bits 3 3++(bits 5 s.toNat++(ah d++(bits 8 q.toNat++(bits 8 o.toNat)))))) [t1,t2] es)=some (.ax [],wX (.box (fr 3 s d q o c m e t u v x)) (bs++(bits 3 3++(bits 5 s.toNat++(ah d++(bits 8 q.toNat++(bits 8 o.toNat++(bits 27 t.toNat++(bits 16 u.toNat++(bits 16 v.toNat))))))))) [t1,t2] (es++ek (bs++(bits 3 3++(bits 5 s.toNat++(ah d++(bits 8 q.toNat++(bits 8 o.toNat)))))) 59)):=fun t1 t2 es=>by
  have:=JY n t1 t2 es (bs++(bits 3 3++(bits 5 s.toNat++(ah d++(bits 8 q.toNat++(bits 8 o.toNat)))))) 3 s d q o c m e t u v x ht hu hv hx (by have:=ey d;rw[l4];omega)
  try simp only[NR]at this
  exact this
 simp only[uG,go_sem,simprocAttr,h0,h1,h2,h3,h4,hb1,Og,Oc,NU,NW,Oj,O6,O5,NR,ite_self,if_true]
theorem AN(s d q o c m e t u v:Int)(x:ByteArray)(hs:0≤s∧s≤31)(hd:d<32)(hd0:d<0→d= -1)(hq:0≤q∧q≤255)(ho:0≤o∧o≤255)(hx:127<x.size)(hb:bs.length≤100) :
 ∃bs' es',ab T (n+7) (.fn 76) [pW,.ptr 0 0 0 0] (wH (.box (fr 4 s d q o c m e t u v x)) bs [] es)=some (.bool true,wX (.box (fr 4 s d q o c m e t u v x)) bs' [] es'):=by
 refine⟨(bs++(bits 3 4++(bits 5 s.toNat++(ah d++(bits 8 q.toNat++(bits 8 o.toNat)))))),es++(ek bs 3++(ek (bs++(bits 3 4)) 5++(ek (bs++(bits 3 4++(bits 5 s.toNat))) (aR d)++(ek (bs++(bits 3 4++(bits 5 s.toNat++(ah d)))) 8++(ek (bs++(bits 3 4++(bits 5 s.toNat++(ah d++(bits 8 q.toNat))))) 8))))),?_⟩
 refine ao Ap (by rfl) ?_
 have h0:∀t1 t2 es,ab T (n+6) (.fn 134) [pW,Ru 3,.ptr 0 0 0 0] (wH (.box (fr 4 s d q o c m e t u v x)) bs [t1,t2] es)=some (.ax [],wH (.box (fr 4 s d q o c m e t u v x)) (bs++(bits 3 4)) [t1,t2] (es++ek bs 3)):=fun t1 t2 es=>by
  have:=eI (n+2) (fr 4 s d q o c m e t u v x) t1 t2 es bs 3 4 0 rfl (by omega) (by omega) (by omega) (by omega)
  try simp only[NR]at this
  exact this
 have l0:(bs++(bits 3 4)).length=bs.length+(3):=by simp only[NO,aa,aE]<;>omega
 have h1:∀t1 t2 es,ab T (n+6) (.fn 134) [pW,Ru 5,.ptr 0 0 0 1] (wH (.box (fr 4 s d q o c m e t u v x)) (bs++(bits 3 4)) [t1,t2] es)=some (.ax [],wH (.box (fr 4 s d q o c m e t u v x)) (bs++(bits 3 4++(bits 5 s.toNat))) [t1,t2] (es++ek (bs++(bits 3 4)) 5)):=fun t1 t2 es=>by
  have:=eI (n+2) (fr 4 s d q o c m e t u v x) t1 t2 es (bs++(bits 3 4)) 5 s.toNat 1 (show(fr 4 s d q o c m e t u v x)[1]?=_ by rw[N2 hs.1];rfl) (by omega) (by omega) (by omega) (by have:=ey d;rw[l0];omega)
  try simp only[NR]at this
  exact this
 have l1:(bs++(bits 3 4++(bits 5 s.toNat))).length=bs.length+(8):=by simp only[NO,aa,aE]<;>omega
 have h2:∀t1 t2 es,ab T (n+6) (.fn 135) [pW,.ptr 0 0 0 2] (wH (.box (fr 4 s d q o c m e t u v x)) (bs++(bits 3 4++(bits 5 s.toNat))) [t1,t2] es)=some (.ax [],wH (.box (fr 4 s d q o c m e t u v x)) (bs++(bits 3 4++(bits 5 s.toNat++(ah d)))) [t1,t2] (es++ek (bs++(bits 3 4++(bits 5 s.toNat))) (aR d))):=fun t1 t2 es=>by
  have:=rM n t1 t2 es (bs++(bits 3 4++(bits 5 s.toNat))) 4 s d q o c m e t u v x hd hd0 (by rw[l1];omega)
  try simp only[NR]at this
  exact this
 have l2:(bs++(bits 3 4++(bits 5 s.toNat++(ah d)))).length=bs.length+(8+aR d):=by simp only[NO,aa,aE]<;>omega
 have h3:∀t1 t2 es,ab T (n+6) (.fn 134) [pW,Ru 8,.ptr 0 0 0 3] (wH (.box (fr 4 s d q o c m e t u v x)) (bs++(bits 3 4++(bits 5 s.toNat++(ah d)))) [t1,t2] es)=some (.ax [],wH (.box (fr 4 s d q o c m e t u v x)) (bs++(bits 3 4++(bits 5 s.toNat++(ah d++(bits 8 q.toNat))))) [t1,t2] (es++ek (bs++(bits 3 4++(bits 5 s.toNat++(ah d)))) 8)):=fun t1 t2 es=>by
  have:=eI (n+2) (fr 4 s d q o c m e t u v x) t1 t2 es (bs++(bits 3 4++(bits 5 s.toNat++(ah d)))) 8 q.toNat 3 (show(fr 4 s d q o c m e t u v x)[3]?=_ by rw[N2 hq.1];rfl) (by omega) (by omega) (by omega) (by have:=ey d;rw[l2];omega)
  try simp only[NR]at this
  exact this
 have l3:(bs++(bits 3 4++(bits 5 s.toNat++(ah d++(bits 8 q.toNat))))).length=bs.length+(16+aR d):=by simp only[NO,aa,aE]<;>omega
 have h4:∀t1 t2 es,ab T (n+6) (.fn 134) [pW,Ru 8,.ptr 0 0 0 4] (wH (.box (fr 4 s d q o c m e t u v x)) (bs++(bits 3 4++(bits 5 s.toNat++(ah d++(bits 8 q.toNat))))) [t1,t2] es)=some (.ax [],wH (.box (fr 4 s d q o c m e t u v x)) (bs++(bits 3 4++(bits 5 s.toNat++(ah d++(bits 8 q.toNat++(bits 8 o.toNat)))))) [t1,t2] (es++ek (bs++(bits 3 4++(bits 5 s.toNat++(ah d++(bits 8 q.toNat))))) 8)):=fun t1 t2 es=>by
  have:=eI (n+2) (fr 4 s d q o c m e t u v x) t1 t2 es (bs++(bits 3 4++(bits 5 s.toNat++(ah d++(bits 8 q.toNat))))) 8 o.toNat 4 (show(fr 4 s d q o c m e t u v x)[4]?=_ by rw[N2 ho.1];rfl) (by omega) (by omega) (by omega) (by have:=ey d;rw[l3];omega)
  try simp only[NR]at this
  exact this
 have l4:(bs++(bits 3 4++(bits 5 s.toNat++(ah d++(bits 8 q.toNat++(bits 8 o.toNat)))))).length=bs.length+(24+aR d):=by simp only[NO,aa,aE]<;>omega
 have hb1:∀t1 t2 es,ab T (n+6) (.fn 133) [pW,.ptr 0 0 0 0] (wH (.box (fr 4 s d q o c m e t u v x)) (bs++(bits 3 4++(bits 5 s.toNat++(ah d++(bits 8 q.toNat++(bits 8 o.toNat)))))) [t1,t2] es)=some (.ax [],wX (.box (fr 4 s d q o c m e t u v x)) (bs++(bits 3 4++(bits 5 s.toNat++(ah d++(bits 8 q.toNat++(bits 8 o.toNat)))))) [t1,t2] es):=fun t1 t2 es=>by
  have:=Jk n t1 t2 es (bs++(bits 3 4++(bits 5 s.toNat++(ah d++(bits 8 q.toNat++(bits 8 o.toNat)))))) 4 s d q o c m e t u v x hx (by have:=ey d;rw[l4];omega)
  try simp only[NR]at this
  exact this
 simp only[uG,go_sem,simprocAttr,h0,h1,h2,h3,h4,hb1,Og,Oc,NU,NW,Oj,O6,O5,NR,ite_self,if_true]
end
end F
end
namespace F
def lF(k c m e t u v:Int)(x:ByteArray):List Bool:=
 bif decide (k=1)then bits 8 c.toNat++(bits 16 m.toNat++(bits 7 x.size++cT x x.size))
 else bif decide (k=2)then bits 16 (ta e)
 else bif decide (k=3)then bits 27 t.toNat++(bits 16 u.toNat++(bits 16 v.toNat++(bits 7 x.size++cT x x.size)))
 else bits 7 x.size++cT x x.size
def cr(k s d q o c m e t u v:Int)(x:ByteArray):List Bool:=
 bits 3 k.toNat++(bits 5 s.toNat++(ah d++(bits 8 q.toNat++(bits 8 o.toNat++lF k c m e t u v x))))
def Hq(k s d q o c m e t u v:Int)(x:ByteArray):SV:=
 bif !nn k s d q o c m e t u v x then .ax [.str ⟨#[]⟩,Ru 1]
 else bif decide (127<x.size)||decide (127<(fv (cr k s d q o c m e t u v x)).size+2)then .ax [.str ⟨#[]⟩,Ru 8]
 else .ax [.str (fA (fv (cr k s d q o c m e t u v x))),Rv]
theorem Ga(n:Nat)(es:List (Nat×Nat))(b0:aj):ab T (n+1) (.n8 116) [] ⟨[b0],es,0⟩=some (.ptr 1 0 0 0,⟨[b0,.box [.aB 0 [] true,Rv,Rv]],es,0⟩):=by
 refine eH Ef ?_
 simp only[BV,go_sem,simprocAttr]
theorem tP{k s d q o c m e t u v:Int}{x:ByteArray}(h:nn k s d q o c m e t u v x=true) :
 (0≤s∧s≤31)∧d<32∧(d<0→d= -1)∧(0≤q∧q≤255)∧(0≤o∧o≤255)∧
  ((k=1∧(0≤c∧c≤255)∧(0≤m∧m≤65535))∨(k=2∧(-32768≤e∧e≤32767)∧x=⟨#[]⟩)∨(k=3∧(0≤t∧t≤109951162)∧(0≤u∧u≤65535)∧(0≤v∧v≤65535))∨k=4):=by
 unfold nn pS at h
 simp only[dp,xf,NX,NY]at h
 obtain⟨h1,hs,hq,ho⟩:=h
 by_cases k1:k=1
 ·rw[NN k1]at h1
  simp only[N6,NX,NY,Ot,Ow]at h1
  exact⟨hs,by omega,by omega,hq,ho,.inl ⟨k1,h1.1.1.2,h1.1.2⟩⟩
 ·rw[NQ k1]at h1
  by_cases k2:k=2
  ·rw[NN k2]at h1
   simp only[N6,Oa,NX,NY,Ot,Ow]at h1
   exact⟨hs,by omega,by omega,hq,ho,.inr (.inl ⟨k2,h1.1.2,h1.2.2.2.2.2.2⟩)⟩
  ·rw[NQ k2]at h1
   by_cases k3:k=3
   ·rw[NN k3]at h1
    simp only[N6,Oa,NX,NY,Ot,Ow]at h1
    exact⟨hs,by omega,by omega,hq,ho,.inr (.inr (.inl ⟨k3,h1.1.1.1.2,h1.1.1.2,h1.1.2⟩))⟩
   ·rw[NQ k3]at h1
    by_cases k4:k=4
    ·rw[NN k4]at h1
     simp only[N6,Oa,NX,O3,NY,Ot,Ow]at h1
     exact⟨hs,by omega,by omega,hq,ho,.inr (.inr (.inr k4))⟩
    ·rw[NQ k4]at h1
     simp at h1
end F
section
namespace F
section
variable{k s d q o c m e t u v:Int}{x:ByteArray}
theorem Jh(n:Nat)(es:List (Nat×Nat))(h:nn k s d q o c m e t u v x=true)(hx:x.size≤127) :
 ∃es',ab T (n+7) (.fn 76) [pW,.ptr 0 0 0 0] (wH (.box (fr k s d q o c m e t u v x)) [] [] es)=some (.bool true,wH (.box (fr k s d q o c m e t u v x)) (cr k s d q o c m e t u v x) [] es'):=by
 obtain⟨hs,hd,hd0,hq,ho,h⟩:=tP h
 rcases h with⟨rfl,hc,hm⟩|⟨rfl,he,rfl⟩|⟨rfl,ht,hu,hv⟩|rfl
 ·exact⟨_,D6 n es [] s d q o c m e t u v x hs hd hd0 hq ho hc hm hx (by simp)⟩
 ·exact⟨_,Gd n es [] s d q o c m e t u v _ hs hd hd0 hq ho he (by simp)⟩
 ·exact⟨_,Ex n es [] s d q o c m e t u v x hs hd hd0 hq ho ht hu hv hx (by simp)⟩
 ·exact⟨_,DZ n es [] s d q o c m e t u v x hs hd hd0 hq ho hx (by simp)⟩
theorem KF(n:Nat)(es:List (Nat×Nat))(h:nn k s d q o c m e t u v x=true)(hx:127<x.size) :
 ∃bs' es',ab T (n+7) (.fn 76) [pW,.ptr 0 0 0 0] (wH (.box (fr k s d q o c m e t u v x)) [] [] es)=some (.bool true,wX (.box (fr k s d q o c m e t u v x)) bs' [] es'):=by
 obtain⟨hs,hd,hd0,hq,ho,h⟩:=tP h
 rcases h with⟨rfl,hc,hm⟩|⟨rfl,he,rfl⟩|⟨rfl,ht,hu,hv⟩|rfl
 ·exact A7 n es [] s d q o c m e t u v x hs hd hd0 hq ho hc hm hx (by simp)
 ·exact absurd hx (by decide)
 ·exact BJ n es [] s d q o c m e t u v x hs hd hd0 hq ho ht hu hv hx (by simp)
 ·exact AN n es [] s d q o c m e t u v x hs hd hd0 hq ho hx (by simp)
end
theorem ME(n:Nat)(H:ae)(k s d q o c m e t u v:Int)(x:ByteArray)(hX:x.size≤10000):ab T (n+8) (.fn 73) [.agg (fr k s d q o c m e t u v x)] H=some (Hq k s d q o c m e t u v x,H):=by
 refine aw Mt (by rfl) ?_
 have h17:=fun H=>Ln (n+3) H k s d q o c m e t u v x
 unfold Hq
 cases hch:nn k s d q o c m e t u v x with
 |false=>
  rw[hch]at h17
  simp only[DW,av,go_sem,simprocAttr,h17]
 |true=>
  rw[hch]at h17
  have h26:=fun es b0=>Ga (n+6) es b0
  rcases Oh 127 x.size with hx|hx
  ·obtain⟨bs',es',h27⟩:=KF n [(1,3)] hch hx
   have h27:ab T (n+7) (.fn 76) [.agg [.ptr 1 0 0 0,.bF],.ptr 0 0 0 0] ⟨[.box (fr k s d q o c m e t u v x),.box [.bG 2 0 0 0,Rv,Rv],.arr 0 1 [] false],[(1,3)],0⟩=_:=h27
   have h28:=Ie (.box (fr k s d q o c m e t u v x)) [] es' bs' (n+6)
   have hd:decide (127<x.size)=true:=NN hx
   simp only[DW,av,go_sem,simprocAttr,h17,h26,h27,h28,hd,Nat.reduceMod,Nat.reduceDiv]
  ·obtain⟨es',h27⟩:=Jh n [(1,3)] hch hx
   have h27:ab T (n+7) (.fn 76) [.agg [.ptr 1 0 0 0,.bF],.ptr 0 0 0 0] ⟨[.box (fr k s d q o c m e t u v x),.box [.bG 2 0 0 0,Rv,Rv],.arr 0 1 [] false],[(1,3)],0⟩=_:=h27
   have h28:=L0 (n+6) (.box (fr k s d q o c m e t u v x)) [] es' (cr k s d q o c m e t u v x)
   obtain⟨P,hP⟩:∃P,fv (cr k s d q o c m e t u v x)=P:=⟨_,rfl⟩
   rw[hP]at h28⊢
   have hd:decide (127<x.size)=false:=NQ (by omega)
   have hs:P.size≤1000:=by
    rw[←hP,dq]
    have hl:(cr k s d q o c m e t u v x).length≤2000:=by
     have:=ey d
     unfold cr lF
     simp only[NO,aa,aE]
     cases decide (k=1)<;>cases decide (k=2)<;>cases decide (k=3)<;>simp only[N6,Oa,NO,aa,cj]<;>omega
    unfold nb;omega
   have h25:=fun H=>Kt (n+1) H P hs
   have hw:bX ((P.size:Int)+2)=(P.size:Int)+2:=an (by omega) (by omega)
   cases hp:decide (127<P.size+2)with
   |false=>
    have hp2:decide ((127:Int)<(P.size:Int)+2)=false:=by simp only[Ow]at hp ⊢;omega
    simp only[DW,av,go_sem,simprocAttr,h17,h26,h27,h28,hd,hw,hp2,h25,Nat.reduceMod,Nat.reduceDiv]
   |true=>
    have hp2:decide ((127:Int)<(P.size:Int)+2)=true:=by simp only[NY]at hp ⊢;omega
    simp only[DW,av,go_sem,simprocAttr,h17,h26,h27,h28,hd,hw,hp2,h25,Nat.reduceMod,Nat.reduceDiv]
end F
end
end Go.Sh
