/- A part of the proof: texts K19gx, K19ux. -/
import Derived.Test.YtcfgikdpokjhpaaGreatB6
namespace Go.Sh
set_option linter.unusedSectionVars false
set_option linter.unnecessarySimpa false
set_option linter.unusedSimpArgs false
set_option linter.unusedVariables false
set_option maxRecDepth 100000
set_option maxHeartbeats 4000000
namespace G
theorem Vg(n:Nat)(H:ab)(a b c d:Int):aa T (n+1) (.fn 249) [pt a b,pt c d] H=
 some (acH (bb (bb (bb (a-c)*bb (a-c))+bb (bb (b-d)*bb (b-d)))),H):=by
 refine ae Ut (by rfl) ?_
 simp only[Lz,ah,go_sem,Nat.reduceAdd,Nat.reduceBEq]
theorem WR(n:Nat)(H:ab)(a:Int):aa T (n+1) (.fn 80) [acH a] H=some (.bool false,H):=by
 refine ae Xc (by rfl) ?_
 simp only[Vk,ah,go_sem,Nat.reduceAdd,Nat.reduceBEq]
theorem V2(n:Nat)(H:ab)(a b:Int):aa T (n+2) (.fn 44) [acH a,acH b] H=some (acH (oL a b),H):=by
 refine ae XQ (by rfl) ?_
 simp only[Vs,ah,go_sem,Nat.reduceAdd,Nat.reduceBEq,WR]
 repeat' (with_reducible refine aM (fun _=>?_) (fun _=>?_)<;>simp only[*,go_sem,Nat.reduceAdd,Nat.reduceBEq])
 all_goals simp_all [oL]
 all_goals omega
theorem HY(n:Nat)(H:ab)(a b c d x y:Int):aa T (n+3) (.fn 254) [pt a b,pt c d,pt x y] H=some (acH (fh a b c d x y),H):=by
 refine ae P4 (by rfl) ?_
 simp only[LO,ah,go_sem,Nat.reduceAdd,Nat.reduceBEq,V2]
 rfl
theorem Rq(n:Nat)(H:ab)(p q a b c d:Int):aa T (n+1) (.fn 255) [pt p q,pt a b,pt c d] H=some (.bool (dX p q a b c d),H):=by
 refine ae Qn (by rfl) ?_
 simp only[M4,ah,go_sem,Nat.reduceAdd,Nat.reduceBEq]
 repeat' (with_reducible refine aM (fun _=>?_) (fun _=>?_)<;>simp only[*,go_sem,Nat.reduceAdd,Nat.reduceBEq])
 all_goals (simp only[Ze,Zi]at *;simp only[dX];congr 2;rw[aam];simp only[Zh,Z6,Ze,ZY,false_iff,true_iff];omega)
theorem JP(n:Nat)(H:ab)(p q a b c d:Int):aa T (n+4) (.fn 253) [pt p q,pt a b,pt c d] H=some (.bool (Fp p q a b c d),H):=by
 refine ae P1 (by rfl) ?_
 simp only[ML,ah,go_sem,Nat.reduceAdd,Nat.reduceBEq,Nat.reduceLeDiff]
 repeat' (with_reducible refine aM (fun _=>?_) (fun _=>?_)<;>simp only[*,go_sem,Nat.reduceAdd,Nat.reduceBEq,Nat.reduceLeDiff,HY,Rq])
 all_goals (simp only[Fp];grind)
theorem Uu(n:Nat)(H:ab)(a b c d x y z t f:Int):aa T (n+5) (.fn 252) [pt a b,pt c d,wl x y z t f] H=some (.bool (pQ a b c d x y z t),H):=by
 refine ae Va (by rfl) ?_
 simp only[J7,ah,go_sem,Nat.reduceAdd,Nat.reduceBEq,Nat.reduceLeDiff,JP,HY]
 repeat' (with_reducible refine aM (fun _=>?_) (fun _=>?_)<;>simp only[*,go_sem,Nat.reduceAdd,Nat.reduceBEq,Nat.reduceLeDiff,JP,HY])
 all_goals (simp only[pQ];grind)
theorem J9(n:Nat)(H:ab)(a:Int):aa T (n+1) (.fn 205) [acH a] H=some (.bool (dT a),H):=by
 refine ae RZ (by rfl) ?_
 simp only[Lb,ah,go_sem,simprocAttr]
 repeat' (with_reducible refine aM (fun _=>?_) (fun _=>?_)<;>simp only[*,go_sem,simprocAttr])
 all_goals (simp only[dT];grind)
theorem MK(n:Nat)(H:ab)(p f:Int):aa T (n+2) (.fn 208) [acH p,acH f] H=some (.ba [acH (Ir p f),acH (Om p f)],H):=by
 refine ae TP (by rfl) ?_
 simp only[Ll,ah,go_sem,simprocAttr,J9]
 repeat' (with_reducible refine aM (fun _=>?_) (fun _=>?_)<;>simp only[*,go_sem,simprocAttr])
 all_goals (simp only[Ir,Om,wU];grind)
theorem Un(n:Nat)(bl es ro)(N P W f1 f2 f3 ex no th a b c d):aa T (n+1) (.fn 250) [st N P W f1 f2 f3 ex no th,pt a b,pt c d] ⟨bl,es,ro⟩=
 some (.fn 251 [.ptr bl.length 0 0 0,.ptr (bl.length+1) 0 0 0,.ptr (bl.length+1+1) 0 0 0],⟨bl++[.box [.aA 2 (dK N) f1,.aA 1 (dC P) f2,.aA 5 (ft W) f3,acH ex,acH no,acH th],.box [acH a,acH b],.box [acH c,acH d]],es,ro⟩):=by
 refine bj UC (by rfl) ?_
 simp only[LX,go_sem,simprocAttr,Za,Y9]
theorem Q6(n:Nat)(q:eN)(X0 X1 X3:aD)(X2:Int→aD)(f1 f2 f3:Bool)(N P W)(ex no th a b c d:Int)(hW:W.length≤maxLen)
 (hy:∀(p:Int) (w:Wl) (X:aD),aa T (n+6) (.fp 7) [.agg (Pr w)] ⟨[X0,X1,X2 p,X3,.box [.aA 2 (dK N) f1,.aA 1 (dC P) f2,.aA 5 (ft W) f3,acH ex,acH no,acH th],.box [acH a,acH b],.box [acH c,acH d],.loop q .ready .normal,X],[],0⟩=
  some (.bool true,⟨[X0,X1,X2 (Ir p w.f),X3,.box [.aA 2 (dK N) f1,.aA 1 (dC P) f2,.aA 5 (ft W) f3,acH ex,acH no,acH th],.box [acH a,acH b],.box [acH c,acH d],.loop q .ready .normal,X],[],0⟩)) (p:Int) :
 aa T (n+7) (.fn 251) [.fp 7,.ptr 4 0 0 0,.ptr 5 0 0 0,.ptr 6 0 0 0] ⟨[X0,X1,X2 p,X3,.box [.aA 2 (dK N) f1,.aA 1 (dC P) f2,.aA 5 (ft W) f3,acH ex,acH no,acH th],.box [acH a,acH b],.box [acH c,acH d],.loop q .ready .normal],[],0⟩=
  some (.ba [],⟨[X0,X1,X2 (W.foldl (kY a b c d) p),X3,.box [.aA 2 (dK N) f1,.aA 1 (dC P) f2,.aA 5 (ft W) f3,acH ex,acH no,acH th],.box [acH a,acH b],.box [acH c,acH d],.loop q .ready .normal],[],0⟩):=by
 refine bj Qy (by rfl) ?_
 simp only[Mm,go_sem,simprocAttr]
 refine bn (fun i=>([(0,.fp 7),(2,.ptr 5 0 0 0),(3,.ptr 6 0 0 0),(8,.aA 5 (ft W) f3),(9,acH W.length),(10,acH i)],⟨[X0,X1,X2 ((W.take i).foldl (kY a b c d) p),X3,.box [.aA 2 (dK N) f1,.aA 1 (dC P) f2,.aA 5 (ft W) f3,acH ex,acH no,acH th],.box [acH a,acH b],.box [acH c,acH d],.loop q .ready .normal],[],0⟩)) (fun _=>True) W.length ?_ trivial ?_
 ·simp only[go_sem,simprocAttr]
  rfl
 ·intro i hi _
  rcases Zl i W.length with hlt|hge
  ·obtain⟨w,hw⟩:∃w,W[i]?=some w:=⟨W[i],Zq hlt⟩
   have hs:=uS hlt hW
   have hf:=jh (kY a b c d) p hw
   simp only[go_sem,simprocAttr,hlt,hw,Uu,hf,kY]
   with_reducible refine yY (fun hc=>?_) (fun hc=>?_)
   ·simp only[go_sem,simprocAttr,hlt,hw,hs,hc,hf,kY,if_true,hy]
    exact⟨trivial,rfl,trivial⟩
   ·simp only[go_sem,simprocAttr,hlt,hw,hs,hc,hf,kY,ZY,if_false]
    exact⟨trivial,rfl,trivial⟩
  ·have hlt:¬i<W.length:=by omega
   have ht:W.take i=W:=ZM hge
   simp only[go_sem,simprocAttr,hlt,ht]
theorem JG(n:Nat)(H:ab)(N P W f1 f2 f3 ex no th a b p c d)(hW:W.length≤maxLen):aa T (n+8) (.fn 238) [st N P W f1 f2 f3 ex no th,pt a b,acH p,pt c d] H=some (acH (Al W ex a b p c d),H):=by
 refine ae Rz (by rfl) ?_
 have hm:=KC a b c d
 simp only[KG,ah,go_sem,simprocAttr,Vg,Ig,Me,hm]
 with_reducible refine aM (fun hex=>?_) (fun hex=>?_)
 all_goals
  simp only[go_sem,simprocAttr,hm,Un]
  refine iP _ (Q6 n _ _ _ _ (fun p=>.box [acH p]) f1 f2 f3 N P W ex no th a b c d hW ?_ _) ?_
  ·intro p w X
   refine nK rfl rfl ?_
   simp only[go_sem,simprocAttr,MK]
  ·simp only[Ze,Zi]at hex
   simp only[go_sem,simprocAttr,Al,qy,hex,if_true,if_false]
theorem TL(n:Nat)(H:ab)(N P W f1 f2 f3 ex no th a b p c d)(hN:N.length≤maxLen)(hP:P.length≤maxLen)(hW:W.length≤maxLen) :
 aa T (n+9) (.fn 228) [st N P W f1 f2 f3 ex no th,pt a b,acH p,pt c d] H=some (.ba [acH (qB (Al W ex a b p c d) (jg N P W ex no th) (nN a b p c d)),acH (zH (jg N P W ex no th) (nN a b p c d) 2)],H):=by
 refine ae QZ (by rfl) ?_
 have h23:=fun H=>I5 (n+2) H N P W f1 f2 f3 ex no th hN hP hW
 have h46:=fun H=>JG n H N P W f1 f2 f3 ex no th a b p c d hW
 simp only[MY,ah,go_sem,simprocAttr,h23,It,Ij,h46]
 repeat' (with_reducible refine aM (fun _=>?_) (fun _=>?_)<;>simp only[*,go_sem,simprocAttr,h23,It,Ij,h46])
 all_goals (clear h23 h46;simp_all [qB,zH,nN])
theorem Rp(n:Nat)(H:ab)(N:List (Int×Int))(P:List Int)(W f1 f2 f3 ex no th)(x y:Nat)(hx:x<N.length)(hy:y<N.length)(hP:P.length=N.length)(hW:W.length≤maxLen) :
 aa T (n+9) (.fn 235) [st N P W f1 f2 f3 ex no th,acH x,acH y] H=some (acH (tG (Al W ex) N P x y),H):=by
 refine ae So (by rfl) ?_
 obtain⟨p,hp⟩:=get_some hx
 obtain⟨q,hq⟩:=get_some hy
 obtain⟨r,hr⟩:=get_some (l:=P) (i:=x) (by omega)
 have hx':x<P.length:=by omega
 have h46:=fun H=>JG n H N P W f1 f2 f3 ex no th p.1 p.2 r q.1 q.2 hW
 simp only[LC,ah,go_sem,simprocAttr,hx,hy,hx',hp,hq,hr,h46]
 repeat' (with_reducible refine aM (fun _=>?_) (fun _=>?_)<;>simp only[*,go_sem,simprocAttr,hx,hy,hx',hp,hq,hr,h46])
 all_goals (clear h46;simp_all [tG,nd,Z7])
theorem JN(n:Nat)(H:ab)(N:List (Int×Int))(P:List Int)(W f1 f2 f3 ex no th)(x y:Int)(h:uN N x y=true)(hP:P.length=N.length)(hW:W.length≤maxLen) :
 aa T (n+9) (.fn 235) [st N P W f1 f2 f3 ex no th,acH x,acH y] H=some (acH (tG (Al W ex) N P x y),H):=by
 rw[oZ]at h
 obtain⟨⟨h1,h2⟩,h3,h4⟩:=h
 obtain⟨x',rfl⟩:=abq h1
 obtain⟨y',rfl⟩:=abq h3
 exact Rp n H N P W f1 f2 f3 ex no th x' y' (by omega) (by omega) hP hW
theorem Rw(n:Nat)(H:ab)(N:List (Int×Int))(P:List Int)(W f1 f2 f3 ex no th)(x y:Int)(hN:N.length≤maxLen)(hP:P.length≤maxLen)(hW:W.length≤maxLen) :
 aa T (n+10) (.fn 223) [st N P W f1 f2 f3 ex no th,acH x,acH y] H=some (.ba [acH (qB (tG (Al W ex) N P x y) (jg N P W ex no th) (uN N x y)),acH (zH (jg N P W ex no th) (uN N x y) 7)],H):=by
 refine ae Tk (by rfl) ?_
 have h23:=fun H=>I5 (n+3) H N P W f1 f2 f3 ex no th hN hP hW
 cases hok:jg N P W ex no th with
 |false=>
  simp only[DV,ah,go_sem,simprocAttr,h23,hok,qB,zH]
 |true=>
  cases hin:uN N x y with
  |false=>
   simp only[DV,ah,go_sem,simprocAttr,h23,hok,qB,zH]
   repeat' (with_reducible refine aM (fun _=>?_) (fun _=>?_)<;>simp only[*,go_sem,simprocAttr])
   all_goals (exfalso;clear h23;rw[aco,ne_eq,oZ]at hin;simp only[Zi]at *;omega)
  |true=>
   have h55:=fun H=>JN n H N P W f1 f2 f3 ex no th x y hin (CC hok).1 hW
   rw[oZ]at hin
   have m1:decide (min x y<0)=false:=by rw[Zi];omega
   have m2:decide ((N.length:Int)≤max x y)=false:=by rw[Zi];omega
   simp only[DV,ah,go_sem,simprocAttr,h23,hok,m1,m2,h55,qB,zH]
end G
namespace U
theorem Rv(n:Nat)(H:ab)(s:Src)(x y:Int)(hs:uO s.j5 s.fr s.to=true)(hi:Bh x y=true):aa T (n+1) (.fn 237) [.agg (Fo s),acH x,acH y] H=some (.bool (O9 s x y),H):=by
 refine ae T4 (by rfl) ?_
 simp only[uO,Bh,Zh,Ze]at hs hi
 have hne:s.j5≠0:=by omega
 have hx0:0≤x:=by omega
 have hm1:=acz x hne
 have hm2:=acf x (show 0<s.j5 by omega)
 have ht0:x.tmod s.j5=x%s.j5:=aaM hx0
 have ht:bb (x%s.j5)=x%s.j5:=ao (by omega) (by omega)
 have h1:bb (x%s.j5+y)=x%s.j5+y:=ao (by omega) (by omega)
 have h2:bb (x%s.j5+y-x)=x%s.j5+y-x:=ao (by omega) (by omega)
 have h3:bb (s.fr+s.j5)=s.fr+s.j5:=ao (by omega) (by omega)
 simp only[Mv,ah,go_sem,simprocAttr,hne,ht0,ht,h1,h2,h3]
 repeat' (with_reducible refine aM (fun _=>?_) (fun _=>?_)<;>simp only[*,go_sem,simprocAttr,hne,ht0,ht,h1,h2,h3])
 all_goals (simp only[O9];refine congrArg some (congrArg SV.bool ?_);rw[aam];clear ht0;generalize x%s.j5=r at *;grind)
theorem PK(n:Nat)(bl es ro)(S f1 F f2)(c x y:Int):aa T (n+1) (.rW 227) [sp S f1 F f2,acH c,acH x,acH y] ⟨bl,es,ro⟩=
 some (.fn 236 [.ptr bl.length 0 0 0,.ptr (bl.length+1) 0 0 0,.ptr (bl.length+2) 0 0 0,.ptr (bl.length+3) 0 0 0],⟨bl++[.box [.aA 7 (dM S) f1,.aA 6 (dG F) f2],.box [acH c],.box [acH x],.box [acH y]],es,ro⟩):=by
 refine fg To ?_
 simp only[Lc,go_sem,simprocAttr,Za,Y9]
theorem RM(n:Nat)(q:eN)(X0 X1 X2:aD){A:Type}(Xa:A→aD)(u:A→Src→A)(f1 f2:Bool)(S:List Src)(F:List Fd)(c x y:Int)(hS:yr S)(hv:∀s∈S,uO s.j5 s.fr s.to=true)(hi:Bh x y=true)
 (hy:∀(v:A) (s:Src) (X:aD),s∈S→aa T (n+6) (.fp 8) [.agg (Fo s)] ⟨[X0,X1,X2,Xa v,.box [.aA 7 (dM S) f1,.aA 6 (dG F) f2],.box [acH c],.box [acH x],.box [acH y],.loop q .ready .normal,X],[],0⟩=some (.bool true,⟨[X0,X1,X2,Xa (u v s),.box [.aA 7 (dM S) f1,.aA 6 (dG F) f2],.box [acH c],.box [acH x],.box [acH y],.loop q .ready .normal,X],[],0⟩)) (v:A) :
 aa T (n+7) (.fn 236) [.fp 8,.ptr 4 0 0 0,.ptr 5 0 0 0,.ptr 6 0 0 0,.ptr 7 0 0 0] ⟨[X0,X1,X2,Xa v,.box [.aA 7 (dM S) f1,.aA 6 (dG F) f2],.box [acH c],.box [acH x],.box [acH y],.loop q .ready .normal],[],0⟩=some (.ba [],⟨[X0,X1,X2,Xa (S.foldl (pz u c x y) v),.box [.aA 7 (dM S) f1,.aA 6 (dG F) f2],.box [acH c],.box [acH x],.box [acH y],.loop q .ready .normal],[],0⟩):=by
 refine bj P6 (by rfl) ?_
 simp only[Kq,go_sem,simprocAttr]
 refine bn (fun i=>([(0,.fp 8),(2,.ptr 5 0 0 0),(3,.ptr 6 0 0 0),(4,.ptr 7 0 0 0),(9,.aA 7 (dM S) f1),(10,acH S.length),(11,acH i)],⟨[X0,X1,X2,Xa ((S.take i).foldl (pz u c x y) v),.box [.aA 7 (dM S) f1,.aA 6 (dG F) f2],.box [acH c],.box [acH x],.box [acH y],.loop q .ready .normal],[],0⟩)) (fun _=>True) S.length ?_ trivial ?_
 ·simp only[go_sem,simprocAttr]<;>rfl
 ·intro i hi' _
  rcases Zl i S.length with hlt|hge
  ·obtain⟨s,hs⟩:=bV hlt
   have hm:=Zj hs
   have hw:=bR hlt hS.1
   have hf:=jh (pz u c x y) v hs
   have h20:=fun H=>Rn (n+4) H s.C s.f c (hS.2 s hm)
   have h42:=fun H=>Rv (n+5) H s x y (hv s hm) hi
   have hyy:=fun v X=>hy v s X hm
   simp only[go_sem,simprocAttr,hlt,hs,h20,hf,pz,Ka]
   cases hc:decide (c∈s.C)with
   |false=>
    simp only[go_sem,simprocAttr,hw,hf,pz,Ka,hc,ZJ,ZY,if_false]
    exact⟨hlt,rfl,trivial⟩
   |true=>
    simp only[go_sem,simprocAttr,h42,hc,ZP]
    cases ho:O9 s x y with
    |false=>
     simp only[go_sem,simprocAttr,hw,hf,pz,Ka,hc,ho,ZP,ZY,if_false]
     exact⟨hlt,rfl,trivial⟩
    |true=>
     simp only[go_sem,simprocAttr,hw,hf,pz,Ka,hc,ho,hyy,ZP,if_true]
     exact⟨hlt,rfl,trivial⟩
  ·have hlt:¬i<S.length:=by omega
   have ht:S.take i=S:=ZM hge
   simp only[go_sem,simprocAttr,hlt,ht]
theorem UY(m:Nat)(H:ab)(N P W g1 g2 g3 ex no th S f1 F f2)(a c x y:Int)(hN:N.length≤maxLen)(hP:P.length≤maxLen)(hW:W.length≤maxLen)(hS:yr S)(hF:F.length≤maxLen) :
 aa T (m+12) (.fn 210) [G.st N P W g1 g2 g3 ex no th,sp S f1 F f2,acH a,acH c,acH x,acH y] H=
  some (.ba [acH (V3 (G.jg N P W ex no th&&oF S F) (eB N.length a) (di c&&Bh x y) (Df (FG N P W ex no th a.toNat) S c x y)),acH (E3 (G.jg N P W ex no th&&oF S F) (eB N.length a) (di c&&Bh x y))],H):=by
 refine ae SO (by rfl) ?_
 have h44:=fun H=>G.I5 (m+5) H N P W g1 g2 g3 ex no th hN hP hW
 have h12:=fun H=>Wb (m+4) H S F f1 f2 hS hF
 simp only[Ni,ah,go_sem,simprocAttr,h44]
 cases hok:G.jg N P W ex no th with
 |false=>simp only[go_sem,simprocAttr,V3,E3,ZJ]
 |true=>
  simp only[go_sem,simprocAttr,h12]
  cases hck:oF S F with
  |false=>simp only[go_sem,simprocAttr,V3,E3,ZJ,Z2]
  |true=>
   cases hin:eB N.length a with
   |false=>
    rcases F9 hin with q|⟨q,q'⟩
    ·simp only[go_sem,simprocAttr,q,V3,E3,G.aL,ZP,ZJ,Z2]
    ·simp only[go_sem,simprocAttr,q,q',V3,E3,G.aL,ZP,ZJ,Z2]
   |true=>
    obtain⟨k,rfl,hk⟩:=GL.1 hin
    obtain⟨q,q'⟩:=HP hk
    simp only[go_sem,simprocAttr,q,q',G.aL,uM,Dz]
    cases hc:di c with
    |false=>simp only[go_sem,simprocAttr,V3,E3,ZP,ZJ,Z2]
    |true=>
     simp only[go_sem,simprocAttr,Dz]
     cases hi:Bh x y with
     |false=>simp only[go_sem,simprocAttr,V3,E3,ZP,ZJ,Z2]
     |true=>
      have hv:∀s∈S,uO s.j5 s.fr s.to=true:=fun s hs=>Dw (DU hck s hs)
      obtain⟨p,hp⟩:=bV hk
      have hnd:G.nd N k=p:=by simp only[G.nd,Z7,hp,aaC]
      have h47:=fun H (s:Src)=>G.TL m H N P W g1 g2 g3 ex no th s.a s.b s.p p.1 p.2 hN hP hW
      simp only[G.GG]at h47
      simp only[go_sem,simprocAttr,PK]
      refine G.iP _ (RM (m+4) _ _ _ _ (fun v=>.box [acH v]) (fun v s=>bb (v+FG N P W ex no th k s)) f1 f2 S F c x y hS hv hi ?_ 0) ?_
      ·intro v s X hs
       refine nK rfl rfl ?_
       simp only[go_sem,simprocAttr,hp,hk,h47,FG,hnd]
      ·simp only[go_sem,simprocAttr,V3,E3,Df,ZP]
theorem JK(n:Nat)(H:ab)(w:Fd)(a b:Int):aa T (n+1) (.fn 225) [.agg (FX w),acH a,acH b] H=some (.bool (Qu a b w),H):=by
 refine ae PF (by rfl) ?_
 simp only[Mz,ah,go_sem,simprocAttr]
 repeat' (with_reducible refine aM (fun _=>?_) (fun _=>?_)<;>simp only[*,go_sem,simprocAttr])
 all_goals (simp only[Qu];grind)
theorem S1(n:Nat)(X0 X5 X6:aD)(w:Fd)(a b c t:Int):aa T (n+2) (.fn 224) [.agg (FX w),.ptr 1 0 0 0,.ptr 2 0 0 0,.ptr 3 0 0 0,.ptr 4 0 0 0] ⟨[X0,.box [acH a],.box [acH b],.box [acH c],.box [acH t],X5,X6],[],0⟩=
 some (.bool (zB a b c t w),⟨[X0,.box [acH a],.box [acH b],.box [acH c],.box [acH t],X5,X6],[],0⟩):=by
 refine bj TT (by rfl) ?_
 simp only[J0,go_sem,simprocAttr,JK]
 repeat' (with_reducible refine aM (fun _=>?_) (fun _=>?_)<;>simp only[*,go_sem,simprocAttr,JK])
 all_goals (simp only[zB];grind)
theorem Vc(n:Nat)(X0 X1 X2 X3 X4:aD)(id:Nat)(caps:List SV)(p:Fd→Bool)(z2:Nat)(F:List Fd)(f2:Bool)(hz:z2=6∨F=[])(hF:F.length≤maxLen)(hr:SV.refs.au caps≤5)(hr0:(SV.refs.au caps==0)=false)
 (hc:∀w∈F,∀X5 X6,aa T n (.fn id) (.agg (FX w)::caps) ⟨[X0,X1,X2,X3,X4,X5,X6],[],0⟩=some (.bool (p w),⟨[X0,X1,X2,X3,X4,X5,X6],[],0⟩)) :
 aa T (n+1) (.fn 226) [.agg [.fn id caps],.aA z2 (dG F) f2] ⟨[X0,X1,X2,X3,X4],[],0⟩=some (acH (zJ p F),⟨[X0,X1,X2,X3,X4],[],0⟩):=by
 refine bj PC (by simp only[eA,SV.refs.au,SV.refs,HX,aaF,aa9,aba,abL];exact hr0) ?_
 simp only[HX,go_sem,simprocAttr]
 refine bn (fun i=>([(2,.ptr 5 0 0 0),(5,acH ((F.take i).foldl (Ev p) 1000)),(8,.aA z2 (dG F) f2),(9,acH F.length),(10,acH i)],⟨[X0,X1,X2,X3,X4,.box [.fn id caps]],[],0⟩)) (fun _=>True) F.length ?_ trivial ?_
 ·simp only[go_sem,simprocAttr]<;>rfl
 ·intro i hi _
  rcases Zl i F.length with hlt|hge
  ·obtain⟨w,hw⟩:=bV hlt
   have hm:=Zj hw
   have hz6:z2=6:=hz.resolve_right (by rintro rfl;simp at hlt)
   subst hz6
   have hs:=bR hlt hF
   have hf:=jh (Ev p) 1000 hw
   have hcw:=hc w hm
   cases hp:p w with
   |true=>
    simp only[go_sem,simprocAttr,hlt,hw,hs,hf,hcw,hp,Ev,if_true]
    exact⟨by first|trivial|exact hlt,rfl,trivial⟩
   |false=>
    simp only[go_sem,simprocAttr,hlt,hw,hs,hf,hcw,hp,Ev,ZY,if_false]
    exact⟨by first|trivial|exact hlt,rfl,trivial⟩
  ·have hlt:¬i<F.length:=by omega
   have ht:F.take i=F:=ZM hge
   simp only[go_sem,simprocAttr,hlt,ht,zJ]
theorem S0(n:Nat)(H:ab)(z1:Nat)(S:List Src)(f1:Bool)(z2:Nat)(F:List Fd)(f2:Bool)(a b c t:Int)(hz:z2=6∨F=[])(hF:F.length≤maxLen) :
 aa T (n+4) (.fn 209) [Jy z1 S f1 z2 F f2,acH a,acH b,acH c,acH t] H=some (acH (zJ (zB a b c t) F),H):=by
 refine ae Qv (by rfl) ?_
 have h62:=Vc (id:=224) (n+2) (.box [.aA z1 (dM S) f1,.aA z2 (dG F) f2]) (.box [acH a]) (.box [acH b]) (.box [acH c]) (.box [acH t]) [.ptr 1 0 0 0,.ptr 2 0 0 0,.ptr 3 0 0 0,.ptr 4 0 0 0] (zB a b c t) z2 F f2 hz hF
  (by simp[SV.refs,SV.refs.au]) (by simp[SV.refs,SV.refs.au]) (fun w _ X5 X6=>S1 n _ X5 X6 w a b c t)
 simp only[KB,ah,go_sem,simprocAttr,h62]
theorem SS(n:Nat)(H:ab)(N P W g1 g2 g3 ex no th)(z1:Nat)(S:List Src)(f1:Bool)(z2:Nat)(F:List Fd)(f2:Bool)(a b:Int)(hN:N.length≤maxLen)(hP:P.length≤maxLen)(hW:W.length≤maxLen)(hz1:z1=7∨S=[])(hz:z2=6∨F=[])(hS:yr S)(hF:F.length≤maxLen) :
 aa T (n+11) (.fn 207) [G.st N P W g1 g2 g3 ex no th,Jy z1 S f1 z2 F f2,acH a,acH b] H=
  some (.ba [acH (G.qB (G.tG (G.atR W ex) N P a b) (G.jg N P W ex no th&&oF S F) (G.uN N a b)),acH (G.zH (G.jg N P W ex no th&&oF S F) (G.uN N a b) 7)],H):=by
 refine ae U1 (by rfl) ?_
 have h44:=fun H=>G.I5 (n+4) H N P W g1 g2 g3 ex no th hN hP hW
 have h12:=fun H=>Fz (n+3) H S F f1 f2 z1 z2 hz1 hz hS hF
 have h81:=fun H=>G.Rw n H N P W g1 g2 g3 ex no th a b hN hP hW
 rw[G.Hy]at h81
 simp only[Nw,ah,go_sem,simprocAttr,h44]
 cases hok:G.jg N P W ex no th with
 |false=>simp only[go_sem,simprocAttr,G.qB,G.zH,ZJ]
 |true=>
  rw[hok]at h81
  simp only[go_sem,simprocAttr,h12]
  cases hck:oF S F with
  |false=>simp only[go_sem,simprocAttr,G.qB,G.zH,ZJ,Z2]
  |true=>simp only[go_sem,simprocAttr,h81,ZD]
theorem P3(n:Nat)(H:ab)(N P W g1 g2 g3 ex no th)(z1:Nat)(S:List Src)(f1:Bool)(z2:Nat)(F:List Fd)(f2:Bool)(a b c t:Int)(hN:N.length≤maxLen)(hP:P.length≤maxLen)(hW:W.length≤maxLen)(hz1:z1=7∨S=[])(hz:z2=6∨F=[])(hS:yr S)(hF:F.length≤maxLen) :
 aa T (n+12) (.fn 184) [G.st N P W g1 g2 g3 ex no th,Jy z1 S f1 z2 F f2,acH a,acH b,acH c,acH t] H=
  some (.ba [acH (V3 (G.jg N P W ex no th&&oF S F) (G.uN N a b) (di c&&EM t) (FF (G.tG (G.atR W ex) N P a b) (zJ (zB a b c t) F))),acH (E3 (G.jg N P W ex no th&&oF S F) (G.uN N a b) (di c&&EM t))],H):=by
 refine ae UH (by rfl) ?_
 have h57:=fun H=>SS n H N P W g1 g2 g3 ex no th z1 S f1 z2 F f2 a b hN hP hW hz1 hz hS hF
 have h54:=fun H=>S0 (n+7) H z1 S f1 z2 F f2 a b c t hz hF
 simp only[Lj,ah,go_sem,simprocAttr,h57]
 cases hok:G.jg N P W ex no th&&oF S F with
 |false=>simp only[go_sem,simprocAttr,rQ,E3,G.qB,G.zH,ZJ]
 |true=>
  cases hin:G.uN N a b with
  |false=>simp only[go_sem,simprocAttr,rQ,E3,G.qB,G.zH,Z2]
  |true=>
   obtain⟨hok,hck⟩:=abF.1 hok
   have hb:=(G.wq hok hin).2
   have hr:=Bf (zB a b c t) (Cd hck)
   have h58:=fun H=>G.MK (n+9) H (G.tG (G.atR W ex) N P a b) (zJ (zB a b c t) F)
   have hsc:G.wU (G.tG (G.atR W ex) N P a b) (zJ (zB a b c t) F)=true:=by
    simp only[G.wU,hb,ZP,Zh,Ze];exact hr
   have hE:G.Om (G.tG (G.atR W ex) N P a b) (zJ (zB a b c t) F)=0:=by simp only[G.Om,hsc,if_true]
   have hV:G.Ir (G.tG (G.atR W ex) N P a b) (zJ (zB a b c t) F)=FF (G.tG (G.atR W ex) N P a b) (zJ (zB a b c t) F):=by simp only[G.Ir,hsc,if_true,FF]
   rw[hE,hV]at h58
   simp only[go_sem,simprocAttr,G.qB,G.zH,ZD,uM]
   cases hc:di c with
   |false=>simp only[go_sem,simprocAttr,rQ,E3,ZJ]
   |true=>
    cases ht:EM t with
    |false=>
     rcases JO ht with q|⟨q,q'⟩
     ·simp only[go_sem,simprocAttr,rQ,E3,ZP,q]
     ·simp only[go_sem,simprocAttr,rQ,E3,ZP,q,q']
    |true=>
     obtain⟨q,q'⟩:=Hh ht
     simp only[go_sem,simprocAttr,rQ,E3,ZP,q,q',h54,h58]
end U
end Go.Sh
