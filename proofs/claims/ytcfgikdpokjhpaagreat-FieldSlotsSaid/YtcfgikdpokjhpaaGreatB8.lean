/- Part of the proof of FieldSlotsSaid: texts K19gx, K19ux. -/
import Derived.Test.YtcfgikdpokjhpaaGreatB6
namespace Go.Sh
set_option linter.unusedSectionVars false
set_option linter.unnecessarySimpa false
set_option linter.unusedSimpArgs false
set_option linter.unusedVariables false
set_option maxRecDepth 100000
set_option maxHeartbeats 4000000
namespace G
theorem Ub(n:Nat)(H:ae)(a b c d:Int):aa T (n+1) (.fn 249) [pt a b,pt c d] H=
 some (aew (bj (bj (bj (a-c)*bj (a-c))+bj (bj (b-d)*bj (b-d)))),H):=by
 refine ab Tx (by rfl) ?_
 simp only[Jn,ah,go_sem,Nat.reduceAdd,Nat.reduceBEq]
theorem Sa(n:Nat)(H:ae)(a b c d:Int):aa T (n+1) (.fn 170) [pt a b,pt c d] H=
 some (aew (bj (bj (bj (a-c)*bj (a-c))+bj (bj (b-d)*bj (b-d)))),H):=by
 refine ab UR (by rfl) ?_
 simp only[KJ,ah,go_sem,Nat.reduceAdd,Nat.reduceBEq]
theorem ZM(n:Nat)(H:ae)(a:Int):aa T (n+1) (.fn 80) [aew a] H=some (.bool false,H):=by
 refine ab Zg (by rfl) ?_
 simp only[Xl,ah,go_sem,Nat.reduceAdd,Nat.reduceBEq]
theorem Xm(n:Nat)(H:ae)(a b:Int):aa T (n+2) (.fn 44) [aew a,aew b] H=some (aew (pg a b),H):=by
 refine ab e44 (by rfl) ?_
 simp only[Xw,ah,go_sem,Nat.reduceAdd,Nat.reduceBEq,ZM]
 repeat' (with_reducible refine aA (fun _=>?_) (fun _=>?_)<;>simp only[*,go_sem,Nat.reduceAdd,Nat.reduceBEq])
 all_goals simp_all [pg]
 all_goals omega
theorem Gj(n:Nat)(H:ae)(a b c d x y:Int):aa T (n+3) (.fn 254) [pt a b,pt c d,pt x y] H=some (aew (fj a b c d x y),H):=by
 refine ab Wj (by rfl) ?_
 simp only[LA,ah,go_sem,Nat.reduceAdd,Nat.reduceBEq,Xm]
 rfl
theorem J0(n:Nat)(H:ae)(a b c d x y:Int):aa T (n+1) (.fn 193) [pt a b,pt c d,pt x y] H=some (aew (jG a b c d x y),H):=by
 refine ab Tg (by rfl) ?_
 simp only[Jx,ah,go_sem,Nat.reduceAdd,Nat.reduceBEq]
 repeat' (with_reducible refine aA (fun _=>?_) (fun _=>?_)<;>simp only[*,go_sem,Nat.reduceAdd,Nat.reduceBEq])
 all_goals (simp only[aaX,aa0]at *;simp only[jG];congr 2;(repeat' split)<;>omega)
theorem Wd(n:Nat)(H:ae)(p q a b c d:Int):aa T (n+1) (.fn 255) [pt p q,pt a b,pt c d] H=some (.bool (dE p q a b c d),H):=by
 refine ab Tv (by rfl) ?_
 simp only[Jr,ah,go_sem,Nat.reduceAdd,Nat.reduceBEq]
 repeat' (with_reducible refine aA (fun _=>?_) (fun _=>?_)<;>simp only[*,go_sem,Nat.reduceAdd,Nat.reduceBEq])
 all_goals (simp only[aaX,aa0]at *;simp only[dE];congr 2;rw[abG];simp only[aa1,abS,aaX,abE,false_iff,true_iff];omega)
theorem Ld(n:Nat)(H:ae)(p q a b c d:Int):aa T (n+1) (.fn 194) [pt a b,pt c d,pt p q] H=some (.bool (dE p q a b c d),H):=by
 refine ab Tp (by rfl) ?_
 simp only[JE,ah,go_sem,Nat.reduceAdd,Nat.reduceBEq]
 repeat' (with_reducible refine aA (fun _=>?_) (fun _=>?_)<;>simp only[*,go_sem,Nat.reduceAdd,Nat.reduceBEq])
 all_goals (simp only[aaX,aa0]at *;simp only[dE];congr 2;rw[abG];simp only[aa1,abS,aaX,abE,false_iff,true_iff];omega)
theorem NZ(n:Nat)(H:ae)(p q a b c d:Int):aa T (n+4) (.fn 253) [pt p q,pt a b,pt c d] H=some (.bool (Fc p q a b c d),H):=by
 refine ab SX (by rfl) ?_
 simp only[NA,ah,go_sem,Nat.reduceAdd,Nat.reduceBEq,Nat.reduceLeDiff]
 repeat' (with_reducible refine aA (fun _=>?_) (fun _=>?_)<;>simp only[*,go_sem,Nat.reduceAdd,Nat.reduceBEq,Nat.reduceLeDiff,Gj,Wd])
 all_goals (simp only[Fc];grind)
theorem Wb(n:Nat)(H:ae)(a b c d x y z t f:Int):aa T (n+5) (.fn 252) [pt a b,pt c d,wl x y z t f] H=some (.bool (pP a b c d x y z t),H):=by
 refine ab R7 (by rfl) ?_
 simp only[KB,ah,go_sem,Nat.reduceAdd,Nat.reduceBEq,Nat.reduceLeDiff,NZ,Gj]
 repeat' (with_reducible refine aA (fun _=>?_) (fun _=>?_)<;>simp only[*,go_sem,Nat.reduceAdd,Nat.reduceBEq,Nat.reduceLeDiff,NZ,Gj])
 all_goals (simp only[pP];grind)
theorem Tu(n:Nat)(H:ae)(a b c d x y z t f:Int):aa T (n+2) (.fn 171) [pt a b,pt c d,wl x y z t f] H=some (.bool (qC a b c d x y z t),H):=by
 refine ab Vz (by rfl) ?_
 simp only[KD,ah,go_sem,Nat.reduceAdd,Nat.reduceBEq,Nat.reduceLeDiff,J0,Ld]
 repeat' (with_reducible refine aA (fun _=>?_) (fun _=>?_)<;>simp only[*,go_sem,Nat.reduceAdd,Nat.reduceBEq,Nat.reduceLeDiff,J0,Ld])
 all_goals (simp only[qC];grind)
theorem NQ(n:Nat)(H:ae)(a:Int):aa T (n+1) (.fn 205) [aew a] H=some (.bool (cO a),H):=by
 refine ab Wg (by rfl) ?_
 simp only[JN,ah,go_sem,simprocAttr]
 repeat' (with_reducible refine aA (fun _=>?_) (fun _=>?_)<;>simp only[*,go_sem,simprocAttr])
 all_goals (simp only[cO];grind)
theorem LU(n:Nat)(H:ae)(p f:Int):aa T (n+2) (.fn 208) [aew p,aew f] H=some (.bk [aew (HF p f),aew (O1 p f)],H):=by
 refine ab We (by rfl) ?_
 simp only[Mz,ah,go_sem,simprocAttr,NQ]
 repeat' (with_reducible refine aA (fun _=>?_) (fun _=>?_)<;>simp only[*,go_sem,simprocAttr])
 all_goals (simp only[HF,O1,xi];grind)
theorem Nw(n:Nat)(H:ae)(N P W f1 f2 f3 ex no th a b p c d)(hW:W.length≤maxLen):aa T (n+3) (.fn 125) [st N P W f1 f2 f3 ex no th,pt a b,aew p,pt c d] H=some (aew (atR W ex a b p c d),H):=by
 refine ab T8 (by rfl) ?_
 have hm:=Fo a b c d
 simp only[Kr,ah,go_sem,simprocAttr,Sa,CL,FN,hm]
 with_reducible refine aA (fun hex=>?_) (fun hex=>?_)
 all_goals
  simp only[go_sem,simprocAttr,hm]
  refine aY (fun i=>([(4,.ptr 0 0 0 0),(5,.ptr 1 0 0 0),(7,.ptr 2 0 0 0),(10,aew ((W.take i).foldl (iF a b c d) (kc ex a b p c d))),(11,aew i)],⟨[.box [.ay 2 (cW N) f1,.ay 1 (cM P) f2,.ay 5 (ey W) f3,aew ex,aew no,aew th],.box [aew a,aew b],.box [aew c,aew d]],[],0⟩)) (fun _=>True) W.length ?_ trivial ?_
  ·simp only[aaX,aa0]at hex
   simp only[go_sem,simprocAttr,kc,hex,if_true,if_false]
   rfl
  ·intro i hi _
   rcases aa4 i W.length with hlt|hge
   ·obtain⟨w,hw⟩:∃w,W[i]?=some w:=⟨W[i],aa9 hlt⟩
    have hs:=kn hlt hW
    have hf:=eW (iF a b c d) (kc ex a b p c d) hw
    simp only[go_sem,simprocAttr,hlt,hw,Tu,hf,iF]
    with_reducible refine kU (fun hc=>?_) (fun hc=>?_)
    ·simp only[go_sem,simprocAttr,hlt,hw,hs,hc,hf,iF,if_true]
     exact⟨trivial,rfl,trivial⟩
    ·simp only[go_sem,simprocAttr,hlt,hw,hs,hc,hf,iF,abE,if_false]
     exact⟨trivial,rfl,trivial⟩
   ·have hlt:¬i<W.length:=by omega
    have ht:W.take i=W:=abu hge
    simp only[go_sem,simprocAttr,hlt,ht,atR]
theorem UB(n:Nat)(bl es ro)(N P W f1 f2 f3 ex no th a b c d):aa T (n+1) (.fn 250) [st N P W f1 f2 f3 ex no th,pt a b,pt c d] ⟨bl,es,ro⟩=
 some (.fn 251 [.ptr bl.length 0 0 0,.ptr (bl.length+1) 0 0 0,.ptr (bl.length+1+1) 0 0 0],⟨bl++[.box [.ay 2 (cW N) f1,.ay 1 (cM P) f2,.ay 5 (ey W) f3,aew ex,aew no,aew th],.box [aew a,aew b],.box [aew c,aew d]],es,ro⟩):=by
 refine bm RB (by rfl) ?_
 simp only[Nr,go_sem,simprocAttr,aaU,aaT]
theorem Q9(n:Nat)(q:eU)(X0 X1 X3:aK)(X2:Int→aK)(f1 f2 f3:Bool)(N P W)(ex no th a b c d:Int)(hW:W.length≤maxLen)
 (hy:∀(p:Int) (w:Wl) (X:aK),aa T (n+6) (.fA 7) [.agg (OD w)] ⟨[X0,X1,X2 p,X3,.box [.ay 2 (cW N) f1,.ay 1 (cM P) f2,.ay 5 (ey W) f3,aew ex,aew no,aew th],.box [aew a,aew b],.box [aew c,aew d],.loop q .ready .normal,X],[],0⟩=
  some (.bool true,⟨[X0,X1,X2 (HF p w.f),X3,.box [.ay 2 (cW N) f1,.ay 1 (cM P) f2,.ay 5 (ey W) f3,aew ex,aew no,aew th],.box [aew a,aew b],.box [aew c,aew d],.loop q .ready .normal,X],[],0⟩)) (p:Int) :
 aa T (n+7) (.fn 251) [.fA 7,.ptr 4 0 0 0,.ptr 5 0 0 0,.ptr 6 0 0 0] ⟨[X0,X1,X2 p,X3,.box [.ay 2 (cW N) f1,.ay 1 (cM P) f2,.ay 5 (ey W) f3,aew ex,aew no,aew th],.box [aew a,aew b],.box [aew c,aew d],.loop q .ready .normal],[],0⟩=
  some (.bk [],⟨[X0,X1,X2 (W.foldl (lD a b c d) p),X3,.box [.ay 2 (cW N) f1,.ay 1 (cM P) f2,.ay 5 (ey W) f3,aew ex,aew no,aew th],.box [aew a,aew b],.box [aew c,aew d],.loop q .ready .normal],[],0⟩):=by
 refine bm QO (by rfl) ?_
 simp only[LC,go_sem,simprocAttr]
 refine aY (fun i=>([(0,.fA 7),(2,.ptr 5 0 0 0),(3,.ptr 6 0 0 0),(8,.ay 5 (ey W) f3),(9,aew W.length),(10,aew i)],⟨[X0,X1,X2 ((W.take i).foldl (lD a b c d) p),X3,.box [.ay 2 (cW N) f1,.ay 1 (cM P) f2,.ay 5 (ey W) f3,aew ex,aew no,aew th],.box [aew a,aew b],.box [aew c,aew d],.loop q .ready .normal],[],0⟩)) (fun _=>True) W.length ?_ trivial ?_
 ·simp only[go_sem,simprocAttr]
  rfl
 ·intro i hi _
  rcases aa4 i W.length with hlt|hge
  ·obtain⟨w,hw⟩:∃w,W[i]?=some w:=⟨W[i],aa9 hlt⟩
   have hs:=kn hlt hW
   have hf:=eW (lD a b c d) p hw
   simp only[go_sem,simprocAttr,hlt,hw,Wb,hf,lD]
   with_reducible refine kU (fun hc=>?_) (fun hc=>?_)
   ·simp only[go_sem,simprocAttr,hlt,hw,hs,hc,hf,lD,if_true,hy]
    exact⟨trivial,rfl,trivial⟩
   ·simp only[go_sem,simprocAttr,hlt,hw,hs,hc,hf,lD,abE,if_false]
    exact⟨trivial,rfl,trivial⟩
  ·have hlt:¬i<W.length:=by omega
   have ht:W.take i=W:=abu hge
   simp only[go_sem,simprocAttr,hlt,ht]
theorem MF(n:Nat)(H:ae)(N P W f1 f2 f3 ex no th a b p c d)(hW:W.length≤maxLen):aa T (n+8) (.fn 238) [st N P W f1 f2 f3 ex no th,pt a b,aew p,pt c d] H=some (aew (zQ W ex a b p c d),H):=by
 refine ab Qx (by rfl) ?_
 have hm:=Fo a b c d
 simp only[Lu,ah,go_sem,simprocAttr,Ub,CL,FN,hm]
 with_reducible refine aA (fun hex=>?_) (fun hex=>?_)
 all_goals
  simp only[go_sem,simprocAttr,hm,UB]
  refine jh _ (Q9 n _ _ _ _ (fun p=>.box [aew p]) f1 f2 f3 N P W ex no th a b c d hW ?_ _) ?_
  ·intro p w X
   refine nL rfl rfl ?_
   simp only[go_sem,simprocAttr,LU]
  ·simp only[aaX,aa0]at hex
   simp only[go_sem,simprocAttr,zQ,kc,hex,if_true,if_false]
theorem TL(n:Nat)(H:ae)(N P W f1 f2 f3 ex no th a b p c d)(hN:N.length≤maxLen)(hP:P.length≤maxLen)(hW:W.length≤maxLen) :
 aa T (n+9) (.fn 228) [st N P W f1 f2 f3 ex no th,pt a b,aew p,pt c d] H=some (.bk [aew (mv (zQ W ex a b p c d) (eJ N P W ex no th) (j0 a b p c d)),aew (tE (eJ N P W ex no th) (j0 a b p c d) 2)],H):=by
 refine ab Uu (by rfl) ?_
 have h23:=fun H=>IY (n+2) H N P W f1 f2 f3 ex no th hN hP hW
 have h46:=fun H=>MF n H N P W f1 f2 f3 ex no th a b p c d hW
 simp only[Kw,ah,go_sem,simprocAttr,h23,Gy,Gq,h46]
 repeat' (with_reducible refine aA (fun _=>?_) (fun _=>?_)<;>simp only[*,go_sem,simprocAttr,h23,Gy,Gq,h46])
 all_goals (clear h23 h46;simp_all [mv,tE,j0])
theorem Ur(n:Nat)(H:ae)(N P W f1 f2 f3 ex no th a b p c d)(hN:N.length≤maxLen)(hW:W.length≤maxLen) :
 aa T (n+7) (.fn 190) [st N P W f1 f2 f3 ex no th,pt a b,aew p,pt c d] H=some (.bk [aew (mv (atR W ex a b p c d) (eJ N P W ex no th) (j0 a b p c d)),aew (tE (eJ N P W ex no th) (j0 a b p c d) 2)],H):=by
 refine ab SB (by rfl) ?_
 have h29:=fun H=>J7 n H N P W f1 f2 f3 ex no th hW hN
 have h54:=fun H=>Nw (n+3) H N P W f1 f2 f3 ex no th a b p c d hW
 simp only[M8,ah,go_sem,simprocAttr,h29,nY,ti,h54]
 repeat' (with_reducible refine aA (fun _=>?_) (fun _=>?_)<;>simp only[*,go_sem,simprocAttr,h29,nY,ti,h54])
 all_goals (clear h29 h54;simp_all [mv,tE,j0])
theorem Vc(n:Nat)(H:ae)(N:List (Int×Int))(P:List Int)(W f1 f2 f3 ex no th)(x y:Nat)(hx:x<N.length)(hy:y<N.length)(hP:P.length=N.length)(hW:W.length≤maxLen) :
 aa T (n+9) (.fn 235) [st N P W f1 f2 f3 ex no th,aew x,aew y] H=some (aew (ri (zQ W ex) N P x y),H):=by
 refine ab R9 (by rfl) ?_
 obtain⟨p,hp⟩:=get_some hx
 obtain⟨q,hq⟩:=get_some hy
 obtain⟨r,hr⟩:=get_some (l:=P) (i:=x) (by omega)
 have hx':x<P.length:=by omega
 have h46:=fun H=>MF n H N P W f1 f2 f3 ex no th p.1 p.2 r q.1 q.2 hW
 simp only[NR,ah,go_sem,simprocAttr,hx,hy,hx',hp,hq,hr,h46]
 repeat' (with_reducible refine aA (fun _=>?_) (fun _=>?_)<;>simp only[*,go_sem,simprocAttr,hx,hy,hx',hp,hq,hr,h46])
 all_goals (clear h46;simp_all [ri,nd,abA])
theorem Jo(n:Nat)(H:ae)(N:List (Int×Int))(P:List Int)(W f1 f2 f3 ex no th)(x y:Int)(h:nZ N x y=true)(hP:P.length=N.length)(hW:W.length≤maxLen) :
 aa T (n+9) (.fn 235) [st N P W f1 f2 f3 ex no th,aew x,aew y] H=some (aew (ri (zQ W ex) N P x y),H):=by
 rw[kS]at h
 obtain⟨⟨h1,h2⟩,h3,h4⟩:=h
 obtain⟨x',rfl⟩:=ac8 h1
 obtain⟨y',rfl⟩:=ac8 h3
 exact Vc n H N P W f1 f2 f3 ex no th x' y' (by omega) (by omega) hP hW
theorem SJ(n:Nat)(H:ae)(N:List (Int×Int))(P:List Int)(W f1 f2 f3 ex no th)(x y:Int)(hN:N.length≤maxLen)(hP:P.length≤maxLen)(hW:W.length≤maxLen) :
 aa T (n+10) (.fn 223) [st N P W f1 f2 f3 ex no th,aew x,aew y] H=some (.bk [aew (mv (ri (zQ W ex) N P x y) (eJ N P W ex no th) (nZ N x y)),aew (tE (eJ N P W ex no th) (nZ N x y) 7)],H):=by
 refine ab T1 (by rfl) ?_
 have h23:=fun H=>IY (n+3) H N P W f1 f2 f3 ex no th hN hP hW
 cases hok:eJ N P W ex no th with
 |false=>
  simp only[D0,ah,go_sem,simprocAttr,h23,hok,mv,tE]
 |true=>
  cases hin:nZ N x y with
  |false=>
   simp only[D0,ah,go_sem,simprocAttr,h23,hok,mv,tE]
   repeat' (with_reducible refine aA (fun _=>?_) (fun _=>?_)<;>simp only[*,go_sem,simprocAttr])
   all_goals (exfalso;clear h23;rw[adW,ne_eq,kS]at hin;simp only[aa0]at *;omega)
  |true=>
   have h55:=fun H=>Jo n H N P W f1 f2 f3 ex no th x y hin (wo hok).1 hW
   rw[kS]at hin
   have m1:decide (min x y<0)=false:=by rw[aa0];omega
   have m2:decide ((N.length:Int)≤max x y)=false:=by rw[aa0];omega
   simp only[D0,ah,go_sem,simprocAttr,h23,hok,m1,m2,h55,mv,tE]
theorem Z0(n:Nat)(H:ae)(N:List (Int×Int))(P:List Int)(W f1 f2 f3 ex no th)(x y:Int)(hN:N.length≤maxLen)(hW:W.length≤maxLen) :
 aa T (n+7) (.fn 68) [st N P W f1 f2 f3 ex no th,aew x,aew y] H=some (.bk [aew (mv (ri (atR W ex) N P x y) (eJ N P W ex no th) (nZ N x y)),aew (tE (eJ N P W ex no th) (nZ N x y) 7)],H):=by
 refine ab Zj (by rfl) ?_
 have h29:=fun H=>J7 n H N P W f1 f2 f3 ex no th hW hN
 cases hok:eJ N P W ex no th with
 |false=>
  simp only[P1,ah,go_sem,simprocAttr,h29,hok,mv,tE]
 |true=>
  cases hin:nZ N x y with
  |false=>
   simp only[P1,ah,go_sem,simprocAttr,h29,hok,mv,tE]
   repeat' (with_reducible refine aA (fun _=>?_) (fun _=>?_)<;>simp only[*,go_sem,simprocAttr])
   all_goals (exfalso;clear h29;rw[adW,ne_eq,kS]at hin;simp only[aa0]at *;omega)
  |true=>
   rw[kS]at hin
   obtain⟨⟨h1,h2⟩,h3,h4⟩:=hin
   obtain⟨x',rfl⟩:=ac8 h1
   obtain⟨y',rfl⟩:=ac8 h3
   have hl:=(wo hok).1
   have hx:x'<N.length:=by omega
   have hy:y'<N.length:=by omega
   have hx':x'<P.length:=by omega
   have n1:decide ((x':Int)<0)=false:=by rw[aa0];omega
   have n2:decide ((y':Int)<0)=false:=by rw[aa0];omega
   have n3:decide ((N.length:Int)≤x')=false:=by rw[aa0];omega
   have n4:decide ((N.length:Int)≤y')=false:=by rw[aa0];omega
   obtain⟨p,hp⟩:=get_some hx
   obtain⟨q,hq⟩:=get_some hy
   obtain⟨r,hr⟩:=get_some hx'
   have h54:=fun H=>Nw (n+3) H N P W f1 f2 f3 ex no th p.1 p.2 r q.1 q.2 hW
   simp only[P1,ah,go_sem,simprocAttr,h29,hok,n1,n2,n3,n4,mv,tE]
   repeat' (with_reducible refine aA (fun _=>?_) (fun _=>?_)<;>simp only[*,go_sem,simprocAttr,hx,hy,hx',hp,hq,hr,h54])
   all_goals (clear h54 h29;simp_all [ri,nd,abA])
end G
namespace U
theorem SF(n:Nat)(H:ae)(s:Src)(x y:Int)(hs:rf s.fU s.fr s.to=true)(hi:mH x y=true):aa T (n+1) (.fn 237) [.agg (zX s),aew x,aew y] H=some (.bool (Fp s x y),H):=by
 refine ab Tk (by rfl) ?_
 simp only[rf,mH,aa1,aaX]at hs hi
 have hne:s.fU≠0:=by omega
 have hx0:0≤x:=by omega
 have hm1:=adP x hne
 have hm2:=adq x (show 0<s.fU by omega)
 have ht0:x.tmod s.fU=x%s.fU:=acK hx0
 have ht:bj (x%s.fU)=x%s.fU:=ax (by omega) (by omega)
 have h1:bj (x%s.fU+y)=x%s.fU+y:=ax (by omega) (by omega)
 have h2:bj (x%s.fU+y-x)=x%s.fU+y-x:=ax (by omega) (by omega)
 have h3:bj (s.fr+s.fU)=s.fr+s.fU:=ax (by omega) (by omega)
 simp only[K3,ah,go_sem,simprocAttr,hne,ht0,ht,h1,h2,h3]
 repeat' (with_reducible refine aA (fun _=>?_) (fun _=>?_)<;>simp only[*,go_sem,simprocAttr,hne,ht0,ht,h1,h2,h3])
 all_goals (simp only[Fp];refine congrArg some (congrArg SV.bool ?_);rw[abG];clear ht0;generalize x%s.fU=r at *;grind)
theorem Vy(n:Nat)(H:ae)(s:Src)(x y:Int)(hC:s.C.length≤maxLen):aa T (n+3) (.fn 189) [.agg (zX s),aew x,aew y] H=some (.bool (Jd s x y),H):=by
 refine ab Sd (by rfl) ?_
 have h39:=fun H=>MC n H s hC
 simp only[JX,ah,go_sem,simprocAttr,h39]
 cases h1:n7 s with
 |false=>simp only[go_sem,simprocAttr,Jd,h1]
 |true=>
  simp only[go_sem,simprocAttr,FJ]
  cases h2:mH x y with
  |false=>simp only[go_sem,simprocAttr,Jd,h1,h2]
  |true=>
   have hs:=xZ h1
   have hi:=h2
   simp only[rf,mH,aa1,aaX]at hs hi
   have hne:s.fU≠0:=by omega
   have hx0:0≤x:=by omega
   have hm1:=adP x hne
   have hm2:=adq x (show 0<s.fU by omega)
   have ht0:x.tmod s.fU=x%s.fU:=acK hx0
   have ht:bj (x%s.fU)=x%s.fU:=ax (by omega) (by omega)
   have a1:bj (x+s.fr)=x+s.fr:=ax (by omega) (by omega)
   have a2:bj (x+s.fr-x%s.fU)=x+s.fr-x%s.fU:=ax (by omega) (by omega)
   have a3:bj (x+s.fU)=x+s.fU:=ax (by omega) (by omega)
   have a4:bj (x+s.fU-x%s.fU)=x+s.fU-x%s.fU:=ax (by omega) (by omega)
   have a5:bj (x+s.fU-x%s.fU+s.fr)=x+s.fU-x%s.fU+s.fr:=ax (by omega) (by omega)
   simp only[Jd,h1,h2,abo,go_sem,simprocAttr,hne,ht0,ht,a1,a2,a3,a4,a5]
   repeat' (with_reducible refine aA (fun _=>?_) (fun _=>?_)<;>simp only[*,go_sem,simprocAttr,hne,ht0,ht,a1,a2,a3,a4,a5])
   all_goals (simp only[Fp];refine congrArg some (congrArg SV.bool ?_);rw[abG];clear ht0;generalize x%s.fU=r at *;grind)
theorem Q0(n:Nat)(H:ae)(C:List Int)(f:Bool)(c:Int)(hC:C.length≤maxLen):aa T (n+1) (.fn 188) [.ay 1 (iS C) f,aew c] H=some (.bool (decide (c∈C)),H):=by
 refine ab UD (by rfl) ?_
 simp only[Nz,ah,go_sem,simprocAttr]
 refine aY (fun i=>([(0,.ay 1 (iS C) f),(1,aew c),(5,aew i)],⟨[],[],0⟩)) (fun i=>∀(j:Nat) x,j<i→C[j]?=some x→x≠c) C.length ?_ (fun j x h=>by omega) ?_
 ·simp only[go_sem,simprocAttr]<;>rfl
 ·intro i hi hP
  rcases aa4 i C.length with hlt|hge
  ·obtain⟨x,hx⟩:=bF hlt
   have hw:=br hlt hC
   by_cases hb:x=c
   ·have hm:decide (c∈C)=true:=aaV (hb▸aa3 hx)
    simp only[go_sem,simprocAttr,hlt,hx,hb,hm]
   ·simp only[go_sem,simprocAttr,hlt,hx,hb,hw,ac2]
    refine⟨by first|trivial|omega,by first|trivial|rfl,?_⟩
    intro j y hj hy
    rcases aa4 j i with h3|h3
    ·exact hP j y h3 hy
    ·have:j=i:=by omega
     subst this
     rw[hx]at hy;cases hy
     exact hb
  ·have hlt:¬i<C.length:=by omega
   have hm:decide (c∈C)=false:=aaZ (fun h=>by
    obtain⟨j,hj⟩:=acG.1 h
    exact hP j c (by have:=(aaS.1 hj).1;omega) hj rfl)
   simp only[go_sem,simprocAttr,hlt,hm]
theorem U1(n:Nat)(bl es ro)(S f1 F f2)(c x y:Int):aa T (n+1) (.qX 227) [sp S f1 F f2,aew c,aew x,aew y] ⟨bl,es,ro⟩=
 some (.fn 236 [.ptr bl.length 0 0 0,.ptr (bl.length+1) 0 0 0,.ptr (bl.length+2) 0 0 0,.ptr (bl.length+3) 0 0 0],⟨bl++[.box [.ay 7 (c0 S) f1,.ay 6 (cZ F) f2],.box [aew c],.box [aew x],.box [aew y]],es,ro⟩):=by
 refine eP Uf ?_
 simp only[J1,go_sem,simprocAttr,aaU,aaT]
theorem Vf(n:Nat)(q:eU)(X0 X1 X2:aK){A:Type}(Xa:A→aK)(u:A→Src→A)(f1 f2:Bool)(S:List Src)(F:List Fd)(c x y:Int)(hS:tZ S)(hv:∀s∈S,rf s.fU s.fr s.to=true)(hi:mH x y=true)
 (hy:∀(v:A) (s:Src) (X:aK),s∈S→aa T (n+6) (.fA 8) [.agg (zX s)] ⟨[X0,X1,X2,Xa v,.box [.ay 7 (c0 S) f1,.ay 6 (cZ F) f2],.box [aew c],.box [aew x],.box [aew y],.loop q .ready .normal,X],[],0⟩=some (.bool true,⟨[X0,X1,X2,Xa (u v s),.box [.ay 7 (c0 S) f1,.ay 6 (cZ F) f2],.box [aew c],.box [aew x],.box [aew y],.loop q .ready .normal,X],[],0⟩)) (v:A) :
 aa T (n+7) (.fn 236) [.fA 8,.ptr 4 0 0 0,.ptr 5 0 0 0,.ptr 6 0 0 0,.ptr 7 0 0 0] ⟨[X0,X1,X2,Xa v,.box [.ay 7 (c0 S) f1,.ay 6 (cZ F) f2],.box [aew c],.box [aew x],.box [aew y],.loop q .ready .normal],[],0⟩=some (.bk [],⟨[X0,X1,X2,Xa (S.foldl (kg u c x y) v),.box [.ay 7 (c0 S) f1,.ay 6 (cZ F) f2],.box [aew c],.box [aew x],.box [aew y],.loop q .ready .normal],[],0⟩):=by
 refine bm Qi (by rfl) ?_
 simp only[KU,go_sem,simprocAttr]
 refine aY (fun i=>([(0,.fA 8),(2,.ptr 5 0 0 0),(3,.ptr 6 0 0 0),(4,.ptr 7 0 0 0),(9,.ay 7 (c0 S) f1),(10,aew S.length),(11,aew i)],⟨[X0,X1,X2,Xa ((S.take i).foldl (kg u c x y) v),.box [.ay 7 (c0 S) f1,.ay 6 (cZ F) f2],.box [aew c],.box [aew x],.box [aew y],.loop q .ready .normal],[],0⟩)) (fun _=>True) S.length ?_ trivial ?_
 ·simp only[go_sem,simprocAttr]<;>rfl
 ·intro i hi' _
  rcases aa4 i S.length with hlt|hge
  ·obtain⟨s,hs⟩:=bF hlt
   have hm:=aa3 hs
   have hw:=br hlt hS.1
   have hf:=eW (kg u c x y) v hs
   have h20:=fun H=>VA (n+4) H s.C s.f c (hS.2 s hm)
   have h42:=fun H=>SF (n+5) H s x y (hv s hm) hi
   have hyy:=fun v X=>hy v s X hm
   simp only[go_sem,simprocAttr,hlt,hs,h20,hf,kg,EJ]
   cases hc:decide (c∈s.C)with
   |false=>
    simp only[go_sem,simprocAttr,hw,hf,kg,EJ,hc,abk,abE,if_false]
    exact⟨hlt,rfl,trivial⟩
   |true=>
    simp only[go_sem,simprocAttr,h42,hc,abo]
    cases ho:Fp s x y with
    |false=>
     simp only[go_sem,simprocAttr,hw,hf,kg,EJ,hc,ho,abo,abE,if_false]
     exact⟨hlt,rfl,trivial⟩
    |true=>
     simp only[go_sem,simprocAttr,hw,hf,kg,EJ,hc,ho,hyy,abo,if_true]
     exact⟨hlt,rfl,trivial⟩
  ·have hlt:¬i<S.length:=by omega
   have ht:S.take i=S:=abu hge
   simp only[go_sem,simprocAttr,hlt,ht]
theorem SW(m:Nat)(H:ae)(N P W g1 g2 g3 ex no th S f1 F f2)(a c x y:Int)(hN:N.length≤maxLen)(hP:P.length≤maxLen)(hW:W.length≤maxLen)(hS:tZ S)(hF:F.length≤maxLen) :
 aa T (m+12) (.fn 210) [G.st N P W g1 g2 g3 ex no th,sp S f1 F f2,aew a,aew c,aew x,aew y] H=
  some (.bk [aew (V3 (G.eJ N P W ex no th&&ji S F) (dQ N.length a) (bP c&&mH x y) (yS (zm N P W ex no th a.toNat) S c x y)),aew (E3 (G.eJ N P W ex no th&&ji S F) (dQ N.length a) (bP c&&mH x y))],H):=by
 refine ab Wf (by rfl) ?_
 have h44:=fun H=>G.IY (m+5) H N P W g1 g2 g3 ex no th hN hP hW
 have h12:=fun H=>XP (m+4) H S F f1 f2 hS hF
 simp only[NG,ah,go_sem,simprocAttr,h44]
 cases hok:G.eJ N P W ex no th with
 |false=>simp only[go_sem,simprocAttr,V3,E3,abk]
 |true=>
  simp only[go_sem,simprocAttr,h12]
  cases hck:ji S F with
  |false=>simp only[go_sem,simprocAttr,V3,E3,abk,abt]
  |true=>
   cases hin:dQ N.length a with
   |false=>
    rcases Ap hin with q|⟨q,q'⟩
    ·simp only[go_sem,simprocAttr,q,V3,E3,G.aL,abo,abk,abt]
    ·simp only[go_sem,simprocAttr,q,q',V3,E3,G.aL,abo,abk,abt]
   |true=>
    obtain⟨k,rfl,hk⟩:=Cp.1 hin
    obtain⟨q,q'⟩:=GR hk
    simp only[go_sem,simprocAttr,q,q',G.aL,vN,Ey]
    cases hc:bP c with
    |false=>simp only[go_sem,simprocAttr,V3,E3,abo,abk,abt]
    |true=>
     simp only[go_sem,simprocAttr,Ey]
     cases hi:mH x y with
     |false=>simp only[go_sem,simprocAttr,V3,E3,abo,abk,abt]
     |true=>
      have hv:∀s∈S,rf s.fU s.fr s.to=true:=fun s hs=>xZ (yA hck s hs)
      obtain⟨p,hp⟩:=bF hk
      have hnd:G.nd N k=p:=by simp only[G.nd,abA,hp,acj]
      have h47:=fun H (s:Src)=>G.TL m H N P W g1 g2 g3 ex no th s.a s.b s.p p.1 p.2 hN hP hW
      simp only[G.HT]at h47
      simp only[go_sem,simprocAttr,U1]
      refine G.jh _ (Vf (m+4) _ _ _ _ (fun v=>.box [aew v]) (fun v s=>bj (v+zm N P W ex no th k s)) f1 f2 S F c x y hS hv hi ?_ 0) ?_
      ·intro v s X hs
       refine nL rfl rfl ?_
       simp only[go_sem,simprocAttr,hp,hk,h47,zm,hnd]
      ·simp only[go_sem,simprocAttr,V3,E3,yS,abo]
theorem LB(n:Nat)(H:ae)(N P W g1 g2 g3 ex no th S f1 F f2)(a b:Int)(hN:N.length≤maxLen)(hW:W.length≤maxLen)(hS:tZ S)(hF:F.length≤maxLen) :
 aa T (n+7) (.fn 151) [G.st N P W g1 g2 g3 ex no th,sp S f1 F f2,aew a,aew b] H=
  some (aew (qY (G.eJ N P W ex no th&&ji S F) (dQ N.length a&&dQ N.length b)),H):=by
 refine ab RR (by rfl) ?_
 have h78:=fun H=>G.J7 n H N P W g1 g2 g3 ex no th hW hN
 have h13:=fun H=>Vo (n+3) H S F f1 f2 hS hF
 simp only[Mx,ah,go_sem,simprocAttr,h78]
 cases hok:G.eJ N P W ex no th with
 |false=>simp only[go_sem,simprocAttr,qY,abk]
 |true=>
  simp only[go_sem,simprocAttr,h13]
  cases hck:ji S F with
  |false=>simp only[go_sem,simprocAttr,qY,abo]
  |true=>
   simp only[go_sem,simprocAttr,G.aL,abo]
   repeat' (with_reducible refine aA (fun _=>?_) (fun _=>?_)<;>simp only[*,go_sem,simprocAttr,G.aL])
   all_goals (clear h78 h13;refine congrArg some (congrArg (SV.int .i64) ?_);simp only[qY,abb,dQ];simp only[aaX,aa0]at *;grind)
theorem QH(n:Nat)(H:ae)(N P W g1 g2 g3 ex no th S f1 F f2)(a c x y:Int)(hN:N.length≤maxLen)(hW:W.length≤maxLen)(hS:tZ S)(hF:F.length≤maxLen) :
 aa T (n+8) (.fn 149) [G.st N P W g1 g2 g3 ex no th,sp S f1 F f2,aew a,aew c,aew x,aew y] H=
  some (.bk [aew (V3 (G.eJ N P W ex no th&&ji S F) (dQ N.length a) (bP c&&mH x y) (yS (zm N P W ex no th a.toNat) S c x y)),aew (E3 (G.eJ N P W ex no th&&ji S F) (dQ N.length a) (bP c&&mH x y))],H):=by
 refine ab RL (by rfl) ?_
 have h49:=fun H=>LB n H N P W g1 g2 g3 ex no th S f1 F f2 a a hN hW hS hF
 simp only[abn]at h49
 simp only[Lt,ah,go_sem,simprocAttr,h49]
 cases hok:G.eJ N P W ex no th&&ji S F with
 |false=>simp only[go_sem,simprocAttr,V3,E3,qY,abk]
 |true=>
  cases hin:dQ N.length a with
  |false=>simp only[go_sem,simprocAttr,V3,E3,qY,abo,abk]
  |true=>
   obtain⟨k,rfl,hk⟩:=Cp.1 hin
   simp only[go_sem,simprocAttr,qY,FW]
   cases hc:bP c with
   |false=>simp only[go_sem,simprocAttr,V3,E3,abo,abk,abt]
   |true=>
    simp only[go_sem,simprocAttr,FJ]
    cases hi:mH x y with
    |false=>simp only[go_sem,simprocAttr,V3,E3,abo,abk,abt]
    |true=>
     obtain⟨hok,hck⟩:=adm.1 hok
     obtain⟨p,hp⟩:=bF hk
     have hnd:G.nd N k=p:=by simp only[G.nd,abA,hp,acj]
     simp only[go_sem,simprocAttr]
     refine aY (fun i=>([(2,aew k),(3,aew c),(4,aew x),(5,aew y),(6,.ptr 0 0 0 0),(7,.ptr 1 0 0 0),(15,aew ((S.take i).foldl (kg (fun v s=>bj (v+zm N P W ex no th k s)) c x y) 0)),(16,aew i)],
      ⟨[.box [.ay 2 (G.cW N) g1,.ay 1 (G.cM P) g2,.ay 5 (G.ey W) g3,aew ex,aew no,aew th],.box [.ay 7 (c0 S) f1,.ay 6 (cZ F) f2]],[],0⟩)) (fun _=>True) S.length ?_ trivial ?_
     ·simp only[go_sem,simprocAttr]<;>rfl
     ·intro i hi' _
      rcases aa4 i S.length with hlt|hge
      ·obtain⟨s,hs⟩:=bF hlt
       have hm:=aa3 hs
       have hw:=br hlt hS.1
       have hf:=eW (kg (fun v s=>bj (v+zm N P W ex no th k s)) c x y) 0 hs
       have h51:=fun H=>Q0 (n+6) H s.C s.f c (hS.2 s hm)
       have h15:=fun H=>Vy (n+4) H s x y (hS.2 s hm)
       have hon:Jd s x y=Fp s x y:=by simp only[Jd,yA hck s hm,hi,abo]
       have hE:zm N P W ex no th k s=G.mv (G.atR W ex s.a s.b s.p p.1 p.2) (G.eJ N P W ex no th) (G.j0 s.a s.b s.p p.1 p.2):=by simp only[zm,hnd]
       have h52:=fun H=>G.Ur n H N P W g1 g2 g3 ex no th s.a s.b s.p p.1 p.2 hN hW
       rw[←hE]at h52
       simp only[go_sem,simprocAttr,hlt,hs,h51,hf,kg,EJ]
       cases hcc:decide (c∈s.C)with
       |false=>
        simp only[go_sem,simprocAttr,hw,hf,kg,EJ,hcc,abk,abE,if_false]
        exact⟨hlt,rfl,trivial⟩
       |true=>
        simp only[go_sem,simprocAttr,h15,hon,hcc,abo]
        cases ho:Fp s x y with
        |false=>
         simp only[go_sem,simprocAttr,hw,hf,kg,EJ,hcc,ho,abo,abE,if_false]
         exact⟨hlt,rfl,trivial⟩
        |true=>
         simp only[go_sem,simprocAttr,hw,hf,kg,EJ,hcc,ho,hp,hk,h52,abo,if_true]
         exact⟨hlt,rfl,trivial⟩
      ·have hlt:¬i<S.length:=by omega
       have ht:S.take i=S:=abu hge
       simp only[go_sem,simprocAttr,hlt,ht,V3,E3,yS,abo]
theorem MN(n:Nat)(H:ae)(w:Fd)(a b:Int):aa T (n+1) (.fn 225) [.agg (Dy w),aew a,aew b] H=some (.bool (NB a b w),H):=by
 refine ab R3 (by rfl) ?_
 simp only[Jl,ah,go_sem,simprocAttr]
 repeat' (with_reducible refine aA (fun _=>?_) (fun _=>?_)<;>simp only[*,go_sem,simprocAttr])
 all_goals (simp only[NB];grind)
theorem SP(n:Nat)(X0 X5 X6:aK)(w:Fd)(a b c t:Int):aa T (n+2) (.fn 224) [.agg (Dy w),.ptr 1 0 0 0,.ptr 2 0 0 0,.ptr 3 0 0 0,.ptr 4 0 0 0] ⟨[X0,.box [aew a],.box [aew b],.box [aew c],.box [aew t],X5,X6],[],0⟩=
 some (.bool (tG a b c t w),⟨[X0,.box [aew a],.box [aew b],.box [aew c],.box [aew t],X5,X6],[],0⟩):=by
 refine bm Qm (by rfl) ?_
 simp only[Kh,go_sem,simprocAttr,MN]
 repeat' (with_reducible refine aA (fun _=>?_) (fun _=>?_)<;>simp only[*,go_sem,simprocAttr,MN])
 all_goals (simp only[tG];grind)
theorem Se(n:Nat)(X0 X1 X2 X3 X4:aK)(id:Nat)(caps:List SV)(p:Fd→Bool)(z2:Nat)(F:List Fd)(f2:Bool)(hz:z2=6∨F=[])(hF:F.length≤maxLen)(hr:SV.refs.aJ caps≤5)(hr0:(SV.refs.aJ caps==0)=false)
 (hc:∀w∈F,∀X5 X6,aa T n (.fn id) (.agg (Dy w)::caps) ⟨[X0,X1,X2,X3,X4,X5,X6],[],0⟩=some (.bool (p w),⟨[X0,X1,X2,X3,X4,X5,X6],[],0⟩)) :
 aa T (n+1) (.fn 226) [.agg [.fn id caps],.ay z2 (cZ F) f2] ⟨[X0,X1,X2,X3,X4],[],0⟩=some (aew (vV p F),⟨[X0,X1,X2,X3,X4],[],0⟩):=by
 refine bm Qg (by simp only[eI,SV.refs.aJ,SV.refs,Gv,acb,acy,ac9,adJ];exact hr0) ?_
 simp only[Gv,go_sem,simprocAttr]
 refine aY (fun i=>([(2,.ptr 5 0 0 0),(5,aew ((F.take i).foldl (wq p) 1000)),(8,.ay z2 (cZ F) f2),(9,aew F.length),(10,aew i)],⟨[X0,X1,X2,X3,X4,.box [.fn id caps]],[],0⟩)) (fun _=>True) F.length ?_ trivial ?_
 ·simp only[go_sem,simprocAttr]<;>rfl
 ·intro i hi _
  rcases aa4 i F.length with hlt|hge
  ·obtain⟨w,hw⟩:=bF hlt
   have hm:=aa3 hw
   have hz6:z2=6:=hz.resolve_right (by rintro rfl;simp at hlt)
   subst hz6
   have hs:=br hlt hF
   have hf:=eW (wq p) 1000 hw
   have hcw:=hc w hm
   cases hp:p w with
   |true=>
    simp only[go_sem,simprocAttr,hlt,hw,hs,hf,hcw,hp,wq,if_true]
    exact⟨by first|trivial|exact hlt,rfl,trivial⟩
   |false=>
    simp only[go_sem,simprocAttr,hlt,hw,hs,hf,hcw,hp,wq,abE,if_false]
    exact⟨by first|trivial|exact hlt,rfl,trivial⟩
  ·have hlt:¬i<F.length:=by omega
   have ht:F.take i=F:=abu hge
   simp only[go_sem,simprocAttr,hlt,ht,vV]
theorem VX(n:Nat)(H:ae)(z1:Nat)(S:List Src)(f1:Bool)(z2:Nat)(F:List Fd)(f2:Bool)(a b c t:Int)(hz:z2=6∨F=[])(hF:F.length≤maxLen) :
 aa T (n+4) (.fn 209) [IH z1 S f1 z2 F f2,aew a,aew b,aew c,aew t] H=some (aew (vV (tG a b c t) F),H):=by
 refine ab QD (by rfl) ?_
 have h62:=Se (id:=224) (n+2) (.box [.ay z1 (c0 S) f1,.ay z2 (cZ F) f2]) (.box [aew a]) (.box [aew b]) (.box [aew c]) (.box [aew t]) [.ptr 1 0 0 0,.ptr 2 0 0 0,.ptr 3 0 0 0,.ptr 4 0 0 0] (tG a b c t) z2 F f2 hz hF
  (by simp[SV.refs,SV.refs.aJ]) (by simp[SV.refs,SV.refs.aJ]) (fun w _ X5 X6=>SP n _ X5 X6 w a b c t)
 simp only[Kp,ah,go_sem,simprocAttr,h62]
theorem Sb(n:Nat)(H:ae)(t:Int):aa T (n+1) (.fn 152) [aew t] H=some (.bool (vT t),H):=by
 refine ab Sq (by rfl) ?_
 simp only[J2,ah,go_sem,simprocAttr]
 repeat' (with_reducible refine aA (fun _=>?_) (fun _=>?_)<;>simp only[*,go_sem,simprocAttr])
 all_goals (simp only[vT];grind)
theorem Tb(n:Nat)(H:ae)(z1:Nat)(S:List Src)(f1:Bool)(z2:Nat)(F:List Fd)(f2:Bool)(a b c t:Int)(hz:z2=6∨F=[])(hF:F.length≤maxLen) :
 aa T (n+1) (.fn 153) [IH z1 S f1 z2 F f2,aew a,aew b,aew c,aew t] H=some (aew (vV (tG a b c t) F),H):=by
 refine ab Sw (by rfl) ?_
 simp only[JO,ah,go_sem,simprocAttr]
 refine aY (fun i=>([(1,aew a),(2,aew b),(3,aew c),(4,aew t),(5,.ptr 0 0 0 0),(11,aew ((F.take i).foldl (wq (tG a b c t)) 1000)),(12,aew i)],⟨[.box [.ay z1 (c0 S) f1,.ay z2 (cZ F) f2]],[],0⟩)) (fun _=>True) F.length ?_ trivial ?_
 ·simp only[go_sem,simprocAttr]<;>rfl
 ·intro i hi _
  rcases aa4 i F.length with hlt|hge
  ·obtain⟨w,hw⟩:=bF hlt
   have hz6:z2=6:=hz.resolve_right (by rintro rfl;simp at hlt)
   subst hz6
   have hs:=br hlt hF
   have hf:=eW (wq (tG a b c t)) 1000 hw
   simp only[go_sem,simprocAttr,hlt,hw,hs]
   repeat' (with_reducible refine kU (fun _=>?_) (fun _=>?_)<;>simp only[*,go_sem,simprocAttr,hlt,hw,hs])
   all_goals
    refine⟨by first|trivial|exact hlt,?_,trivial⟩
    try rw[hf]
    first
    |(rw[E4 (by simp only[tG,NB];grind)];rfl)
    |(rw[Ht (by simp only[tG,NB];grind)];rfl)
  ·have hlt:¬i<F.length:=by omega
   have ht:F.take i=F:=abu hge
   simp only[go_sem,simprocAttr,hlt,ht,vV]
theorem U3(n:Nat)(H:ae)(N P W g1 g2 g3 ex no th)(z1:Nat)(S:List Src)(f1:Bool)(z2:Nat)(F:List Fd)(f2:Bool)(a b:Int)(hN:N.length≤maxLen)(hP:P.length≤maxLen)(hW:W.length≤maxLen)(hz1:z1=7∨S=[])(hz:z2=6∨F=[])(hS:tZ S)(hF:F.length≤maxLen) :
 aa T (n+11) (.fn 207) [G.st N P W g1 g2 g3 ex no th,IH z1 S f1 z2 F f2,aew a,aew b] H=
  some (.bk [aew (G.mv (G.ri (G.atR W ex) N P a b) (G.eJ N P W ex no th&&ji S F) (G.nZ N a b)),aew (G.tE (G.eJ N P W ex no th&&ji S F) (G.nZ N a b) 7)],H):=by
 refine ab US (by rfl) ?_
 have h44:=fun H=>G.IY (n+4) H N P W g1 g2 g3 ex no th hN hP hW
 have h12:=fun H=>FY (n+3) H S F f1 f2 z1 z2 hz1 hz hS hF
 have h81:=fun H=>G.SJ n H N P W g1 g2 g3 ex no th a b hN hP hW
 rw[G.HS]at h81
 simp only[JF,ah,go_sem,simprocAttr,h44]
 cases hok:G.eJ N P W ex no th with
 |false=>simp only[go_sem,simprocAttr,G.mv,G.tE,abk]
 |true=>
  rw[hok]at h81
  simp only[go_sem,simprocAttr,h12]
  cases hck:ji S F with
  |false=>simp only[go_sem,simprocAttr,G.mv,G.tE,abk,abt]
  |true=>simp only[go_sem,simprocAttr,h81,abn]
theorem QW(n:Nat)(H:ae)(N P W g1 g2 g3 ex no th)(z1:Nat)(S:List Src)(f1:Bool)(z2:Nat)(F:List Fd)(f2:Bool)(a b c t:Int)(hN:N.length≤maxLen)(hP:P.length≤maxLen)(hW:W.length≤maxLen)(hz1:z1=7∨S=[])(hz:z2=6∨F=[])(hS:tZ S)(hF:F.length≤maxLen) :
 aa T (n+12) (.fn 184) [G.st N P W g1 g2 g3 ex no th,IH z1 S f1 z2 F f2,aew a,aew b,aew c,aew t] H=
  some (.bk [aew (V3 (G.eJ N P W ex no th&&ji S F) (G.nZ N a b) (bP c&&vT t) (CR (G.ri (G.atR W ex) N P a b) (vV (tG a b c t) F))),aew (E3 (G.eJ N P W ex no th&&ji S F) (G.nZ N a b) (bP c&&vT t))],H):=by
 refine ab Vr (by rfl) ?_
 have h57:=fun H=>U3 n H N P W g1 g2 g3 ex no th z1 S f1 z2 F f2 a b hN hP hW hz1 hz hS hF
 have h54:=fun H=>VX (n+7) H z1 S f1 z2 F f2 a b c t hz hF
 simp only[Ng,ah,go_sem,simprocAttr,h57]
 cases hok:G.eJ N P W ex no th&&ji S F with
 |false=>simp only[go_sem,simprocAttr,lK,E3,G.mv,G.tE,abk]
 |true=>
  cases hin:G.nZ N a b with
  |false=>simp only[go_sem,simprocAttr,lK,E3,G.mv,G.tE,abt]
  |true=>
   obtain⟨hok,hck⟩:=adm.1 hok
   have hb:=(G.wK hok hin).2
   have hr:=BP (tG a b c t) (Be hck)
   have h58:=fun H=>G.LU (n+9) H (G.ri (G.atR W ex) N P a b) (vV (tG a b c t) F)
   have hsc:G.xi (G.ri (G.atR W ex) N P a b) (vV (tG a b c t) F)=true:=by
    simp only[G.xi,hb,abo,aa1,aaX];exact hr
   have hE:G.O1 (G.ri (G.atR W ex) N P a b) (vV (tG a b c t) F)=0:=by simp only[G.O1,hsc,if_true]
   have hV:G.HF (G.ri (G.atR W ex) N P a b) (vV (tG a b c t) F)=CR (G.ri (G.atR W ex) N P a b) (vV (tG a b c t) F):=by simp only[G.HF,hsc,if_true,CR]
   rw[hE,hV]at h58
   simp only[go_sem,simprocAttr,G.mv,G.tE,abn,vN]
   cases hc:bP c with
   |false=>simp only[go_sem,simprocAttr,lK,E3,abk]
   |true=>
    cases ht:vT t with
    |false=>
     rcases J9 ht with q|⟨q,q'⟩
     ·simp only[go_sem,simprocAttr,lK,E3,abo,q]
     ·simp only[go_sem,simprocAttr,lK,E3,abo,q,q']
    |true=>
     obtain⟨q,q'⟩:=Gs ht
     simp only[go_sem,simprocAttr,lK,E3,abo,q,q',h54,h58]
theorem Ni(n:Nat)(H:ae)(N P W g1 g2 g3 ex no th)(S:List Src)(f1:Bool)(F:List Fd)(f2:Bool)(a b c t:Int)(hN:N.length≤maxLen)(hW:W.length≤maxLen)(hS:tZ S)(hF:F.length≤maxLen) :
 aa T (n+8) (.fn 102) [G.st N P W g1 g2 g3 ex no th,sp S f1 F f2,aew a,aew b,aew c,aew t] H=
  some (.bk [aew (V3 (G.eJ N P W ex no th&&ji S F) (G.nZ N a b) (bP c&&vT t) (CR (G.ri (G.atR W ex) N P a b) (vV (tG a b c t) F))),aew (E3 (G.eJ N P W ex no th&&ji S F) (G.nZ N a b) (bP c&&vT t))],H):=by
 refine ab S4 (by rfl) ?_
 have h49:=fun H=>LB n H N P W g1 g2 g3 ex no th S f1 F f2 a b hN hW hS hF
 have h59:=fun H=>G.Z0 n H N P W g1 g2 g3 ex no th a b hN hW
 have h56:=fun H=>Tb (n+6) H 7 S f1 6 F f2 a b c t (.inl rfl) hF
 rw[in2]at h49
 simp only[K0,ah,go_sem,simprocAttr,h49]
 cases hok:G.eJ N P W ex no th&&ji S F with
 |false=>simp only[go_sem,simprocAttr,lK,E3,qY,abk]
 |true=>
  cases hin:G.nZ N a b with
  |false=>simp only[go_sem,simprocAttr,lK,E3,qY]
  |true=>
   obtain⟨hok,hck⟩:=adm.1 hok
   simp only[hok,hin,G.mv,G.tE,abn,abb]at h59
   simp only[go_sem,simprocAttr,qY,FW]
   cases hc:bP c with
   |false=>simp only[go_sem,simprocAttr,lK,E3,abk]
   |true=>
    simp only[go_sem,simprocAttr,lK,E3,Sb,abo]
    cases ht:vT t with
    |false=>simp only[go_sem,simprocAttr]
    |true=>simp only[go_sem,simprocAttr,h59,h56,CR]
end U
end Go.Sh
