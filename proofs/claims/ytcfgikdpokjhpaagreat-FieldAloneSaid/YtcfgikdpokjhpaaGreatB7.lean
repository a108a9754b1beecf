/- A part of the proof: texts K19gx, K19ux. -/
import Derived.Test.YtcfgikdpokjhpaaGreatB6
namespace Go.Sh
set_option linter.unusedSectionVars false
set_option linter.unnecessarySimpa false
set_option linter.unusedSimpArgs false
set_option linter.unusedVariables false
set_option maxRecDepth 100000
set_option maxHeartbeats 4000000
namespace G
theorem WK(n:Nat)(H:ab)(a b c d:Int):aa T (n+1) (.fn 249) [pt a b,pt c d] H=
 some (af5 (bb (bb (bb (a-c)*bb (a-c))+bb (bb (b-d)*bb (b-d)))),H):=by
 refine ae Wp (by rfl) ?_
 simp only[MT,ah,go_sem,Nat.reduceAdd,Nat.reduceBEq]
theorem UN(n:Nat)(H:ab)(a b c d:Int):aa T (n+1) (.fn 170) [pt a b,pt c d] H=
 some (af5 (bb (bb (bb (a-c)*bb (a-c))+bb (bb (b-d)*bb (b-d)))),H):=by
 refine ae W7 (by rfl) ?_
 simp only[LP,ah,go_sem,Nat.reduceAdd,Nat.reduceBEq]
theorem s80(n:Nat)(H:ab)(a:Int):aa T (n+1) (.fn 80) [af5 a] H=some (.bool false,H):=by
 refine ae e80 (by rfl) ?_
 simp only[Zp,ah,go_sem,Nat.reduceAdd,Nat.reduceBEq]
theorem Zy(n:Nat)(H:ab)(a b:Int):aa T (n+2) (.fn 44) [af5 a,af5 b] H=some (af5 (p8 a b),H):=by
 refine ae e44 (by rfl) ?_
 simp only[ZB,ah,go_sem,Nat.reduceAdd,Nat.reduceBEq,s80]
 repeat' (with_reducible refine aD (fun _=>?_) (fun _=>?_)<;>simp only[*,go_sem,Nat.reduceAdd,Nat.reduceBEq])
 all_goals simp_all [p8]
 all_goals omega
theorem Ja(n:Nat)(H:ab)(a b c d x y:Int):aa T (n+3) (.fn 254) [pt a b,pt c d,pt x y] H=some (af5 (fE a b c d x y),H):=by
 refine ae UF (by rfl) ?_
 simp only[MI,ah,go_sem,Nat.reduceAdd,Nat.reduceBEq,Zy]
 rfl
theorem LF(n:Nat)(H:ab)(a b c d x y:Int):aa T (n+1) (.fn 193) [pt a b,pt c d,pt x y] H=some (af5 (kn a b c d x y),H):=by
 refine ae S1 (by rfl) ?_
 simp only[Pn,ah,go_sem,Nat.reduceAdd,Nat.reduceBEq]
 repeat' (with_reducible refine aD (fun _=>?_) (fun _=>?_)<;>simp only[*,go_sem,Nat.reduceAdd,Nat.reduceBEq])
 all_goals (simp only[acr,acx]at *;simp only[kn];congr 2;(repeat' split)<;>omega)
theorem UZ(n:Nat)(H:ab)(p q a b c d:Int):aa T (n+1) (.fn 255) [pt p q,pt a b,pt c d] H=some (.bool (dG p q a b c d),H):=by
 refine ae TJ (by rfl) ?_
 simp only[Qn,ah,go_sem,Nat.reduceAdd,Nat.reduceBEq]
 repeat' (with_reducible refine aD (fun _=>?_) (fun _=>?_)<;>simp only[*,go_sem,Nat.reduceAdd,Nat.reduceBEq])
 all_goals (simp only[acr,acx]at *;simp only[dG];congr 2;rw[adz];simp only[acw,adw,acr,adh,false_iff,true_iff];omega)
theorem O0(n:Nat)(H:ab)(p q a b c d:Int):aa T (n+1) (.fn 194) [pt a b,pt c d,pt p q] H=some (.bool (dG p q a b c d),H):=by
 refine ae Wj (by rfl) ?_
 simp only[O3,ah,go_sem,Nat.reduceAdd,Nat.reduceBEq]
 repeat' (with_reducible refine aD (fun _=>?_) (fun _=>?_)<;>simp only[*,go_sem,Nat.reduceAdd,Nat.reduceBEq])
 all_goals (simp only[acr,acx]at *;simp only[dG];congr 2;rw[adz];simp only[acw,adw,acr,adh,false_iff,true_iff];omega)
theorem PE(n:Nat)(H:ab)(p q a b c d:Int):aa T (n+4) (.fn 253) [pt p q,pt a b,pt c d] H=some (.bool (Iu p q a b c d),H):=by
 refine ae SU (by rfl) ?_
 simp only[LQ,ah,go_sem,Nat.reduceAdd,Nat.reduceBEq,Nat.reduceLeDiff]
 repeat' (with_reducible refine aD (fun _=>?_) (fun _=>?_)<;>simp only[*,go_sem,Nat.reduceAdd,Nat.reduceBEq,Nat.reduceLeDiff,Ja,UZ])
 all_goals (simp only[Iu];grind)
theorem XM(n:Nat)(H:ab)(a b c d x y z t f:Int):aa T (n+5) (.fn 252) [pt a b,pt c d,wl x y z t f] H=some (.bool (qA a b c d x y z t),H):=by
 refine ae Wk (by rfl) ?_
 simp only[MG,ah,go_sem,Nat.reduceAdd,Nat.reduceBEq,Nat.reduceLeDiff,PE,Ja]
 repeat' (with_reducible refine aD (fun _=>?_) (fun _=>?_)<;>simp only[*,go_sem,Nat.reduceAdd,Nat.reduceBEq,Nat.reduceLeDiff,PE,Ja])
 all_goals (simp only[qA];grind)
theorem Tw(n:Nat)(H:ab)(a b c d x y z t f:Int):aa T (n+2) (.fn 171) [pt a b,pt c d,wl x y z t f] H=some (.bool (qF a b c d x y z t),H):=by
 refine ae Tf (by rfl) ?_
 simp only[Nk,ah,go_sem,Nat.reduceAdd,Nat.reduceBEq,Nat.reduceLeDiff,LF,O0]
 repeat' (with_reducible refine aD (fun _=>?_) (fun _=>?_)<;>simp only[*,go_sem,Nat.reduceAdd,Nat.reduceBEq,Nat.reduceLeDiff,LF,O0])
 all_goals (simp only[qF];grind)
theorem Nd(n:Nat)(H:ab)(a:Int):aa T (n+1) (.fn 205) [af5 a] H=some (.bool (cM a),H):=by
 refine ae T6 (by rfl) ?_
 simp only[LN,ah,go_sem,simprocAttr]
 repeat' (with_reducible refine aD (fun _=>?_) (fun _=>?_)<;>simp only[*,go_sem,simprocAttr])
 all_goals (simp only[cM];grind)
theorem N4(n:Nat)(H:ab)(p f:Int):aa T (n+2) (.fn 208) [af5 p,af5 f] H=some (.bc [af5 (Jg p f),af5 (R0 p f)],H):=by
 refine ae XC (by rfl) ?_
 simp only[Nv,ah,go_sem,simprocAttr,Nd]
 repeat' (with_reducible refine aD (fun _=>?_) (fun _=>?_)<;>simp only[*,go_sem,simprocAttr])
 all_goals (simp only[Jg,R0,yi];grind)
theorem XQ(n:Nat)(H:ab)(N P W f1 f2 f3 ex no th a b p c d)(hW:W.length≤maxLen):aa T (n+3) (.fn 125) [st N P W f1 f2 f3 ex no th,pt a b,af5 p,pt c d] H=some (af5 (atR W ex a b p c d),H):=by
 refine ae VW (by rfl) ?_
 have hm:=HB a b c d
 simp only[NN,ah,go_sem,simprocAttr,UN,C7,HE,hm]
 with_reducible refine aD (fun hex=>?_) (fun hex=>?_)
 all_goals
  simp only[go_sem,simprocAttr,hm]
  refine ba (fun i=>([(4,.ptr 0 0 0 0),(5,.ptr 1 0 0 0),(7,.ptr 2 0 0 0),(10,af5 ((W.take i).foldl (jf a b c d) (kU ex a b p c d))),(11,af5 i)],⟨[.box [.ao 2 (dt N) f1,.ao 1 (cY P) f2,.ao 5 (eX W) f3,af5 ex,af5 no,af5 th],.box [af5 a,af5 b],.box [af5 c,af5 d]],[],0⟩)) (fun _=>True) W.length ?_ trivial ?_
  ·simp only[acr,acx]at hex
   simp only[go_sem,simprocAttr,kU,hex,if_true,if_false]
   rfl
  ·intro i hi _
   rcases acz i W.length with hlt|hge
   ·obtain⟨w,hw⟩:∃w,W[i]?=some w:=⟨W[i],acK hlt⟩
    have hs:=lE hlt hW
    have hf:=ij (jf a b c d) (kU ex a b p c d) hw
    simp only[go_sem,simprocAttr,hlt,hw,Tw,hf,jf]
    with_reducible refine oO (fun hc=>?_) (fun hc=>?_)
    ·simp only[go_sem,simprocAttr,hlt,hw,hs,hc,hf,jf,if_true]
     exact⟨trivial,rfl,trivial⟩
    ·simp only[go_sem,simprocAttr,hlt,hw,hs,hc,hf,jf,adh,if_false]
     exact⟨trivial,rfl,trivial⟩
   ·have hlt:¬i<W.length:=by omega
    have ht:W.take i=W:=ac1 hge
    simp only[go_sem,simprocAttr,hlt,ht,atR]
theorem UM(n:Nat)(bl es ro)(N P W f1 f2 f3 ex no th a b c d):aa T (n+1) (.fn 250) [st N P W f1 f2 f3 ex no th,pt a b,pt c d] ⟨bl,es,ro⟩=
 some (.fn 251 [.ptr bl.length 0 0 0,.ptr (bl.length+1) 0 0 0,.ptr (bl.length+1+1) 0 0 0],⟨bl++[.box [.ao 2 (dt N) f1,.ao 1 (cY P) f2,.ao 5 (eX W) f3,af5 ex,af5 no,af5 th],.box [af5 a,af5 b],.box [af5 c,af5 d]],es,ro⟩):=by
 refine bm Wu (by rfl) ?_
 simp only[Nj,go_sem,simprocAttr,aco,acn]
theorem XT(n:Nat)(q:fj)(X0 X1 X3:aC)(X2:Int→aC)(f1 f2 f3:Bool)(N P W)(ex no th a b c d:Int)(hW:W.length≤maxLen)
 (hy:∀(p:Int) (w:Wl) (X:aC),aa T (n+6) (.fP 7) [.agg (Si w)] ⟨[X0,X1,X2 p,X3,.box [.ao 2 (dt N) f1,.ao 1 (cY P) f2,.ao 5 (eX W) f3,af5 ex,af5 no,af5 th],.box [af5 a,af5 b],.box [af5 c,af5 d],.loop q .ready .normal,X],[],0⟩=
  some (.bool true,⟨[X0,X1,X2 (Jg p w.f),X3,.box [.ao 2 (dt N) f1,.ao 1 (cY P) f2,.ao 5 (eX W) f3,af5 ex,af5 no,af5 th],.box [af5 a,af5 b],.box [af5 c,af5 d],.loop q .ready .normal,X],[],0⟩)) (p:Int) :
 aa T (n+7) (.fn 251) [.fP 7,.ptr 4 0 0 0,.ptr 5 0 0 0,.ptr 6 0 0 0] ⟨[X0,X1,X2 p,X3,.box [.ao 2 (dt N) f1,.ao 1 (cY P) f2,.ao 5 (eX W) f3,af5 ex,af5 no,af5 th],.box [af5 a,af5 b],.box [af5 c,af5 d],.loop q .ready .normal],[],0⟩=
  some (.bc [],⟨[X0,X1,X2 (W.foldl (my a b c d) p),X3,.box [.ao 2 (dt N) f1,.ao 1 (cY P) f2,.ao 5 (eX W) f3,af5 ex,af5 no,af5 th],.box [af5 a,af5 b],.box [af5 c,af5 d],.loop q .ready .normal],[],0⟩):=by
 refine bm Tt (by rfl) ?_
 simp only[OD,go_sem,simprocAttr]
 refine ba (fun i=>([(0,.fP 7),(2,.ptr 5 0 0 0),(3,.ptr 6 0 0 0),(8,.ao 5 (eX W) f3),(9,af5 W.length),(10,af5 i)],⟨[X0,X1,X2 ((W.take i).foldl (my a b c d) p),X3,.box [.ao 2 (dt N) f1,.ao 1 (cY P) f2,.ao 5 (eX W) f3,af5 ex,af5 no,af5 th],.box [af5 a,af5 b],.box [af5 c,af5 d],.loop q .ready .normal],[],0⟩)) (fun _=>True) W.length ?_ trivial ?_
 ·simp only[go_sem,simprocAttr]
  rfl
 ·intro i hi _
  rcases acz i W.length with hlt|hge
  ·obtain⟨w,hw⟩:∃w,W[i]?=some w:=⟨W[i],acK hlt⟩
   have hs:=lE hlt hW
   have hf:=ij (my a b c d) p hw
   simp only[go_sem,simprocAttr,hlt,hw,XM,hf,my]
   with_reducible refine oO (fun hc=>?_) (fun hc=>?_)
   ·simp only[go_sem,simprocAttr,hlt,hw,hs,hc,hf,my,if_true,hy]
    exact⟨trivial,rfl,trivial⟩
   ·simp only[go_sem,simprocAttr,hlt,hw,hs,hc,hf,my,adh,if_false]
    exact⟨trivial,rfl,trivial⟩
  ·have hlt:¬i<W.length:=by omega
   have ht:W.take i=W:=ac1 hge
   simp only[go_sem,simprocAttr,hlt,ht]
theorem PS(n:Nat)(H:ab)(N P W f1 f2 f3 ex no th a b p c d)(hW:W.length≤maxLen):aa T (n+8) (.fn 238) [st N P W f1 f2 f3 ex no th,pt a b,af5 p,pt c d] H=some (af5 (E1 W ex a b p c d),H):=by
 refine ae SI (by rfl) ?_
 have hm:=HB a b c d
 simp only[Pk,ah,go_sem,simprocAttr,WK,C7,HE,hm]
 with_reducible refine aD (fun hex=>?_) (fun hex=>?_)
 all_goals
  simp only[go_sem,simprocAttr,hm,UM]
  refine jn _ (XT n _ _ _ _ (fun p=>.box [af5 p]) f1 f2 f3 N P W ex no th a b c d hW ?_ _) ?_
  ·intro p w X
   refine pd rfl rfl ?_
   simp only[go_sem,simprocAttr,N4]
  ·simp only[acr,acx]at hex
   simp only[go_sem,simprocAttr,E1,kU,hex,if_true,if_false]
theorem UR(n:Nat)(H:ab)(N P W f1 f2 f3 ex no th a b p c d)(hN:N.length≤maxLen)(hP:P.length≤maxLen)(hW:W.length≤maxLen) :
 aa T (n+9) (.fn 228) [st N P W f1 f2 f3 ex no th,pt a b,af5 p,pt c d] H=some (.bc [af5 (o5 (E1 W ex a b p c d) (gh N P W ex no th) (oK a b p c d)),af5 (vE (gh N P W ex no th) (oK a b p c d) 2)],H):=by
 refine ae Yb (by rfl) ?_
 have h23:=fun H=>KD (n+2) H N P W f1 f2 f3 ex no th hN hP hW
 have h46:=fun H=>PS n H N P W f1 f2 f3 ex no th a b p c d hW
 simp only[Nw,ah,go_sem,simprocAttr,h23,II,IH,h46]
 repeat' (with_reducible refine aD (fun _=>?_) (fun _=>?_)<;>simp only[*,go_sem,simprocAttr,h23,II,IH,h46])
 all_goals (clear h23 h46;simp_all [o5,vE,oK])
theorem TG(n:Nat)(H:ab)(N:List (Int×Int))(P:List Int)(W f1 f2 f3 ex no th)(x y:Nat)(hx:x<N.length)(hy:y<N.length)(hP:P.length=N.length)(hW:W.length≤maxLen) :
 aa T (n+9) (.fn 235) [st N P W f1 f2 f3 ex no th,af5 x,af5 y] H=some (af5 (p7 (E1 W ex) N P x y),H):=by
 refine ae Un (by rfl) ?_
 obtain⟨p,hp⟩:=get_some hx
 obtain⟨q,hq⟩:=get_some hy
 obtain⟨r,hr⟩:=get_some (l:=P) (i:=x) (by omega)
 have hx':x<P.length:=by omega
 have h46:=fun H=>PS n H N P W f1 f2 f3 ex no th p.1 p.2 r q.1 q.2 hW
 simp only[NZ,ah,go_sem,simprocAttr,hx,hy,hx',hp,hq,hr,h46]
 repeat' (with_reducible refine aD (fun _=>?_) (fun _=>?_)<;>simp only[*,go_sem,simprocAttr,hx,hy,hx',hp,hq,hr,h46])
 all_goals (clear h46;simp_all [p7,nd,adg])
theorem Oo(n:Nat)(H:ab)(N:List (Int×Int))(P:List Int)(W f1 f2 f3 ex no th)(x y:Int)(h:pC N x y=true)(hP:P.length=N.length)(hW:W.length≤maxLen) :
 aa T (n+9) (.fn 235) [st N P W f1 f2 f3 ex no th,af5 x,af5 y] H=some (af5 (p7 (E1 W ex) N P x y),H):=by
 rw[l5]at h
 obtain⟨⟨h1,h2⟩,h3,h4⟩:=h
 obtain⟨x',rfl⟩:=aed h1
 obtain⟨y',rfl⟩:=aed h3
 exact TG n H N P W f1 f2 f3 ex no th x' y' (by omega) (by omega) hP hW
theorem U5(n:Nat)(H:ab)(N:List (Int×Int))(P:List Int)(W f1 f2 f3 ex no th)(x y:Int)(hN:N.length≤maxLen)(hP:P.length≤maxLen)(hW:W.length≤maxLen) :
 aa T (n+10) (.fn 223) [st N P W f1 f2 f3 ex no th,af5 x,af5 y] H=some (.bc [af5 (o5 (p7 (E1 W ex) N P x y) (gh N P W ex no th) (pC N x y)),af5 (vE (gh N P W ex no th) (pC N x y) 7)],H):=by
 refine ae UX (by rfl) ?_
 have h23:=fun H=>KD (n+3) H N P W f1 f2 f3 ex no th hN hP hW
 cases hok:gh N P W ex no th with
 |false=>
  simp only[Gu,ah,go_sem,simprocAttr,h23,hok,o5,vE]
 |true=>
  cases hin:pC N x y with
  |false=>
   simp only[Gu,ah,go_sem,simprocAttr,h23,hok,o5,vE]
   repeat' (with_reducible refine aD (fun _=>?_) (fun _=>?_)<;>simp only[*,go_sem,simprocAttr])
   all_goals (exfalso;clear h23;rw[afs,ne_eq,l5]at hin;simp only[acx]at *;omega)
  |true=>
   have h55:=fun H=>Oo n H N P W f1 f2 f3 ex no th x y hin (uD hok).1 hW
   rw[l5]at hin
   have m1:decide (min x y<0)=false:=by rw[acx];omega
   have m2:decide ((N.length:Int)≤max x y)=false:=by rw[acx];omega
   simp only[Gu,ah,go_sem,simprocAttr,h23,hok,m1,m2,h55,o5,vE]
theorem s68(n:Nat)(H:ab)(N:List (Int×Int))(P:List Int)(W f1 f2 f3 ex no th)(x y:Int)(hN:N.length≤maxLen)(hW:W.length≤maxLen) :
 aa T (n+7) (.fn 68) [st N P W f1 f2 f3 ex no th,af5 x,af5 y] H=some (.bc [af5 (o5 (p7 (atR W ex) N P x y) (gh N P W ex no th) (pC N x y)),af5 (vE (gh N P W ex no th) (pC N x y) 7)],H):=by
 refine ae ZV (by rfl) ?_
 have h29:=fun H=>s75 n H N P W f1 f2 f3 ex no th hW hN
 cases hok:gh N P W ex no th with
 |false=>
  simp only[Ra,ah,go_sem,simprocAttr,h29,hok,o5,vE]
 |true=>
  cases hin:pC N x y with
  |false=>
   simp only[Ra,ah,go_sem,simprocAttr,h29,hok,o5,vE]
   repeat' (with_reducible refine aD (fun _=>?_) (fun _=>?_)<;>simp only[*,go_sem,simprocAttr])
   all_goals (exfalso;clear h29;rw[afs,ne_eq,l5]at hin;simp only[acx]at *;omega)
  |true=>
   rw[l5]at hin
   obtain⟨⟨h1,h2⟩,h3,h4⟩:=hin
   obtain⟨x',rfl⟩:=aed h1
   obtain⟨y',rfl⟩:=aed h3
   have hl:=(uD hok).1
   have hx:x'<N.length:=by omega
   have hy:y'<N.length:=by omega
   have hx':x'<P.length:=by omega
   have n1:decide ((x':Int)<0)=false:=by rw[acx];omega
   have n2:decide ((y':Int)<0)=false:=by rw[acx];omega
   have n3:decide ((N.length:Int)≤x')=false:=by rw[acx];omega
   have n4:decide ((N.length:Int)≤y')=false:=by rw[acx];omega
   obtain⟨p,hp⟩:=get_some hx
   obtain⟨q,hq⟩:=get_some hy
   obtain⟨r,hr⟩:=get_some hx'
   have h54:=fun H=>XQ (n+3) H N P W f1 f2 f3 ex no th p.1 p.2 r q.1 q.2 hW
   simp only[Ra,ah,go_sem,simprocAttr,h29,hok,n1,n2,n3,n4,o5,vE]
   repeat' (with_reducible refine aD (fun _=>?_) (fun _=>?_)<;>simp only[*,go_sem,simprocAttr,hx,hy,hx',hp,hq,hr,h54])
   all_goals (clear h54 h29;simp_all [p7,nd,adg])
end G
namespace U
theorem W0(n:Nat)(H:ab)(s:Src)(x y:Int)(hs:w9 s.kE s.fr s.to=true)(hi:BY x y=true):aa T (n+1) (.fn 237) [.agg (HT s),af5 x,af5 y] H=some (.bool (RH s x y),H):=by
 refine ae Uj (by rfl) ?_
 simp only[w9,BY,acw,acr]at hs hi
 have hne:s.kE≠0:=by omega
 have hx0:0≤x:=by omega
 have hm1:=ae3 x hne
 have hm2:=aeN x (show 0<s.kE by omega)
 have ht0:x.tmod s.kE=x%s.kE:=adY hx0
 have ht:bb (x%s.kE)=x%s.kE:=al (by omega) (by omega)
 have h1:bb (x%s.kE+y)=x%s.kE+y:=al (by omega) (by omega)
 have h2:bb (x%s.kE+y-x)=x%s.kE+y-x:=al (by omega) (by omega)
 have h3:bb (s.fr+s.kE)=s.fr+s.kE:=al (by omega) (by omega)
 simp only[Mf,ah,go_sem,simprocAttr,hne,ht0,ht,h1,h2,h3]
 repeat' (with_reducible refine aD (fun _=>?_) (fun _=>?_)<;>simp only[*,go_sem,simprocAttr,hne,ht0,ht,h1,h2,h3])
 all_goals (simp only[RH];refine congrArg some (congrArg SV.bool ?_);rw[adz];clear ht0;generalize x%s.kE=r at *;grind)
theorem TD(n:Nat)(bl es ro)(S f1 F f2)(c x y:Int):aa T (n+1) (.se 227) [sp S f1 F f2,af5 c,af5 x,af5 y] ⟨bl,es,ro⟩=
 some (.fn 236 [.ptr bl.length 0 0 0,.ptr (bl.length+1) 0 0 0,.ptr (bl.length+2) 0 0 0,.ptr (bl.length+3) 0 0 0],⟨bl++[.box [.ao 7 (dW S) f1,.ao 6 (dP F) f2],.box [af5 c],.box [af5 x],.box [af5 y]],es,ro⟩):=by
 refine eJ Vp ?_
 simp only[Ob,go_sem,simprocAttr,aco,acn]
theorem Vn(n:Nat)(q:fj)(X0 X1 X2:aC){A:Type}(Xa:A→aC)(u:A→Src→A)(f1 f2:Bool)(S:List Src)(F:List Fd)(c x y:Int)(hS:BH S)(hv:∀s∈S,w9 s.kE s.fr s.to=true)(hi:BY x y=true)
 (hy:∀(v:A) (s:Src) (X:aC),s∈S→aa T (n+6) (.fP 8) [.agg (HT s)] ⟨[X0,X1,X2,Xa v,.box [.ao 7 (dW S) f1,.ao 6 (dP F) f2],.box [af5 c],.box [af5 x],.box [af5 y],.loop q .ready .normal,X],[],0⟩=some (.bool true,⟨[X0,X1,X2,Xa (u v s),.box [.ao 7 (dW S) f1,.ao 6 (dP F) f2],.box [af5 c],.box [af5 x],.box [af5 y],.loop q .ready .normal,X],[],0⟩)) (v:A) :
 aa T (n+7) (.fn 236) [.fP 8,.ptr 4 0 0 0,.ptr 5 0 0 0,.ptr 6 0 0 0,.ptr 7 0 0 0] ⟨[X0,X1,X2,Xa v,.box [.ao 7 (dW S) f1,.ao 6 (dP F) f2],.box [af5 c],.box [af5 x],.box [af5 y],.loop q .ready .normal],[],0⟩=some (.bc [],⟨[X0,X1,X2,Xa (S.foldl (rL u c x y) v),.box [.ao 7 (dW S) f1,.ao 6 (dP F) f2],.box [af5 c],.box [af5 x],.box [af5 y],.loop q .ready .normal],[],0⟩):=by
 refine bm VT (by rfl) ?_
 simp only[M5,go_sem,simprocAttr]
 refine ba (fun i=>([(0,.fP 8),(2,.ptr 5 0 0 0),(3,.ptr 6 0 0 0),(4,.ptr 7 0 0 0),(9,.ao 7 (dW S) f1),(10,af5 S.length),(11,af5 i)],⟨[X0,X1,X2,Xa ((S.take i).foldl (rL u c x y) v),.box [.ao 7 (dW S) f1,.ao 6 (dP F) f2],.box [af5 c],.box [af5 x],.box [af5 y],.loop q .ready .normal],[],0⟩)) (fun _=>True) S.length ?_ trivial ?_
 ·simp only[go_sem,simprocAttr]<;>rfl
 ·intro i hi' _
  rcases acz i S.length with hlt|hge
  ·obtain⟨s,hs⟩:=bO hlt
   have hm:=acy hs
   have hw:=bE hlt hS.1
   have hf:=ij (rL u c x y) v hs
   have h20:=fun H=>VV (n+4) H s.C s.f c (hS.2 s hm)
   have h42:=fun H=>W0 (n+5) H s x y (hv s hm) hi
   have hyy:=fun v X=>hy v s X hm
   simp only[go_sem,simprocAttr,hlt,hs,h20,hf,rL,PR]
   cases hc:decide (c∈s.C)with
   |false=>
    simp only[go_sem,simprocAttr,hw,hf,rL,PR,hc,ac3,adh,if_false]
    exact⟨hlt,rfl,trivial⟩
   |true=>
    simp only[go_sem,simprocAttr,h42,hc,ac9]
    cases ho:RH s x y with
    |false=>
     simp only[go_sem,simprocAttr,hw,hf,rL,PR,hc,ho,ac9,adh,if_false]
     exact⟨hlt,rfl,trivial⟩
    |true=>
     simp only[go_sem,simprocAttr,hw,hf,rL,PR,hc,ho,hyy,ac9,if_true]
     exact⟨hlt,rfl,trivial⟩
  ·have hlt:¬i<S.length:=by omega
   have ht:S.take i=S:=ac1 hge
   simp only[go_sem,simprocAttr,hlt,ht]
theorem SD(m:Nat)(H:ab)(N P W g1 g2 g3 ex no th S f1 F f2)(a c x y:Int)(hN:N.length≤maxLen)(hP:P.length≤maxLen)(hW:W.length≤maxLen)(hS:BH S)(hF:F.length≤maxLen) :
 aa T (m+12) (.fn 210) [G.st N P W g1 g2 g3 ex no th,sp S f1 F f2,af5 a,af5 c,af5 x,af5 y] H=
  some (.bc [af5 (V3 (G.gh N P W ex no th&&pB S F) (eA N.length a) (cr c&&BY x y) (EP (FA N P W ex no th a.toNat) S c x y)),af5 (E3 (G.gh N P W ex no th&&pB S F) (eA N.length a) (cr c&&BY x y))],H):=by
 refine ae XU (by rfl) ?_
 have h44:=fun H=>G.KD (m+5) H N P W g1 g2 g3 ex no th hN hP hW
 have h12:=fun H=>ZM (m+4) H S F f1 f2 hS hF
 simp only[Oi,ah,go_sem,simprocAttr,h44]
 cases hok:G.gh N P W ex no th with
 |false=>simp only[go_sem,simprocAttr,V3,E3,ac3]
 |true=>
  simp only[go_sem,simprocAttr,h12]
  cases hck:pB S F with
  |false=>simp only[go_sem,simprocAttr,V3,E3,ac3,adk]
  |true=>
   cases hin:eA N.length a with
   |false=>
    rcases HW hin with q|⟨q,q'⟩
    ·simp only[go_sem,simprocAttr,q,V3,E3,G.aM,ac9,ac3,adk]
    ·simp only[go_sem,simprocAttr,q,q',V3,E3,G.aM,ac9,ac3,adk]
   |true=>
    obtain⟨k,rfl,hk⟩:=Jn.1 hin
    obtain⟨q,q'⟩:=Jt hk
    simp only[go_sem,simprocAttr,q,q',G.aM,wg,FT]
    cases hc:cr c with
    |false=>simp only[go_sem,simprocAttr,V3,E3,ac9,ac3,adk]
    |true=>
     simp only[go_sem,simprocAttr,FT]
     cases hi:BY x y with
     |false=>simp only[go_sem,simprocAttr,V3,E3,ac9,ac3,adk]
     |true=>
      have hv:∀s∈S,w9 s.kE s.fr s.to=true:=fun s hs=>Gg (G9 hck s hs)
      obtain⟨p,hp⟩:=bO hk
      have hnd:G.nd N k=p:=by simp only[G.nd,adg,hp,ad3]
      have h47:=fun H (s:Src)=>G.UR m H N P W g1 g2 g3 ex no th s.a s.b s.p p.1 p.2 hN hP hW
      simp only[G.Ke]at h47
      simp only[go_sem,simprocAttr,TD]
      refine G.jn _ (Vn (m+4) _ _ _ _ (fun v=>.box [af5 v]) (fun v s=>bb (v+FA N P W ex no th k s)) f1 f2 S F c x y hS hv hi ?_ 0) ?_
      ·intro v s X hs
       refine pd rfl rfl ?_
       simp only[go_sem,simprocAttr,hp,hk,h47,FA,hnd]
      ·simp only[go_sem,simprocAttr,V3,E3,EP,ac9]
theorem MN(n:Nat)(H:ab)(w:Fd)(a b:Int):aa T (n+1) (.fn 225) [.agg (Ie w),af5 a,af5 b] H=some (.bool (Xt a b w),H):=by
 refine ae VI (by rfl) ?_
 simp only[Nl,ah,go_sem,simprocAttr]
 repeat' (with_reducible refine aD (fun _=>?_) (fun _=>?_)<;>simp only[*,go_sem,simprocAttr])
 all_goals (simp only[Xt];grind)
theorem VF(n:Nat)(X0 X5 X6:aC)(w:Fd)(a b c t:Int):aa T (n+2) (.fn 224) [.agg (Ie w),.ptr 1 0 0 0,.ptr 2 0 0 0,.ptr 3 0 0 0,.ptr 4 0 0 0] ⟨[X0,.box [af5 a],.box [af5 b],.box [af5 c],.box [af5 t],X5,X6],[],0⟩=
 some (.bool (z7 a b c t w),⟨[X0,.box [af5 a],.box [af5 b],.box [af5 c],.box [af5 t],X5,X6],[],0⟩):=by
 refine bm Vi (by rfl) ?_
 simp only[Lv,go_sem,simprocAttr,MN]
 repeat' (with_reducible refine aD (fun _=>?_) (fun _=>?_)<;>simp only[*,go_sem,simprocAttr,MN])
 all_goals (simp only[z7];grind)
theorem VP(n:Nat)(X0 X1 X2 X3 X4:aC)(id:Nat)(caps:List SV)(p:Fd→Bool)(z2:Nat)(F:List Fd)(f2:Bool)(hz:z2=6∨F=[])(hF:F.length≤maxLen)(hr:SV.refs.av caps≤5)(hr0:(SV.refs.av caps==0)=false)
 (hc:∀w∈F,∀X5 X6,aa T n (.fn id) (.agg (Ie w)::caps) ⟨[X0,X1,X2,X3,X4,X5,X6],[],0⟩=some (.bool (p w),⟨[X0,X1,X2,X3,X4,X5,X6],[],0⟩)) :
 aa T (n+1) (.fn 226) [.agg [.fn id caps],.ao z2 (dP F) f2] ⟨[X0,X1,X2,X3,X4],[],0⟩=some (af5 (Bc p F),⟨[X0,X1,X2,X3,X4],[],0⟩):=by
 refine bm Uh (by simp only[eI,SV.refs.av,SV.refs,JF,adU,aeq,aez,afg];exact hr0) ?_
 simp only[JF,go_sem,simprocAttr]
 refine ba (fun i=>([(2,.ptr 5 0 0 0),(5,af5 ((F.take i).foldl (GX p) 1000)),(8,.ao z2 (dP F) f2),(9,af5 F.length),(10,af5 i)],⟨[X0,X1,X2,X3,X4,.box [.fn id caps]],[],0⟩)) (fun _=>True) F.length ?_ trivial ?_
 ·simp only[go_sem,simprocAttr]<;>rfl
 ·intro i hi _
  rcases acz i F.length with hlt|hge
  ·obtain⟨w,hw⟩:=bO hlt
   have hm:=acy hw
   have hz6:z2=6:=hz.resolve_right (by rintro rfl;simp at hlt)
   subst hz6
   have hs:=bE hlt hF
   have hf:=ij (GX p) 1000 hw
   have hcw:=hc w hm
   cases hp:p w with
   |true=>
    simp only[go_sem,simprocAttr,hlt,hw,hs,hf,hcw,hp,GX,if_true]
    exact⟨by first|trivial|exact hlt,rfl,trivial⟩
   |false=>
    simp only[go_sem,simprocAttr,hlt,hw,hs,hf,hcw,hp,GX,adh,if_false]
    exact⟨by first|trivial|exact hlt,rfl,trivial⟩
  ·have hlt:¬i<F.length:=by omega
   have ht:F.take i=F:=ac1 hge
   simp only[go_sem,simprocAttr,hlt,ht,Bc]
theorem Vl(n:Nat)(H:ab)(z1:Nat)(S:List Src)(f1:Bool)(z2:Nat)(F:List Fd)(f2:Bool)(a b c t:Int)(hz:z2=6∨F=[])(hF:F.length≤maxLen) :
 aa T (n+4) (.fn 209) [N0 z1 S f1 z2 F f2,af5 a,af5 b,af5 c,af5 t] H=some (af5 (Bc (z7 a b c t) F),H):=by
 refine ae VL (by rfl) ?_
 have h62:=VP (id:=224) (n+2) (.box [.ao z1 (dW S) f1,.ao z2 (dP F) f2]) (.box [af5 a]) (.box [af5 b]) (.box [af5 c]) (.box [af5 t]) [.ptr 1 0 0 0,.ptr 2 0 0 0,.ptr 3 0 0 0,.ptr 4 0 0 0] (z7 a b c t) z2 F f2 hz hF
  (by simp[SV.refs,SV.refs.av]) (by simp[SV.refs,SV.refs.av]) (fun w _ X5 X6=>VF n _ X5 X6 w a b c t)
 simp only[LG,ah,go_sem,simprocAttr,h62]
theorem UI(n:Nat)(H:ab)(N P W g1 g2 g3 ex no th)(z1:Nat)(S:List Src)(f1:Bool)(z2:Nat)(F:List Fd)(f2:Bool)(a b:Int)(hN:N.length≤maxLen)(hP:P.length≤maxLen)(hW:W.length≤maxLen)(hz1:z1=7∨S=[])(hz:z2=6∨F=[])(hS:BH S)(hF:F.length≤maxLen) :
 aa T (n+11) (.fn 207) [G.st N P W g1 g2 g3 ex no th,N0 z1 S f1 z2 F f2,af5 a,af5 b] H=
  some (.bc [af5 (G.o5 (G.p7 (G.atR W ex) N P a b) (G.gh N P W ex no th&&pB S F) (G.pC N a b)),af5 (G.vE (G.gh N P W ex no th&&pB S F) (G.pC N a b) 7)],H):=by
 refine ae TN (by rfl) ?_
 have h44:=fun H=>G.KD (n+4) H N P W g1 g2 g3 ex no th hN hP hW
 have h12:=fun H=>H7 (n+3) H S F f1 f2 z1 z2 hz1 hz hS hF
 have h81:=fun H=>G.U5 n H N P W g1 g2 g3 ex no th a b hN hP hW
 rw[G.Kd]at h81
 simp only[NO,ah,go_sem,simprocAttr,h44]
 cases hok:G.gh N P W ex no th with
 |false=>simp only[go_sem,simprocAttr,G.o5,G.vE,ac3]
 |true=>
  rw[hok]at h81
  simp only[go_sem,simprocAttr,h12]
  cases hck:pB S F with
  |false=>simp only[go_sem,simprocAttr,G.o5,G.vE,ac3,adk]
  |true=>simp only[go_sem,simprocAttr,h81,acW]
theorem W4(n:Nat)(H:ab)(N P W g1 g2 g3 ex no th)(z1:Nat)(S:List Src)(f1:Bool)(z2:Nat)(F:List Fd)(f2:Bool)(a b c t:Int)(hN:N.length≤maxLen)(hP:P.length≤maxLen)(hW:W.length≤maxLen)(hz1:z1=7∨S=[])(hz:z2=6∨F=[])(hS:BH S)(hF:F.length≤maxLen) :
 aa T (n+12) (.fn 184) [G.st N P W g1 g2 g3 ex no th,N0 z1 S f1 z2 F f2,af5 a,af5 b,af5 c,af5 t] H=
  some (.bc [af5 (V3 (G.gh N P W ex no th&&pB S F) (G.pC N a b) (cr c&&BT t) (Ca (G.p7 (G.atR W ex) N P a b) (Bc (z7 a b c t) F))),af5 (E3 (G.gh N P W ex no th&&pB S F) (G.pC N a b) (cr c&&BT t))],H):=by
 refine ae Xq (by rfl) ?_
 have h57:=fun H=>UI n H N P W g1 g2 g3 ex no th z1 S f1 z2 F f2 a b hN hP hW hz1 hz hS hF
 have h54:=fun H=>Vl (n+7) H z1 S f1 z2 F f2 a b c t hz hF
 simp only[PK,ah,go_sem,simprocAttr,h57]
 cases hok:G.gh N P W ex no th&&pB S F with
 |false=>simp only[go_sem,simprocAttr,sO,E3,G.o5,G.vE,ac3]
 |true=>
  cases hin:G.pC N a b with
  |false=>simp only[go_sem,simprocAttr,sO,E3,G.o5,G.vE,adk]
  |true=>
   obtain⟨hok,hck⟩:=aeD.1 hok
   have hb:=(G.uq hok hin).2
   have hr:=D3 (z7 a b c t) (Cw hck)
   have h58:=fun H=>G.N4 (n+9) H (G.p7 (G.atR W ex) N P a b) (Bc (z7 a b c t) F)
   have hsc:G.yi (G.p7 (G.atR W ex) N P a b) (Bc (z7 a b c t) F)=true:=by
    simp only[G.yi,hb,ac9,acw,acr];exact hr
   have hE:G.R0 (G.p7 (G.atR W ex) N P a b) (Bc (z7 a b c t) F)=0:=by simp only[G.R0,hsc,if_true]
   have hV:G.Jg (G.p7 (G.atR W ex) N P a b) (Bc (z7 a b c t) F)=Ca (G.p7 (G.atR W ex) N P a b) (Bc (z7 a b c t) F):=by simp only[G.Jg,hsc,if_true,Ca]
   rw[hE,hV]at h58
   simp only[go_sem,simprocAttr,G.o5,G.vE,acW,wg]
   cases hc:cr c with
   |false=>simp only[go_sem,simprocAttr,sO,E3,ac3]
   |true=>
    cases ht:BT t with
    |false=>
     rcases Mv ht with q|⟨q,q'⟩
     ·simp only[go_sem,simprocAttr,sO,E3,ac9,q]
     ·simp only[go_sem,simprocAttr,sO,E3,ac9,q,q']
    |true=>
     obtain⟨q,q'⟩:=I2 ht
     simp only[go_sem,simprocAttr,sO,E3,ac9,q,q',h54,h58]
end U
end Go.Sh
