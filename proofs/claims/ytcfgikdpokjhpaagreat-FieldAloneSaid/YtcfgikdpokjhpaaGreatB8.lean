/- A part of the proof: texts K19w, ShLs. -/
import Derived.Test.YtcfgikdpokjhpaaGreatB7
import Derived.Test.YtcfgikdpokjhpaaGreatB6
namespace Go.Sh
set_option linter.unusedSectionVars false
set_option linter.unnecessarySimpa false
set_option linter.unusedSimpArgs false
set_option linter.unusedVariables false
set_option maxRecDepth 100000
set_option maxHeartbeats 4000000
namespace A
structure Em where
 n:Int
 c:Int
 x:Int
 y:Int
abbrev qK(e:Em):List SV:=[af5 e.n,af5 e.c,af5 e.x,af5 e.y]
def br(L:List Em):List (List SV):=L.map qK
@[go_sem] theorem cD {L:List Em}:(br L).length=L.length:=by simp[br]
@[go_sem] theorem Pm {L:List Em}{i:Nat}:(br L)[i]?=(L[i]?).map qK:=by simp[br]
theorem oX(L:List Em)(i:Nat):(br L).take i=br (L.take i):=by simp[br]
def vk(a b:Em):Bool:=decide (max a.x b.x<min a.y b.y)
theorem G2(a b:Em):vk a b=vk b a:=by unfold vk;rw[Int.max_comm,Int.min_comm]
theorem Jm(n:Nat)(H:ab)(a b:Em):aa T (n+1) (.fn 183) [.agg (qK a),.agg (qK b)] H=some (.bool (vk a b),H):=by
 refine ae WN (by rfl) ?_
 simp only[Qj,ah,go_sem,simprocAttr]
 rfl
def vj(a:Em):Bool:=U.cr a.c&&decide (0≤a.x)&&decide (a.x<a.y)&&decide (a.y≤1099511627776)
def iD(a b:Em):Bool:=decide (b.n=a.n)&&vk a b
def sk(n:Nat)(pre:List Em)(a:Em):Int:=bif U.eA n a.n then(bif vj a then(bif pre.any (iD a)then 16 else 0)else 2)else 7
def vo(n:Nat)(L:List Em):Nat→Nat→Int
 |0,_=>0
 |k+1,i=>match L[i]? with
  |none=>0
  |some a=>bif decide (sk n (L.take i) a=0)then vo n L k (i+1)else sk n (L.take i) a
def xH(n:Nat)(L:List Em):Int:=vo n L L.length 0
theorem yk{n:Nat}{L:List Em}{i:Nat}{a:Em}(ha:L[i]?=some a)(h0:∀(j:Nat) b,j<i→L[j]?=some b→sk n (L.take j) b=0)(hn:sk n (L.take i) a≠0):xH n L=sk n (L.take i) a:=by
 have key:∀(k j:Nat),i-j<k→j≤i→vo n L k j=sk n (L.take i) a:=by
  intro k
  induction k with
  |zero=>intro j h1;omega
  |succ k ih=>
   intro j h1 h2
   have hlt:=(acm.1 ha).1
   obtain⟨b,hb⟩:=bO (l:=L) (i:=j) (by omega)
   simp only[vo,hb]
   by_cases hj:j=i
   ·subst hj
    rw[ha]at hb;cases hb
    rw[acs hn];rfl
   ·rw[acp (h0 j b (by omega) hb)]
    exact ih (j+1) (by omega) (by omega)
 exact key L.length 0 (by have:=(acm.1 ha).1;omega) (by omega)
theorem J3{n:Nat}{L:List Em}(h0:∀(j:Nat) b,L[j]?=some b→sk n (L.take j) b=0):xH n L=0:=by
 have key:∀(k j:Nat),vo n L k j=0:=by
  intro k
  induction k with
  |zero=>intro j;rfl
  |succ k ih=>
   intro j
   simp only[vo]
   cases hb:L[j]? with
   |none=>rfl
   |some b=>
    simp only
    rw[acp (h0 j b hb)]
    exact ih (j+1)
 exact key _ _
def pr(BH:Bool)(n:Nat)(L:List Em):Int:=bif BH then(bif decide (48<L.length)then 8 else xH n L)else 1
theorem BN{A:Type}{S:List A}{p:A→Bool}{j:Nat}{s:A}(h:S[j]?=some s):(S.take (j+1)).any p=((S.take j).any p||p s):=by
 rw[adP,h];simp
theorem Ni{a:Em}(h:vj a=false):decide (a.c<0)=true∨(decide (a.c<0)=false∧decide (16≤a.c)=true)∨(decide (a.c<0)=false∧decide (16≤a.c)=false∧decide (a.x<0)=true)∨
 (decide (a.c<0)=false∧decide (16≤a.c)=false∧decide (a.x<0)=false∧decide (a.y≤a.x)=true)∨(decide (a.c<0)=false∧decide (16≤a.c)=false∧decide (a.x<0)=false∧decide (a.y≤a.x)=false∧decide (1099511627776<a.y)=true):=by
 simp only[vj,U.cr,aec,acr,acx]at *
 omega
theorem Kc{a:Em}(h:vj a=true):decide (a.c<0)=false∧decide (16≤a.c)=false∧decide (a.x<0)=false∧decide (a.y≤a.x)=false∧decide (1099511627776<a.y)=false:=by
 simp only[vj,U.cr,acw,acr,acx]at *
 omega
theorem FR{n:Nat}{a:Int}(h:U.eA n a=true):decide (a<0)=false∧decide ((n:Int)≤a)=false:=by
 simp only[U.eA,acw,acr,acx]at *
 omega
theorem HK{n:Nat}{pre:List Em}{a:Em}(h:U.eA n a.n=false):sk n pre a=7:=by simp only[sk,h,acJ]
theorem Ib{n:Nat}{pre:List Em}{a:Em}(h:U.eA n a.n=true)(h2:vj a=false):sk n pre a=2:=by simp only[sk,h,h2,acJ,acG]
theorem Dc{n:Nat}{pre:List Em}{a:Em}(h:U.eA n a.n=true)(h2:vj a=true)(h3:pre.any (iD a)=true):sk n pre a=16:=by simp only[sk,h,h2,h3,acG]
theorem MW{n:Nat}{pre:List Em}{a:Em}(h:U.eA n a.n=true)(h2:vj a=true)(h3:pre.any (iD a)=false):sk n pre a=0:=by simp only[sk,h,h2,h3,acG,acJ]
theorem XP(m:Nat)(H:ab)(N P W g1 g2 g3 ex no th)(z1:Nat)(S:List U.Src)(f1:Bool)(z2:Nat)(F:List U.Fd)(f2:Bool)(L:List Em)(f:Bool)(hN:N.length≤maxLen)(hP:P.length≤maxLen)(hW:W.length≤maxLen)(hz1:z1=7∨S=[])(hz:z2=6∨F=[])(hS:U.BH S)(hF:F.length≤maxLen)(hL:L.length≤maxLen) :
 aa T (m+8) (.fn 182) [G.st N P W g1 g2 g3 ex no th,U.N0 z1 S f1 z2 F f2,.ao 4 (br L) f] H=some (af5 (pr (G.gh N P W ex no th&&U.pB S F) N.length L),H):=by
 refine ae WG (by rfl) ?_
 have h32:=fun H=>G.KD (m+1) H N P W g1 g2 g3 ex no th hN hP hW
 have h33:=fun H=>U.H7 m H S F f1 f2 z1 z2 hz1 hz hS hF
 simp only[NT,ah,go_sem,simprocAttr,h32]
 cases hok:G.gh N P W ex no th with
 |false=>simp only[go_sem,simprocAttr,pr,ac3]
 |true=>
  simp only[go_sem,simprocAttr,h33]
  cases hck:U.pB S F with
  |false=>simp only[go_sem,simprocAttr,pr,adk]
  |true=>
   simp only[go_sem,simprocAttr,pr,acW]
   by_cases h48:48<L.length
   ·have q:decide ((48:Int)<(L.length:Int))=true:=acp (by omega)
    simp only[go_sem,simprocAttr,q,h48,decide_true]
   ·have q:decide ((48:Int)<(L.length:Int))=false:=acs (by omega)
    simp only[go_sem,simprocAttr,q,h48,aeS]
    refine ba (fun i=>([(2,.ao 4 (br L) f),(3,.ptr 0 0 0 0),(24,.ao 4 (br L) f),(25,af5 L.length),(26,af5 i)],
     ⟨[.box [.ao 2 (G.dt N) g1,.ao 1 (G.cY P) g2,.ao 5 (G.eX W) g3,af5 ex,af5 no,af5 th],.box [.ao z1 (U.dW S) f1,.ao z2 (U.dP F) f2]],[],0⟩))
     (fun i=>∀(j:Nat) b,j<i→L[j]?=some b→sk N.length (L.take j) b=0) L.length ?_ (fun j b h=>by omega) ?_
    ·simp only[go_sem,simprocAttr]<;>rfl
    ·intro i hi hP'
     rcases acz i L.length with hlt|hge
     ·obtain⟨a,ha⟩:=bO hlt
      have hw:=bE hlt hL
      simp only[go_sem,simprocAttr,hlt,ha,G.aM]
      cases hin:U.eA N.length a.n with
      |false=>
       have hE:=yk ha hP' (by rw[HK hin];decide)
       rw[HK hin]at hE
       rcases U.HW hin with q|⟨q,q'⟩
       ·simp only[go_sem,simprocAttr,q,hE]
       ·simp only[go_sem,simprocAttr,q,q',G.aM,hE]
      |true=>
       obtain⟨q,q'⟩:=FR hin
       simp only[go_sem,simprocAttr,q,q',G.aM]
       cases hem:vj a with
       |false=>
        have hE:=yk ha hP' (by rw[Ib hin hem];decide)
        rw[Ib hin hem]at hE
        rcases Ni hem with r1|⟨r1,r2⟩|⟨r1,r2,r3⟩|⟨r1,r2,r3,r4⟩|⟨r1,r2,r3,r4,r5⟩
        ·simp only[go_sem,simprocAttr,r1,hE]
        ·simp only[go_sem,simprocAttr,r1,r2,hE]
        ·simp only[go_sem,simprocAttr,r1,r2,r3,hE]
        ·simp only[go_sem,simprocAttr,r1,r2,r3,r4,hE]
        ·simp only[go_sem,simprocAttr,r1,r2,r3,r4,r5,hE]
       |true=>
        obtain⟨r1,r2,r3,r4,r5⟩:=Kc hem
        have hle:i≤L.length:=by omega
        have d1:decide ((i:Int)≤(L.length:Int))=true:=acp (by omega)
        simp only[go_sem,simprocAttr,r1,r2,r3,r4,r5,hle,d1,oX]
        have hmin:min i L.length=i:=adM hle
        refine tx (fun j=>([(2,.ao 4 (br L) f),(3,.ptr 0 0 0 0),(8,.ptr 2 0 0 0),(24,.ao 4 (br L) f),(25,af5 L.length),(26,af5 i),(71,.ao 4 (br (L.take i)) (f&&i==L.length)),(72,af5 i),(73,af5 j)],
         ⟨[.box [.ao 2 (G.dt N) g1,.ao 1 (G.cY P) g2,.ao 5 (G.eX W) g3,af5 ex,af5 no,af5 th],.box [.ao z1 (U.dW S) f1,.ao z2 (U.dP F) f2],.box (qK a)],[],0⟩))
         (fun j=>(L.take j).any (iD a)=false) i ?_ rfl ?_
        ·simp only[go_sem,simprocAttr,adA,hmin]
         rfl
        ·intro j hj hjP
         have hlen:(L.take i).length=i:=by rw[adA];exact hmin
         rcases acz j i with hlt2|hge2
         ·obtain⟨b,hb⟩:=bO (l:=L) (i:=j) (by omega)
          have hb':(L.take i)[j]?=some b:=by rw[acX,if_pos hlt2];exact hb
          have hw2:=bE hlt2 (ac7 hle hL)
          have han:=BN (p:=iD a) hb
          have h14:=fun H=>Jm (m+6) H a b
          cases hcl:iD a b with
          |true=>
           have hE:=yk ha hP' (by rw[Dc hin hem (adT.2 ⟨b,acy hb',hcl⟩)];decide)
           rw[Dc hin hem (adT.2 ⟨b,acy hb',hcl⟩)]at hE
           simp only[iD,acw]at hcl
           simp only[go_sem,simprocAttr,hlen,hlt2,hb',hcl.1,hcl.2,h14,hE]
          |false=>
           have hn:(L.take (j+1)).any (iD a)=false:=by rw[han,hjP,hcl];rfl
           simp only[iD]at hcl
           cases hnn:decide (b.n=a.n)with
           |false=>
            simp only[go_sem,simprocAttr,hlen,hlt2,hb',hnn,hw2]
            exact⟨by first|trivial|exact hlt2,rfl,hn⟩
           |true=>
            rw[hnn,ac9]at hcl
            simp only[go_sem,simprocAttr,hlen,hlt2,hb',hnn,h14,hcl,hw2]
            exact⟨by first|trivial|exact hlt2,rfl,hn⟩
         ·have hji:j=i:=by omega
          subst hji
          simp only[go_sem,simprocAttr,Int.lt_irrefl,aeS,hw]
          refine⟨by first|trivial|exact hlt,rfl,fun k b hk hb=>?_⟩
          rcases acz k j with h3|h3
          ·exact hP' k b h3 hb
          ·have:k=j:=by omega
           subst this
           rw[ha]at hb;cases hb
           exact MW hin hem hjP
     ·have hlt:¬i<L.length:=by omega
      have hE:=J3 (n:=N.length) (L:=L) (fun j b hj=>hP' j b (by have:=(acm.1 hj).1;omega) hj)
      simp only[go_sem,simprocAttr,hlt,hE]
abbrev By(N:List (Int×Int))(P:List Int)(W:List G.Wl)(g1 g2 g3:Bool)(ex no th:Int)(S:List U.Src)(f1:Bool)(F:List U.Fd)(f2:Bool)(L:List Em)(f:Bool):List SV:=
 [.ao 2 (G.dt N) g1,.ao 1 (G.cY P) g2,.ao 5 (G.eX W) g3,af5 ex,af5 no,af5 th,.ao 7 (U.dW S) f1,.ao 6 (U.dP F) f2,.ao 4 (br L) f]
theorem Z2:T 31=some (ql 4 32 [af6,af6,af6,af6]):=e31
theorem tp(L:List Em):Still (br L):=by
 intro cs hcs c hc
 simp only[br,adt]at hcs
 obtain⟨h,_,rfl⟩:=hcs
 simp only[adj,afY,or_false]at hc
 rcases hc with rfl|rfl|rfl|rfl<;>exact⟨by simp[SV.refs],fun N H d=>by simp only[ez]⟩
abbrev emT:List DT:=[.int .i64,.int .i64,.int .i64,.int .i64]
abbrev TX:List DT:=[.ao [.int .i64,.int .i64],.ao [.int .i64],.ao [.int .i64,.int .i64,.int .i64,.int .i64,.int .i64],.int .i64,.int .i64,.int .i64,
 .ao [.int .i64,.int .i64,.int .i64,.ao [.int .i64],.int .i64,.int .i64,.int .i64],.ao [.int .i64,.int .i64,.int .i64,.int .i64,.int .i64,.int .i64],.ao emT]
abbrev KE:Bool×List DT:=(true,TX)
theorem qo:∀{L:List (List SV)},(∀q∈L,cJ [.int .i64,.int .i64] q)→∃N,L=G.dt N
 |[],_=>⟨[],rfl⟩
 |r::L,h=>by
  obtain⟨N,rfl⟩:=qo (L:=L) (fun q hq=>h q (by simp[hq]))
  have h0:=h r (by simp)
  obtain⟨a,_,rfl,_,h0⟩:=aY h0
  obtain⟨b,_,rfl,_,h0⟩:=aY h0
  cases cA h0
  exact⟨(a,b)::N,rfl⟩
theorem nF:∀{L:List (List SV)},(∀q∈L,cJ [.int .i64] q)→∃N,L=G.cY N
 |[],_=>⟨[],rfl⟩
 |r::L,h=>by
  obtain⟨N,rfl⟩:=nF (L:=L) (fun q hq=>h q (by simp[hq]))
  have h0:=h r (by simp)
  obtain⟨a,_,rfl,_,h0⟩:=aY h0
  cases cA h0
  exact⟨a::N,rfl⟩
theorem lT:∀{L:List (List SV)},(∀q∈L,cJ [.int .i64] q)→∃N,L=iS N
 |[],_=>⟨[],rfl⟩
 |r::L,h=>by
  obtain⟨N,rfl⟩:=lT (L:=L) (fun q hq=>h q (by simp[hq]))
  have h0:=h r (by simp)
  obtain⟨a,_,rfl,_,h0⟩:=aY h0
  cases cA h0
  exact⟨a::N,rfl⟩
theorem ue:∀{L:List (List SV)},(∀q∈L,cJ [.int .i64,.int .i64,.int .i64,.int .i64,.int .i64] q)→∃N,L=G.eX N
 |[],_=>⟨[],rfl⟩
 |r::L,h=>by
  obtain⟨N,rfl⟩:=ue (L:=L) (fun q hq=>h q (by simp[hq]))
  have h0:=h r (by simp)
  obtain⟨a,_,rfl,_,h0⟩:=aY h0
  obtain⟨b,_,rfl,_,h0⟩:=aY h0
  obtain⟨c,_,rfl,_,h0⟩:=aY h0
  obtain⟨d,_,rfl,_,h0⟩:=aY h0
  obtain⟨f,_,rfl,_,h0⟩:=aY h0
  cases cA h0
  exact⟨⟨a,b,c,d,f⟩::N,rfl⟩
theorem uX:∀{L:List (List SV)},(∀q∈L,cJ [.int .i64,.int .i64,.int .i64,.ao [.int .i64],.int .i64,.int .i64,.int .i64] q)→∃S,L=U.dW S∧∀s∈S,s.C.length≤maxLen
 |[],_=>⟨[],rfl,fun s h=>by cases h⟩
 |r::L,h=>by
  obtain⟨N,rfl,hN⟩:=uX (L:=L) (fun q hq=>h q (by simp[hq]))
  have k:=h r (by simp)
  obtain⟨a,_,rfl,_,k⟩:=aY k
  obtain⟨b,_,rfl,_,k⟩:=aY k
  obtain⟨p,_,rfl,_,k⟩:=aY k
  obtain⟨L1,f1,_,rfl,m1,a1,k⟩:=gq k
  obtain⟨kE,_,rfl,_,k⟩:=aY k
  obtain⟨fr,_,rfl,_,k⟩:=aY k
  obtain⟨to,_,rfl,_,k⟩:=aY k
  cases cA k
  obtain⟨C,rfl⟩:=lT a1
  exact⟨⟨a,b,p,C,f1,kE,fr,to⟩::N,rfl,fun t ht=>by
   rcases adj.1 ht with rfl|ht
   ·simpa[iS]using m1
   ·exact hN t ht⟩
theorem tY:∀{L:List (List SV)},(∀q∈L,cJ [.int .i64,.int .i64,.int .i64,.int .i64,.int .i64,.int .i64] q)→∃S,L=U.dP S
 |[],_=>⟨[],rfl⟩
 |r::L,h=>by
  obtain⟨N,rfl⟩:=tY (L:=L) (fun q hq=>h q (by simp[hq]))
  have k:=h r (by simp)
  obtain⟨a,_,rfl,_,k⟩:=aY k
  obtain⟨b,_,rfl,_,k⟩:=aY k
  obtain⟨c,_,rfl,_,k⟩:=aY k
  obtain⟨x,_,rfl,_,k⟩:=aY k
  obtain⟨y,_,rfl,_,k⟩:=aY k
  obtain⟨f,_,rfl,_,k⟩:=aY k
  cases cA k
  exact⟨⟨a,b,c,x,y,f⟩::N,rfl⟩
structure Sn where
 N:List (Int×Int)
 P:List Int
 W:List G.Wl
 g1:Bool
 g2:Bool
 g3:Bool
 ex:Int
 no:Int
 th:Int
 S:List U.Src
 f1:Bool
 F:List U.Fd
 f2:Bool
 hN:N.length≤maxLen
 hP:P.length≤maxLen
 hW:W.length≤maxLen
 hS:U.BH S
 hF:F.length≤maxLen
abbrev xF(s:Sn):List SV:=[.ao 2 (G.dt s.N) s.g1,.ao 1 (G.cY s.P) s.g2,.ao 5 (G.eX s.W) s.g3,af5 s.ex,af5 s.no,af5 s.th]
abbrev BO(s:Sn):List SV:=[.ao 7 (U.dW s.S) s.f1,.ao 6 (U.dP s.F) s.f2]
abbrev so(s:Sn)(L:List Em)(f:Bool)(b:Nat):List SV:=[.ao 2 (G.dt s.N) s.g1,.ao 1 (G.cY s.P) s.g2,.ao 5 (G.eX s.W) s.g3,af5 s.ex,af5 s.no,af5 s.th,.ao 7 (U.dW s.S) s.f1,.ao 6 (U.dP s.F) s.f2,.ao 4 (br L) f,.fn 180 [.ptr b 0 0 0]]
def eN(s:Sn):Bool:=G.gh s.N s.P s.W s.ex s.no s.th&&U.pB s.S s.F
def sig(s:Sn)(a:Em)(n:Int):Int:=U.V3 (eN s) (G.pC s.N a.n n) (U.cr a.c&&U.BT a.x) (U.Ca (G.p7 (G.atR s.W s.ex) s.N s.P a.n n) (U.Bc (U.z7 a.n n a.c a.x) s.F))
def ext(s:Sn)(a:Em)(n:Int):Int:=U.V3 (eN s) (U.eA s.N.length n) (U.cr a.c&&U.BY a.x a.y) (U.EP (U.FA s.N s.P s.W s.ex s.no s.th n.toNat) s.S a.c a.x a.y)
theorem SP(n:Nat)(H:ab)(a b:Int):aa T (n+1) (.fn 206) [af5 a,af5 b] H=some (.bool (decide (1000≤a)&&decide (a≤100000)&&decide (1≤b)&&decide (b≤68719476736)),H):=by
 refine ae Uf (by rfl) ?_
 simp only[Oc,ah,go_sem,simprocAttr]
 repeat' (with_reducible refine aD (fun _=>?_) (fun _=>?_)<;>simp only[*,go_sem,simprocAttr])
 all_goals simp_all
def R4(p th no:Int):Int:=bif G.cM p&&(decide (1000≤th)&&decide (th≤100000)&&decide (1≤no)&&decide (no≤68719476736))then max (bb ((bb ((bb (1000*p)).tdiv th))-no)) (-1)else 0
def Zk(p th no:Int):Int:=bif G.cM p&&(decide (1000≤th)&&decide (th≤100000)&&decide (1≤no)&&decide (no≤68719476736))then 0 else 2
theorem Uy(n:Nat)(H:ab)(p th no:Int):aa T (n+2) (.fn 181) [af5 p,af5 th,af5 no] H=some (.bc [af5 (R4 p th no),af5 (Zk p th no)],H):=by
 refine ae Wc (by rfl) ?_
 have h83:=fun H=>G.Nd n H p
 have h84:=fun H=>SP n H th no
 unfold R4 Zk
 cases k1:G.cM p with
 |false=>simp only[FI,ah,go_sem,simprocAttr,h83,k1]
 |true=>
  cases k2:(decide (1000≤th)&&decide (th≤100000)&&decide (1≤no)&&decide (no≤68719476736))with
  |false=>simp only[FI,ah,go_sem,simprocAttr,h83,h84,k1,k2]
  |true=>
   have h0:decide (th=0)=false:=acs (by simp only[acw,acr]at k2;omega)
   simp only[FI,ah,go_sem,simprocAttr,h83,h84,k1,k2,h0]
def wJ(s:Sn)(p q:Int):Bool:=decide (q≤R4 p s.th s.no)
theorem Ye(n:Nat)(H:ab)(s:Sn)(b:Nat)(p q:Int)(hb:H.bl[b]?=some (.box (xF s))):aa T (n+3) (.fn 180) [af5 p,af5 q,.ptr b 0 0 0] H=some (.bool (wJ s p q),H):=by
 refine nH Xv rfl rfl (fun R k bl ro hbl=>?_)
 obtain rfl:bl=H.bl:=by
  rcases hbl with⟨_,h2⟩|h
  ·simp[SV.refs.av,SV.refs]at h2
  ·exact h
 have h70:=fun H=>Uy n H p s.th s.no
 simp only[MQ,go_sem,simprocAttr,hb,h70]
 rfl
def fU(L:List Em)(a:Em)(n:Int):Bool:=!L.any fun b=>decide (b.n=n)&&vk b a
theorem rM{A:Type}{L:List A}{p:A→Bool}{i:Nat}{x:A}(h:L[i]?=some x)(hp:p x=true):L.any p=true:=adT.2 ⟨x,acy h,hp⟩
theorem any_none{A:Type}{L:List A}{p:A→Bool}{i:Nat}(hi:L.length≤i)(h:∀(j:Nat) x,j<i→L[j]?=some x→p x=false):L.any p=false:=by
 rw[List.any_eq_false]
 intro x hx
 obtain⟨j,hj⟩:=ac4 hx
 rw[h j x (by have:=(acm.1 hj).1;omega) hj]
 simp
theorem U3(n:Nat)(H:ab)(s:Sn)(L:List Em)(f:Bool)(b i:Nat)(a:Em)(k:Int)(hL:L.length≤maxLen)(ha:L[i]?=some a)(hb:b<H.bl.length) :
 aa T (n+2) (.fn 139) [.agg (so s L f b),af5 i,af5 k] H=some (.bool (fU L a k),H):=by
 refine de SA rfl rfl (fun R kk bl ro r hbl hk=>?_)
 obtain rfl:bl=H.bl:=by
  rcases hbl with⟨_,h2⟩|h
  ·simp[SV.refs.av,SV.refs]at h2
  ·exact h
 have hi:i<L.length:=(acm.1 ha).1
 generalize H.bl=bl at *
 clear hbl
 simp only[LB,go_sem,simprocAttr,aF,aE,aH,aG,az,aw,ax,ay,bj,aP,bg,aQ,aS,aR,aI,aO,aJ,aK,aA,ai,bM,bN,aco,acn,acD]
 refine ba (fun q=>([(1,af5 i),(2,af5 k),(3,.ptr bl.length 0 0 0),(10,.ao 4 (br L) f),(11,af5 L.length),(12,af5 q)],⟨bl++[.box (so s L f b)],[],min ro bl.length⟩))
  (fun q=>∀(j:Nat) x,j<q→L[j]?=some x→(decide (x.n=k)&&vk x a)=false) L.length (by simp only[go_sem,simprocAttr,aF,aE,aH,aG,az,aw,ax,ay,bj,aP,bg,aQ,aS,aR,aI,aO,aJ,aK,aA,ai,bM,bN,aco,acn,acD]) (fun j x h=>by omega) ?_
 intro q hq hP
 rcases acz q L.length with hlt|hge
 ·obtain⟨x,hx⟩:=bO hlt
  have hw:=bE hlt hL
  have h14:=fun H=>Jm n H x a
  have go:(decide (x.n=k)&&vk x a)=false→∀(j:Nat) y,j<q+1→L[j]?=some y→(decide (y.n=k)&&vk y a)=false:=fun h j y hj hy=>by
   rcases acz j q with h3|h3
   ·exact hP j y h3 hy
   ·obtain rfl:j=q:=by omega
    rw[hx]at hy;cases hy;exact h
  simp only[go_sem,simprocAttr,aF,aE,aH,aG,az,aw,ax,ay,bj,aP,bg,aQ,aS,aR,aI,aO,aJ,aK,aA,ai,bM,bN,aco,acn,acD,hlt,hx]
  cases k1:decide (x.n=k)with
  |false=>
   simp only[go_sem,simprocAttr,aF,aE,aH,aG,az,aw,ax,ay,bj,aP,bg,aQ,aS,aR,aI,aO,aJ,aK,aA,ai,bM,bN,aco,acn,acD,hlt,hw]
   exact⟨trivial,by first|trivial|rfl,go (by rw[k1];rfl)⟩
  |true=>
   cases k2:vk x a with
   |false=>
    simp only[go_sem,simprocAttr,aF,aE,aH,aG,az,aw,ax,ay,bj,aP,bg,aQ,aS,aR,aI,aO,aJ,aK,aA,ai,bM,bN,aco,acn,acD,hlt,hi,ha,h14,k2,hw]
    exact⟨trivial,by first|trivial|rfl,go (by rw[k1,k2];rfl)⟩
   |true=>
    have hf:fU L a k=false:=by rw[fU,rM hx (by rw[k1,k2];rfl)];rfl
    rw[hf]at hk
    simp only[go_sem,simprocAttr,aF,aE,aH,aG,az,aw,ax,ay,bj,aP,bg,aQ,aS,aR,aI,aO,aJ,aK,aA,ai,bM,bN,aco,acn,acD,hlt,hi,ha,h14,k2,hk]
 ·have hlt:¬q<L.length:=by omega
  have hf:fU L a k=true:=by rw[fU,any_none hge hP];rfl
  rw[hf]at hk
  simp only[go_sem,simprocAttr,aF,aE,aH,aG,az,aw,ax,ay,bj,aP,bg,aQ,aS,aR,aI,aO,aJ,aK,aA,ai,bM,bN,aco,acn,acD,hlt,hk]
theorem P5(n:Nat)(H:ab)(s:Sn)(L:List Em)(f:Bool)(b:Nat)(a:Em)(k:Int)(hb:b<H.bl.length) :
 aa T (n+13) (.fn 140) [.agg (so s L f b),.agg (qK a),af5 k] H=some (af5 (sig s a k),H):=by
 refine de Wr rfl rfl (fun R kk bl ro r hbl hk=>?_)
 obtain rfl:bl=H.bl:=by
  rcases hbl with⟨_,h2⟩|h
  ·simp[SV.refs.av,SV.refs]at h2
  ·exact h
 generalize H.bl=bl at *
 clear hbl
 have h71:=fun H=>U.W4 n H s.N s.P s.W s.g1 s.g2 s.g3 s.ex s.no s.th 7 s.S s.f1 6 s.F s.f2 a.n k a.c a.x s.hN s.hP s.hW (.inl rfl) (.inl rfl) s.hS s.hF
 simp only[Lz,go_sem,simprocAttr,aF,aE,aH,aG,az,aw,ax,ay,bj,aP,bg,aQ,aS,aR,aI,aO,aJ,aK,aA,ai,bM,bN,aco,acn,acD,h71]
 exact hk _
theorem Xi(n:Nat)(H:ab)(s:Sn)(L:List Em)(f:Bool)(b i:Nat)(a:Em)(k:Int)(ha:L[i]?=some a)(hb:b<H.bl.length) :
 aa T (n+13) (.fn 185) [.agg (so s L f b),af5 i,af5 k] H=some (af5 (ext s a k),H):=by
 refine de US rfl rfl (fun R kk bl ro r hbl hk=>?_)
 obtain rfl:bl=H.bl:=by
  rcases hbl with⟨_,h2⟩|h
  ·simp[SV.refs.av,SV.refs]at h2
  ·exact h
 have hi:i<L.length:=(acm.1 ha).1
 generalize H.bl=bl at *
 clear hbl
 have h72:=fun H=>U.SD n H s.N s.P s.W s.g1 s.g2 s.g3 s.ex s.no s.th s.S s.f1 s.F s.f2 k a.c a.x a.y s.hN s.hP s.hW s.hS s.hF
 simp only[N9,go_sem,simprocAttr,aF,aE,aH,aG,az,aw,ax,ay,bj,aP,bg,aQ,aS,aR,aI,aO,aJ,aK,aA,ai,bM,bN,aco,acn,acD,hi,ha,h72]
 exact hk _
theorem Xf(n:Nat)(bl:List aC)(es:List (Nat×Nat))(ro:Nat)(s:Sn)(L:List Em)(f:Bool)(b i:Nat)(k:Int):aa T (n+1) (.se 186) [.agg (so s L f b),af5 i,af5 k] ⟨bl,es,ro⟩=
 some (.fn 211 [.ptr bl.length 0 0 0,.ptr (bl.length+1) 0 0 0,.ptr (bl.length+2) 0 0 0],⟨bl++[.box (so s L f b),.box [af5 i],.box [af5 k]],es,ro⟩):=by
 refine eJ Sq ?_
 simp only[MH,go_sem,simprocAttr,aF,aE,aH,aG,az,aw,ax,ay,bj,aP,bg,aQ,aS,aR,aI,aO,aJ,aK,aA,ai,bM,bN,aco,acn,acD]
def jd(a:Em)(i:Nat)(k:Int)(q:Nat)(x:Em):Bool:=!decide ((q:Int)=(i:Int))&&decide (x.c=a.c)&&!decide (x.n=k)&&vk a x
def jt{A:Type}(u:A→Nat→Em→A)(a:Em)(i:Nat)(k:Int)(L:List Em)(v:A):Nat→A
 |0=>v
 |q+1=>match L[q]? with
  |some x=>bif jd a i k q x then u (jt u a i k L v q) q x else jt u a i k L v q
  |none=>jt u a i k L v q
theorem Uv(n:Nat)(es:List (Nat×Nat))(q:fj)(bl:List aC)(ro:Nat)(X0:aC){A:Type}(X1 X2:A→aC)(u:A→Nat→Em→A)(s:Sn)(L:List Em)(f:Bool)(b i:Nat)(a:Em)(k:Int)(hL:L.length≤maxLen)(ha:L[i]?=some a)(hb:b<bl.length)(hro:ro≤bl.length)
 (P:Nat→A→Prop) (hPs:∀v j,P j v→P (j+1) v) (hPu:∀v j x,P j v→P (j+1) (u v j x))
 (hy:∀(v:A) (j:Nat) (x:Em) (X:aC),P j v→j<L.length→L[j]?=some x→aa T (n+1) (.fP (bl.length+6)) [af5 j,.agg (qK x)] ⟨bl++[X0,X1 v,X2 v,.box (so s L f b),.box [af5 i],.box [af5 k],.loop q .ready .normal,X],[],ro⟩=
  some (.bool true,⟨bl++[X0,X1 (u v j x),X2 (u v j x),.box (so s L f b),.box [af5 i],.box [af5 k],.loop q .ready .normal,X],[],ro⟩)) (v:A) (hP0:P 0 v) :
 aa T (n+2) (.fn 211) [.fP (bl.length+6),.ptr (bl.length+3) 0 0 0,.ptr (bl.length+4) 0 0 0,.ptr (bl.length+5) 0 0 0] ⟨bl++[X0,X1 v,X2 v,.box (so s L f b),.box [af5 i],.box [af5 k],.loop q .ready .normal],es,ro⟩=
  some (.bc [],⟨bl++[X0,X1 (jt u a i k L v L.length),X2 (jt u a i k L v L.length),.box (so s L f b),.box [af5 i],.box [af5 k],.loop q .ready .normal],es,ro⟩):=by
 refine bm Te (qm (by simp[SV.refs.av,SV.refs])) ?_
 have hm:∀k,min ro (bl.length+k)=ro:=fun k=>adM (by omega)
 have hm2:∀k,decide (ro≤bl.length+k)=true:=fun k=>acp (by omega)
 have hi:i<L.length:=(acm.1 ha).1
 simp only[PQ,go_sem,simprocAttr,aF,aE,aH,aG,az,aw,ax,ay,bj,aP,bg,aQ,aS,aR,aI,aO,aJ,aK,aA,ai,bM,bN,aco,acn,acD,hm,hm2]
 refine ba (fun q'=>([(0,.fP (bl.length+6)),(1,.ptr (bl.length+3) 0 0 0),(2,.ptr (bl.length+4) 0 0 0),(3,.ptr (bl.length+5) 0 0 0),(8,.ao 4 (br L) f),(9,af5 L.length),(10,af5 q')],
  ⟨bl++[X0,X1 (jt u a i k L v q'),X2 (jt u a i k L v q'),.box (so s L f b),.box [af5 i],.box [af5 k],.loop q .ready .normal],[],ro⟩)) (fun q'=>P q' (jt u a i k L v q')) L.length (by simp only[go_sem,simprocAttr,aF,aE,aH,aG,az,aw,ax,ay,bj,aP,bg,aQ,aS,aR,aI,aO,aJ,aK,aA,ai,bM,bN,aco,acn,acD,hm,hm2,Nat.reduceAdd];rfl) hP0 ?_
 intro q' hq hPq
 rcases acz q' L.length with hlt|hge
 ·obtain⟨x,hx⟩:=bO hlt
  have hw:=bE hlt hL
  have h14:=fun H=>Jm n H a x
  have hyy:=fun X=>hy _ q' x X hPq hlt hx
  have hPn:=hPs _ _ hPq
  have no:jd a i k q' x=false→jt u a i k L v (q'+1)=jt u a i k L v q':=fun h=>by simp only[jt,hx,h,acJ]
  cases k1:decide ((q':Int)=(i:Int))with
  |true=>
   have e1:=no (by simp only[jd,k1];rfl)
   simp only[go_sem,simprocAttr,aF,aE,aH,aG,az,aw,ax,ay,bj,aP,bg,aQ,aS,aR,aI,aO,aJ,aK,aA,ai,bM,bN,aco,acn,acD,hm,hm2,hlt,hi,ha,hx,k1,hw,e1]
   exact⟨trivial,by first|trivial|rfl,hPn⟩
  |false=>
   cases k2:decide (x.c=a.c)with
   |false=>
    have e1:=no (by simp only[jd,k1,k2];rfl)
    simp only[go_sem,simprocAttr,aF,aE,aH,aG,az,aw,ax,ay,bj,aP,bg,aQ,aS,aR,aI,aO,aJ,aK,aA,ai,bM,bN,aco,acn,acD,hm,hm2,hlt,hi,ha,hx,k1,k2,hw,e1]
    exact⟨trivial,by first|trivial|rfl,hPn⟩
   |true=>
    cases k3:decide (x.n=k)with
    |true=>
     have e1:=no (by simp only[jd,k1,k2,k3];rfl)
     simp only[go_sem,simprocAttr,aF,aE,aH,aG,az,aw,ax,ay,bj,aP,bg,aQ,aS,aR,aI,aO,aJ,aK,aA,ai,bM,bN,aco,acn,acD,hm,hm2,hlt,hi,ha,hx,k1,k2,k3,hw,e1]
     exact⟨trivial,by first|trivial|rfl,hPn⟩
    |false=>
     cases k4:vk a x with
     |false=>
      have e1:=no (by simp only[jd,k1,k2,k3,k4];rfl)
      simp only[go_sem,simprocAttr,aF,aE,aH,aG,az,aw,ax,ay,bj,aP,bg,aQ,aS,aR,aI,aO,aJ,aK,aA,ai,bM,bN,aco,acn,acD,hm,hm2,hlt,hi,ha,hx,k1,k2,k3,h14,k4,hw,e1]
      exact⟨trivial,by first|trivial|rfl,hPn⟩
     |true=>
      have e1:jt u a i k L v (q'+1)=u (jt u a i k L v q') q' x:=by
       have:jd a i k q' x=true:=by simp only[jd,k1,k2,k3,k4];rfl
       simp only[jt,hx,this,acG]
      have hPn:=hPu _ _ x hPq
      simp only[go_sem,simprocAttr,aF,aE,aH,aG,az,aw,ax,ay,bj,aP,bg,aQ,aS,aR,aI,aO,aJ,aK,aA,ai,bM,bN,aco,acn,acD,hm,hm2,hlt,hi,ha,hx,k1,k2,k3,h14,k4,hyy,hw,e1]
      exact⟨trivial,by first|trivial|rfl,hPn⟩
 ·obtain rfl:q'=L.length:=by omega
  simp only[go_sem,simprocAttr,aF,aE,aH,aG,az,aw,ax,ay,bj,aP,bg,aQ,aS,aR,aI,aO,aJ,aK,aA,ai,bM,bN,aco,acn,acD,hm,hm2,show decide ((L.length:Int)<(L.length:Int))=false from acs (by omega)]
def inter(s:Sn)(L:List Em)(i:Nat)(a:Em)(k:Int):Int:=jt (fun v _ x=>bb (v+sig s x k)) a i k L (ext s a k) L.length
theorem S3(n:Nat)(H:ab)(s:Sn)(L:List Em)(f:Bool)(b i:Nat)(a:Em)(k:Int)(hL:L.length≤maxLen)(ha:L[i]?=some a)(hb:b<H.bl.length) :
 aa T (n+16) (.fn 141) [.agg (so s L f b),af5 i,af5 k] H=some (af5 (inter s L i a k),H):=by
 refine de VA rfl rfl (fun R kk bl ro r hbl hk=>?_)
 obtain rfl:bl=H.bl:=by
  rcases hbl with⟨_,h2⟩|h
  ·simp[SV.refs.av,SV.refs]at h2
  ·exact h
 generalize H.bl=bl at *
 clear hbl
 have hro:min ro bl.length≤bl.length:=Nat.min_le_right _ _
 generalize min ro bl.length=ro' at *
 have hm:∀k,min ro' (bl.length+k)=ro':=fun k=>adM (by omega)
 have hm2:∀k,decide (ro'≤bl.length+k)=true:=fun k=>acp (by omega)
 have hm3:decide (ro'≤bl.length)=true:=acp hro
 have h43:=fun l es ro=>Xi (n+2) ⟨bl++l,es,ro⟩ s L f b i a k ha (by simp;omega)
 have h44:=fun l es ro=>Xf (n+14) (bl++l) es ro s L f b i k
 simp only[Ou,go_sem,simprocAttr,aF,aE,aH,aG,az,aw,ax,ay,bj,aP,bg,aQ,aS,aR,aI,aO,aJ,aK,aA,ai,bM,bN,aco,acn,acD,hm,hm2,h43,h44]
 refine G.jn _ (Uv (n+13) _ _ bl ro' _ (fun _=>.box [af5 k]) (fun v=>.box [af5 v]) (fun v _ x=>bb (v+sig s x k)) s L f b i a k hL ha hb hro (fun _ _=>True) (fun _ _ h=>h) (fun _ _ _ h=>h) ?_ (ext s a k) trivial) ?_
 ·intro v j x X _ _ hx
  have h42:=fun l es ro=>P5 n ⟨bl++l,es,ro⟩ s L f b x k (by simp;omega)
  refine pd (by simp only[bk];exact aE bl _ 6) rfl ?_
  simp only[go_sem,simprocAttr,aF,aE,aH,aG,az,aw,ax,ay,bj,aP,bg,aQ,aS,aR,aI,aO,aJ,aK,aA,ai,bM,bN,aco,acn,acD,hm,hm2,hm3,h42]
 ·simp only[go_sem,simprocAttr,aF,aE,aH,aG,az,aw,ax,ay,bj,aP,bg,aQ,aS,aR,aI,aO,aJ,aK,aA,ai,bM,bN,aco,acn,acD,hm,hm2,hm3]
  exact hk _
def fk(s:Sn)(L:List Em)(i:Nat)(a:Em)(k:Int):Bool:=fU L a k&&wJ s (sig s a k) (inter s L i a k)
theorem YV(n:Nat)(H:ab)(s:Sn)(L:List Em)(f:Bool)(b i:Nat)(a:Em)(k:Int)(hL:L.length≤maxLen)(ha:L[i]?=some a)(hb:H.bl[b]?=some (.box (xF s))) :
 aa T (n+17) (.fn 85) [.agg (so s L f b),af5 i,af5 k] H=some (.bool (fk s L i a k),H):=by
 have hbl':=(acm.1 hb).1
 refine de e85 rfl rfl (fun R kk bl ro r hbl hk=>?_)
 obtain rfl:bl=H.bl:=by
  rcases hbl with⟨_,h2⟩|h
  ·simp[SV.refs.av,SV.refs]at h2
  ·exact h
 generalize H.bl=bl at *
 clear hbl
 have hro:min ro bl.length≤bl.length:=Nat.min_le_right _ _
 generalize min ro bl.length=ro' at *
 have hi:i<L.length:=(acm.1 ha).1
 have h41:=fun l es ro=>U3 (n+14) ⟨bl++l,es,ro⟩ s L f b i a k hL ha (by simp;omega)
 have h42:=fun l es ro=>P5 (n+3) ⟨bl++l,es,ro⟩ s L f b a k (by simp;omega)
 have h48:=fun l es ro=>S3 n ⟨bl++l,es,ro⟩ s L f b i a k hL ha (by simp;omega)
 have h69:=fun p q l es ro=>Ye (n+13) ⟨bl++l,es,ro⟩ s b p q (fm hb)
 cases k1:fU L a k with
 |false=>
  rw[fk,k1,ac3]at hk
  simp only[Yh,go_sem,simprocAttr,aF,aE,aH,aG,az,aw,ax,ay,bj,aP,bg,aQ,aS,aR,aI,aO,aJ,aK,aA,ai,bM,bN,aco,acn,acD,h41,k1]
  exact hk _
 |true=>
  rw[fk,k1,ac9]at hk
  simp only[Yh,go_sem,simprocAttr,aF,aE,aH,aG,az,aw,ax,ay,bj,aP,bg,aQ,aS,aR,aI,aO,aJ,aK,aA,ai,bM,bN,aco,acn,acD,h41,k1,hi,ha,h42,h48,h69]
  exact hk _
theorem PH(n:Nat)(bl:List aC)(es:List (Nat×Nat))(ro:Nat)(s:Sn)(L:List Em)(f:Bool)(hL:L.length≤maxLen)(hro:ro≤bl.length):aa T (n+9) (.se 136) [.agg (xF s),.agg (BO s),.ao 4 (br L) f] ⟨bl,es,ro⟩=
 some (.bc [.agg (so s L f bl.length),af5 (pr (eN s) s.N.length L)],⟨bl++[.box (xF s),.box (BO s),.box (so s L f bl.length)],es,ro⟩):=by
 refine eJ Sw ?_
 have hm0:min ro bl.length=ro:=adM hro
 have hm:∀k,min ro (bl.length+k)=ro:=fun k=>adM (by omega)
 have hm2:∀k,decide (ro≤bl.length+k)=true:=fun k=>acp (by omega)
 have h11:=fun H=>XP n H s.N s.P s.W s.g1 s.g2 s.g3 s.ex s.no s.th 7 s.S s.f1 6 s.F s.f2 L f s.hN s.hP s.hW (.inl rfl) (.inl rfl) s.hS s.hF hL
 simp only[LX,go_sem,simprocAttr,aF,aE,aH,aG,az,aw,ax,ay,bj,aP,bg,aQ,aS,aR,aI,aO,aJ,aK,aA,ai,bM,bN,aco,acn,acD,hm0,hm,hm2,h11]
 rfl
def Ap(s:Sn)(L:List Em)(i k:Int):Int:=bif decide (pr (eN s) s.N.length L=0)then(bif decide (i<0)||decide ((L.length:Int)≤i)||decide (k<0)||decide ((s.N.length:Int)≤k)then 7 else 0)else pr (eN s) s.N.length L
theorem Xg(n:Nat)(bl:List aC)(es:List (Nat×Nat))(ro:Nat)(s:Sn)(L:List Em)(f:Bool)(i k:Int)(hL:L.length≤maxLen)(hro:ro≤bl.length):aa T (n+10) (.se 84) [.agg (xF s),.agg (BO s),.ao 4 (br L) f,af5 i,af5 k] ⟨bl,es,ro⟩=
 some (.bc [.agg (so s L f (bl.length+3)),af5 (Ap s L i k)],⟨bl++[.box (xF s),.box (BO s),.box (so s L f (bl.length+3)),.box (xF s),.box (BO s),.box (so s L f (bl.length+3)),.box (so s L f (bl.length+3))],es++[(bl.length+2,bl.length+4)],ro⟩):=by
 refine eJ e84 ?_
 have hm0:min ro bl.length=ro:=adM hro
 have hm:∀k,min ro (bl.length+k)=ro:=fun k=>adM (by omega)
 have hm2:∀k,decide (ro≤bl.length+k)=true:=fun k=>acp (by omega)
 have h38:=fun l es=>PH n (bl++l) es ro s L f hL (by simp;omega)
 unfold Ap
 cases k0:decide (pr (eN s) s.N.length L=0)with
 |false=>
  simp only[JY,go_sem,simprocAttr,aF,aE,aH,aG,az,aw,ax,ay,bj,aP,bg,aQ,aS,aR,aI,aO,aJ,aK,aA,ai,bM,bN,aco,acn,acD,hm0,hm,hm2,h38,k0,afg,aez]
 |true=>
  have k0':=acQ k0
  cases k1:decide (i<0)with
  |true=>simp only[JY,go_sem,simprocAttr,aF,aE,aH,aG,az,aw,ax,ay,bj,aP,bg,aQ,aS,aR,aI,aO,aJ,aK,aA,ai,bM,bN,aco,acn,acD,hm0,hm,hm2,h38,k0,k0',k1,afg,aez]
  |false=>
   cases k2:decide ((L.length:Int)≤i)with
   |true=>simp only[JY,go_sem,simprocAttr,aF,aE,aH,aG,az,aw,ax,ay,bj,aP,bg,aQ,aS,aR,aI,aO,aJ,aK,aA,ai,bM,bN,aco,acn,acD,hm0,hm,hm2,h38,k0,k0',k1,k2,afg,aez]
   |false=>
    cases k3:decide (k<0)with
    |true=>simp only[JY,go_sem,simprocAttr,aF,aE,aH,aG,az,aw,ax,ay,bj,aP,bg,aQ,aS,aR,aI,aO,aJ,aK,aA,ai,bM,bN,aco,acn,acD,hm0,hm,hm2,h38,k0,k0',k1,k2,k3,afg,aez]
    |false=>
     cases k4:decide ((s.N.length:Int)≤k)with
     |true=>simp only[JY,go_sem,simprocAttr,aF,aE,aH,aG,az,aw,ax,ay,bj,aP,bg,aQ,aS,aR,aI,aO,aJ,aK,aA,ai,bM,bN,aco,acn,acD,hm0,hm,hm2,h38,k0,k0',k1,k2,k3,G.aM,k4,afg,aez]
     |false=>simp only[JY,go_sem,simprocAttr,aF,aE,aH,aG,az,aw,ax,ay,bj,aP,bg,aQ,aS,aR,aI,aO,aJ,aK,aA,ai,bM,bN,aco,acn,acD,hm0,hm,hm2,h38,k0,k0',k1,k2,k3,G.aM,k4,afg,aez]
theorem Kp{s:Sn}{L:List Em}{i k:Int}(h:Ap s L i k=0):pr (eN s) s.N.length L=0∧(0≤i∧i<L.length)∧0≤k∧k<s.N.length:=by
 unfold Ap at h
 cases h0:decide (pr (eN s) s.N.length L=0)with
 |false=>rw[h0,acJ]at h;exact absurd h (adi h0)
 |true=>
  rw[h0,acG]at h
  cases h1:decide (i<0)||decide ((L.length:Int)≤i)||decide (k<0)||decide ((s.N.length:Int)≤k)with
  |true=>rw[h1]at h;cases h
  |false=>
   simp only[Bool.or_eq_false_iff,acx]at h1
   exact⟨acQ h0,by omega,by omega⟩
def Q9(s:Sn)(L:List Em)(i k:Int):SV:=bif decide (Ap s L i k=0)then .bc [.bool (match L[i.toNat]? with|some a=>fk s L i.toNat a k|none=>false),af6]else .bc [.bool false,af5 (Ap s L i k)]
theorem s47(n:Nat)(H:ab)(s:Sn)(L:List Em)(f:Bool)(i k:Int)(hL:L.length≤maxLen):aa T (n+18) (.fn 47) [.agg (xF s),.agg (BO s),.ao 4 (br L) f,af5 i,af5 k] H=some (Q9 s L i k,H):=by
 refine ae e47 (by rfl) ?_
 have h40:=fun x y es=>Xg (n+7) [x,y] es 0 s L f i k hL (by simp)
 unfold Q9
 cases h0:decide (Ap s L i k=0)with
 |false=>simp only[VM,ah,go_sem,simprocAttr,h40,h0]
 |true=>
  have h0':=acQ h0
  obtain⟨_,⟨hi0,hi1⟩,hk0,hk1⟩:=Kp h0'
  obtain⟨q,rfl⟩:∃q:Nat,i=q:=⟨i.toNat,by omega⟩
  obtain⟨a,ha⟩:=bO (l:=L) (i:=q) (by omega)
  have h39:=fun x0 x1 x2 x3 x4 x6 x7 x8 x9 es ro=>YV n ⟨[x0,x1,x2,x3,x4,.box (xF s),x6,x7,x8,x9],es,ro⟩ s L f 5 q a k hL ha rfl
  simp only[VM,ah,go_sem,simprocAttr,h40,h0,h0',h39,ha]
def xE(L:List Em)(y:Em)(o:Option Nat)(x:Em):Bool:=decide (x.c=y.c)&&!decide (x.x<y.x)&&!decide (y.y<x.x)&&!(match o with|some b=>(match L[b]? with|some z=>decide (z.x≤x.x)|none=>false)|none=>false)
def iy(s:Sn)(L:List Em)(y:Em):Nat→Option Nat
 |0=>none
 |q+1=>match L[q]? with
  |some x=>bif xE L y (iy s L y q) x&&fk s L q x y.n then some q else iy s L y q
  |none=>iy s L y q
def Fl:Option Nat→Int
 |some b=>b
 |none=>0
theorem yf(s:Sn)(L:List Em)(y:Em):∀q b,iy s L y q=some b→b<q∧b<L.length
 |0,b,h=>by cases h
 |q+1,b,h=>by
  have ih:=yf s L y q
  simp only[iy]at h
  cases hx:L[q]? with
  |none=>rw[hx]at h;have:=ih b h;omega
  |some x=>
   rw[hx]at h
   cases hc:xE L y (iy s L y q) x&&fk s L q x y.n with
   |true=>
    simp only[hc,acG,acN]at h
    have:=(acm.1 hx).1
    omega
   |false=>simp only[hc,acJ]at h;have:=ih b h;omega
def Jv(y:Em):Bool:=decide (y.c<0)||decide (16≤y.c)||decide (y.x<0)||decide (y.y<y.x)||decide (1099511627776<y.y)
def KZ(s:Sn)(L:List Em)(y:Em):SV:=bif decide (pr (eN s) s.N.length L=0)then(bif decide (y.n<0)||decide ((s.N.length:Int)≤y.n)then .bc [af6,.bool false,af5 7]else
 bif Jv y then .bc [af6,.bool false,af5 2]else .bc [af5 (Fl (iy s L y L.length)),.bool (iy s L y L.length).isSome,af6])else .bc [af6,.bool false,af5 (pr (eN s) s.N.length L)]
@[go_sem] theorem AY (e H r s t):results1 e H [r,s,t]=(dR e H r).bind fun a=>(dR e H s).bind fun b=>(dR e H t).map fun c=>.bc [a,b,c]:=by
  unfold results1
  cases h:dR e H r<;>cases h':dR e H s<;>cases h'':dR e H t<;>simp[bR,h,h',h'']
theorem s82(n:Nat)(H:ab)(s:Sn)(L:List Em)(f:Bool)(y:Em)(hL:L.length≤maxLen):aa T (n+18) (.fn 82) [.agg (xF s),.agg (BO s),.ao 4 (br L) f,.agg (qK y)] H=some (KZ s L y,H):=by
 refine ae e82 (by rfl) ?_
 have h38:=fun x y z es=>PH (n+8) [x,y,z] es 0 s L f hL (by simp)
 unfold KZ
 cases h0:decide (pr (eN s) s.N.length L=0)with
 |false=>simp only[Fh,ah,go_sem,simprocAttr,h38,h0]
 |true=>
  have h0':=acQ h0
  cases k1:decide (y.n<0)with
  |true=>simp only[Fh,ah,go_sem,simprocAttr,h38,h0,k1]
  |false=>
  cases k2:decide ((s.N.length:Int)≤y.n)with
  |true=>simp only[Fh,ah,go_sem,simprocAttr,h38,h0,k1,G.aM,k2]
  |false=>
  unfold Jv
  cases k3:decide (y.c<0)with
  |true=>simp only[Fh,ah,go_sem,simprocAttr,h38,h0,k1,G.aM,k2,k3]
  |false=>
  cases k4:decide (16≤y.c)with
  |true=>simp only[Fh,ah,go_sem,simprocAttr,h38,h0,k1,G.aM,k2,k3,k4]
  |false=>
  cases k5:decide (y.x<0)with
  |true=>simp only[Fh,ah,go_sem,simprocAttr,h38,h0,k1,G.aM,k2,k3,k4,k5]
  |false=>
  cases k6:decide (y.y<y.x)with
  |true=>simp only[Fh,ah,go_sem,simprocAttr,h38,h0,k1,G.aM,k2,k3,k4,k5,k6]
  |false=>
  cases k7:decide (1099511627776<y.y)with
  |true=>simp only[Fh,ah,go_sem,simprocAttr,h38,h0,k1,G.aM,k2,k3,k4,k5,k6,k7]
  |false=>
   simp only[Fh,ah,go_sem,simprocAttr,h38,h0,h0',k1,G.aM,k2,k3,k4,k5,k6,k7]
   refine ba (fun q=>([(2,.ao 4 (br L) f),(7,.ptr 2 0 0 0),(11,.ptr 6 0 0 0),(13,af5 (Fl (iy s L y q))),(14,.bool (iy s L y q).isSome),(66,.ao 4 (br L) f),(67,af5 L.length),(68,af5 q)],
    ⟨[.box (xF s),.box (BO s),.box (qK y),.box (xF s),.box (BO s),.box (so s L f 3),.box (so s L f 3)],[],0⟩)) (fun _=>True) L.length (by simp only[go_sem,simprocAttr];rfl) trivial ?_
   intro q hq _
   rcases acz q L.length with hlt|hge
   ·obtain⟨x,hx⟩:=bO hlt
    have hw:=bE hlt hL
    have h39:=fun x0 x1 x2 x4 x5 x6 x7 es ro=>YV n ⟨[x0,x1,x2,.box (xF s),x4,x5,x6,x7],es,ro⟩ s L f 3 q x y.n hL hx rfl
    have no:(xE L y (iy s L y q) x&&fk s L q x y.n)=false→iy s L y (q+1)=iy s L y q:=fun h=>by simp only[iy,hx,h,acJ]
    cases j1:decide (x.c=y.c)with
    |false=>
     have e1:=no (by simp only[xE,j1];rfl)
     simp only[go_sem,simprocAttr,hlt,hx,j1,hw,e1]
     exact⟨trivial,by first|trivial|rfl,trivial⟩
    |true=>
    cases j2:decide (x.x<y.x)with
    |true=>
     have e1:=no (by simp only[xE,j1,j2];rfl)
     simp only[go_sem,simprocAttr,hlt,hx,j1,j2,hw,e1]
     exact⟨trivial,by first|trivial|rfl,trivial⟩
    |false=>
    cases j3:decide (y.y<x.x)with
    |true=>
     have e1:=no (by simp only[xE,j1,j2,j3];rfl)
     simp only[go_sem,simprocAttr,hlt,hx,j1,j2,j3,hw,e1]
     exact⟨trivial,by first|trivial|rfl,trivial⟩
    |false=>
    have hcase:xE L y (iy s L y q) x=!(match iy s L y q with|some b=>(match L[b]? with|some z=>decide (z.x≤x.x)|none=>false)|none=>false):=by simp only[xE,j1,j2,j3];rfl
    cases ho:iy s L y q with
    |none=>
     rw[ho]at hcase no
     cases hr:fk s L q x y.n with
     |false=>
      have e1:=no (by rw[hr,adk])
      rw[hr]at h39
      simp only[go_sem,simprocAttr,hlt,hx,j1,j2,j3,ho,Fl,afN,h39,hw,e1]
      exact⟨trivial,by first|trivial|rfl,trivial⟩
     |true=>
      have e1:iy s L y (q+1)=some q:=by simp only[iy,hx,ho,hcase,hr,adU,acW,acG]
      rw[hr]at h39
      simp only[go_sem,simprocAttr,hlt,hx,j1,j2,j3,ho,Fl,afN,h39,hw,e1,aeZ]
      exact⟨trivial,by first|trivial|rfl,trivial⟩
    |some b=>
     have hbl:=(yf s L y q b ho).2
     obtain⟨z,hz⟩:=bO hbl
     rw[ho]at hcase no
     simp only[hz]at hcase
     cases j4:decide (z.x≤x.x)with
     |true=>
      have e1:=no (by rw[hcase,j4];rfl)
      simp only[go_sem,simprocAttr,hlt,hx,j1,j2,j3,ho,Fl,aeZ,hbl,hz,j4,hw,e1]
      exact⟨trivial,by first|trivial|rfl,trivial⟩
     |false=>
      cases hr:fk s L q x y.n with
      |false=>
       have e1:=no (by rw[hr,adk])
       rw[hr]at h39
       simp only[go_sem,simprocAttr,hlt,hx,j1,j2,j3,ho,Fl,aeZ,hbl,hz,j4,h39,hw,e1]
       exact⟨trivial,by first|trivial|rfl,trivial⟩
      |true=>
       have e1:iy s L y (q+1)=some q:=by simp only[iy,hx,ho,hcase,hr,j4,adU,acW,acG]
       rw[hr]at h39
       simp only[go_sem,simprocAttr,hlt,hx,j1,j2,j3,ho,Fl,aeZ,hbl,hz,j4,h39,hw,e1]
       exact⟨trivial,by first|trivial|rfl,trivial⟩
   ·obtain rfl:q=L.length:=by omega
    simp only[go_sem,simprocAttr,show decide ((L.length:Int)<(L.length:Int))=false from acs (by omega)]
theorem Of{B f:Int}(hB:G.cM B=true)(h0:0≤f)(h1:f≤1000):U.Ca B f=B*f/1000:=by
 rw[G.j9]at hB
 have hm:B*f≤B*1000:=adQ h1 hB.1
 have hn:0≤B*f:=afQ hB.1 h0
 have e1:bb (B*f)=B*f:=al (by omega) (by omega)
 have e2:(B*f).tdiv 1000=B*f/1000:=ad4 hn
 unfold U.Ca
 rw[e1,e2]
 exact al (by omega) (by omega)
theorem IZ{B f:Int}(hB:G.cM B=true)(h0:0≤f)(h1:f≤1000):0≤U.Ca B f∧U.Ca B f≤68719476736:=by
 rw[Of hB h0 h1]
 rw[G.j9]at hB
 have hm:B*f≤B*1000:=adQ h1 hB.1
 have hn:0≤B*f:=afQ hB.1 h0
 omega
theorem zN{s:Sn}(h:eN s=true)(a:Em)(k:Int):0≤sig s a k∧sig s a k≤68719476736:=by
 simp only[eN,acw]at h
 unfold sig U.V3
 cases hc:eN s&&G.pC s.N a.n k&&(U.cr a.c&&U.BT a.x)with
 |false=>simp only[acJ];omega
 |true=>
  simp only[acw]at hc
  simp only[acG]
  have hp:=(G.uq (W:=s.W) (ex:=s.ex) h.1 hc.1.2).2
  have hl:=U.D3 (U.z7 a.n k a.c a.x) (U.Cw h.2)
  exact IZ hp hl.1 hl.2
theorem FV{N:List (Int×Int)}{P:List Int}{W:List G.Wl}{ex no th:Int}(hok:G.gh N P W ex no th=true)(k:Nat)(s:U.Src):0≤U.FA N P W ex no th k s∧U.FA N P W ex no th k s≤68719476736:=by
 unfold U.FA
 cases ha:G.oK s.a s.b s.p (G.nd N k).1 (G.nd N k).2 with
 |false=>simp only[G.o5,hok,adk,acJ];omega
 |true=>
  have:=G.j9.1 (G.Dx hok ha).2
  simp only[G.o5,hok,acW,acG];exact this
theorem qB{f:U.Src→Int}(h:∀s,0≤f s∧f s≤68719476736)(c x y:Int):∀(S:List U.Src) (v:Int),0≤v→v+S.length*68719476736≤4611686018427387904→
 0≤S.foldl (U.rL (fun v s=>bb (v+f s)) c x y) v∧S.foldl (U.rL (fun v s=>bb (v+f s)) c x y) v≤v+S.length*68719476736
 |[],v,h0,_=>by simp only[af4,acV];omega
 |s::S,v,h0,hb=>by
  have hs:=h s
  simp only[acR]at hb⊢
  simp only[adB,U.rL]
  split
  ·have e:bb (v+f s)=v+f s:=al (by omega) (by omega)
   rw[e]
   have:=qB h c x y S (v+f s) (by omega) (by omega)
   omega
  ·have:=qB h c x y S v h0 (by omega)
   omega
theorem Ah{s:Sn}(h:eN s=true)(a:Em)(k:Int):0≤ext s a k∧ext s a k≤1099511627776:=by
 simp only[eN,acw]at h
 unfold ext U.V3
 cases hc:eN s&&U.eA s.N.length k&&(U.cr a.c&&U.BY a.x a.y)with
 |false=>simp only[acJ];omega
 |true=>
  simp only[acG]
  have hS:s.S.length≤16:=by
   have:=h.2
   simp only[U.pB,acw,acr]at this
   omega
  have:=qB (f:=U.FA s.N s.P s.W s.ex s.no s.th k.toNat) (fun t=>FV h.1 _ t) a.c a.x a.y s.S 0 (by omega) (by omega)
  unfold U.EP
  omega
def il(g:Em→Int)(a:Em)(i:Nat)(k:Int)(L:List Em):Nat→Int
 |0=>0
 |q+1=>match L[q]? with
  |some x=>il g a i k L q+bif jd a i k q x then g x else 0
  |none=>il g a i k L q
theorem wu{g:Em→Int}(h:∀x,0≤g x∧g x≤68719476736)(a:Em)(i:Nat)(k:Int)(L:List Em):∀q,0≤il g a i k L q∧il g a i k L q≤q*68719476736
 |0=>by simp[il]
 |q+1=>by
  have ih:=wu h a i k L q
  simp only[il]
  cases L[q]? with
  |none=>simp only;omega
  |some x=>
   have:=h x
   simp only
   cases jd a i k q x<;>simp only[acG,acJ]<;>omega
theorem vX{g:Em→Int}(h:∀x,0≤g x∧g x≤68719476736)(a:Em)(i:Nat)(k:Int)(L:List Em)(e:Int)(h0:0≤e)(h1:e≤1099511627776):∀q,q≤1000→jt (fun v _ x=>bb (v+g x)) a i k L e q=e+il g a i k L q
 |0,_=>by simp[jt,il]
 |q+1,hq=>by
  have ih:=vX h a i k L e h0 h1 q (by omega)
  have hr:=wu h a i k L q
  simp only[jt,il]
  cases L[q]? with
  |none=>exact ih
  |some x=>
   have:=h x
   simp only
   cases jd a i k q x with
   |false=>simp only[acJ];rw[ih];omega
   |true=>
    simp only[acG]
    rw[ih,al (by omega) (by omega)]
    omega
theorem ia{s:Sn}(h:eN s=true){L:List Em}(hL:L.length≤1000)(i:Nat)(a:Em)(k:Int):inter s L i a k=ext s a k+il (fun x=>sig s x k) a i k L L.length:=
 vX (fun x=>zN h x k) a i k L _ (Ah h a k).1 (Ah h a k).2 _ hL
end A

end Go.Sh
