/- A part of the proof: texts K19w, ShLs. -/
import Derived.Test.YtcfgikdpokjhpaaGreatB7
import Derived.Test.YtcfgikdpokjhpaaGreatB6
namespace Go.Sh
set_option linter.unusedSectionVars false
set_option linter.unnecessarySimpa false
set_option linter.unusedSimpArgs false
set_option linter.unusedVariables false
set_option maxRecDepth 100000
set_option maxHeartbeats 4000000
namespace A
structure Em where
 n:Int
 c:Int
 x:Int
 y:Int
abbrev qC(e:Em):List SV:=[acH e.n,acH e.c,acH e.x,acH e.y]
def bM(L:List Em):List (List SV):=L.map qC
@[go_sem] theorem dq {L:List Em}:(bM L).length=L.length:=by simp[bM]
@[go_sem] theorem tQ {L:List Em}{i:Nat}:(bM L)[i]?=(L[i]?).map qC:=by simp[bM]
theorem zw(L:List Em)(i:Nat):(bM L).take i=bM (L.take i):=by simp[bM]
def uy(a b:Em):Bool:=decide (max a.x b.x<min a.y b.y)
theorem Eu(a b:Em):uy a b=uy b a:=by unfold uy;rw[Int.max_comm,Int.min_comm]
theorem HV(n:Nat)(H:ab)(a b:Em):aa T (n+1) (.fn 183) [.agg (qC a),.agg (qC b)] H=some (.bool (uy a b),H):=by
 refine ae RP (by rfl) ?_
 simp only[Kh,ah,go_sem,simprocAttr]
 rfl
def zi(a:Em):Bool:=U.di a.c&&decide (0≤a.x)&&decide (a.x<a.y)&&decide (a.y≤1099511627776)
def jf(a b:Em):Bool:=decide (b.n=a.n)&&uy a b
def sX(n:Nat)(pre:List Em)(a:Em):Int:=bif U.eB n a.n then(bif zi a then(bif pre.any (jf a)then 16 else 0)else 2)else 7
def yf(n:Nat)(L:List Em):Nat→Nat→Int
 |0,_=>0
 |k+1,i=>match L[i]? with
  |none=>0
  |some a=>bif decide (sX n (L.take i) a=0)then yf n L k (i+1)else sX n (L.take i) a
def Fs(n:Nat)(L:List Em):Int:=yf n L L.length 0
theorem v7{n:Nat}{L:List Em}{i:Nat}{a:Em}(ha:L[i]?=some a)(h0:∀(j:Nat) b,j<i→L[j]?=some b→sX n (L.take j) b=0)(hn:sX n (L.take i) a≠0):Fs n L=sX n (L.take i) a:=by
 have key:∀(k j:Nat),i-j<k→j≤i→yf n L k j=sX n (L.take i) a:=by
  intro k
  induction k with
  |zero=>intro j h1;omega
  |succ k ih=>
   intro j h1 h2
   have hlt:=(Y8.1 ha).1
   obtain⟨b,hb⟩:=bV (l:=L) (i:=j) (by omega)
   simp only[yf,hb]
   by_cases hj:j=i
   ·subst hj
    rw[ha]at hb;cases hb
    rw[Zf hn];rfl
   ·rw[Zc (h0 j b (by omega) hb)]
    exact ih (j+1) (by omega) (by omega)
 exact key L.length 0 (by have:=(Y8.1 ha).1;omega) (by omega)
theorem G6{n:Nat}{L:List Em}(h0:∀(j:Nat) b,L[j]?=some b→sX n (L.take j) b=0):Fs n L=0:=by
 have key:∀(k j:Nat),yf n L k j=0:=by
  intro k
  induction k with
  |zero=>intro j;rfl
  |succ k ih=>
   intro j
   simp only[yf]
   cases hb:L[j]? with
   |none=>rfl
   |some b=>
    simp only
    rw[Zc (h0 j b hb)]
    exact ih (j+1)
 exact key _ _
def rr(yr:Bool)(n:Nat)(L:List Em):Int:=bif yr then(bif decide (48<L.length)then 8 else Fs n L)else 1
theorem za{A:Type}{S:List A}{p:A→Bool}{j:Nat}{s:A}(h:S[j]?=some s):(S.take (j+1)).any p=((S.take j).any p||p s):=by
 rw[aaE,h];simp
theorem Lr{a:Em}(h:zi a=false):decide (a.c<0)=true∨(decide (a.c<0)=false∧decide (16≤a.c)=true)∨(decide (a.c<0)=false∧decide (16≤a.c)=false∧decide (a.x<0)=true)∨
 (decide (a.c<0)=false∧decide (16≤a.c)=false∧decide (a.x<0)=false∧decide (a.y≤a.x)=true)∨(decide (a.c<0)=false∧decide (16≤a.c)=false∧decide (a.x<0)=false∧decide (a.y≤a.x)=false∧decide (1099511627776<a.y)=true):=by
 simp only[zi,U.di,aaU,Ze,Zi]at *
 omega
theorem H7{a:Em}(h:zi a=true):decide (a.c<0)=false∧decide (16≤a.c)=false∧decide (a.x<0)=false∧decide (a.y≤a.x)=false∧decide (1099511627776<a.y)=false:=by
 simp only[zi,U.di,Zh,Ze,Zi]at *
 omega
theorem EN{n:Nat}{a:Int}(h:U.eB n a=true):decide (a<0)=false∧decide ((n:Int)≤a)=false:=by
 simp only[U.eB,Zh,Ze,Zi]at *
 omega
theorem FQ{n:Nat}{pre:List Em}{a:Em}(h:U.eB n a.n=false):sX n pre a=7:=by simp only[sX,h,Zu]
theorem Fq{n:Nat}{pre:List Em}{a:Em}(h:U.eB n a.n=true)(h2:zi a=false):sX n pre a=2:=by simp only[sX,h,h2,Zu,Zr]
theorem Bm{n:Nat}{pre:List Em}{a:Em}(h:U.eB n a.n=true)(h2:zi a=true)(h3:pre.any (jf a)=true):sX n pre a=16:=by simp only[sX,h,h2,h3,Zr]
theorem NL{n:Nat}{pre:List Em}{a:Em}(h:U.eB n a.n=true)(h2:zi a=true)(h3:pre.any (jf a)=false):sX n pre a=0:=by simp only[sX,h,h2,h3,Zr,Zu]
theorem UB(m:Nat)(H:ab)(N P W g1 g2 g3 ex no th)(z1:Nat)(S:List U.Src)(f1:Bool)(z2:Nat)(F:List U.Fd)(f2:Bool)(L:List Em)(f:Bool)(hN:N.length≤maxLen)(hP:P.length≤maxLen)(hW:W.length≤maxLen)(hz1:z1=7∨S=[])(hz:z2=6∨F=[])(hS:U.yr S)(hF:F.length≤maxLen)(hL:L.length≤maxLen) :
 aa T (m+8) (.fn 182) [G.st N P W g1 g2 g3 ex no th,U.Jy z1 S f1 z2 F f2,.aA 4 (bM L) f] H=some (acH (rr (G.jg N P W ex no th&&U.oF S F) N.length L),H):=by
 refine ae Qc (by rfl) ?_
 have h32:=fun H=>G.I5 (m+1) H N P W g1 g2 g3 ex no th hN hP hW
 have h33:=fun H=>U.Fz m H S F f1 f2 z1 z2 hz1 hz hS hF
 simp only[MT,ah,go_sem,simprocAttr,h32]
 cases hok:G.jg N P W ex no th with
 |false=>simp only[go_sem,simprocAttr,rr,ZJ]
 |true=>
  simp only[go_sem,simprocAttr,h33]
  cases hck:U.oF S F with
  |false=>simp only[go_sem,simprocAttr,rr,Z2]
  |true=>
   simp only[go_sem,simprocAttr,rr,ZD]
   by_cases h48:48<L.length
   ·have q:decide ((48:Int)<(L.length:Int))=true:=Zc (by omega)
    simp only[go_sem,simprocAttr,q,h48,aaq]
   ·have q:decide ((48:Int)<(L.length:Int))=false:=Zf (by omega)
    simp only[go_sem,simprocAttr,q,h48,abm]
    refine bn (fun i=>([(2,.aA 4 (bM L) f),(3,.ptr 0 0 0 0),(24,.aA 4 (bM L) f),(25,acH L.length),(26,acH i)],
     ⟨[.box [.aA 2 (G.dK N) g1,.aA 1 (G.dC P) g2,.aA 5 (G.ft W) g3,acH ex,acH no,acH th],.box [.aA z1 (U.dM S) f1,.aA z2 (U.dG F) f2]],[],0⟩))
     (fun i=>∀(j:Nat) b,j<i→L[j]?=some b→sX N.length (L.take j) b=0) L.length ?_ (fun j b h=>by omega) ?_
    ·simp only[go_sem,simprocAttr]<;>rfl
    ·intro i hi hP'
     rcases Zl i L.length with hlt|hge
     ·obtain⟨a,ha⟩:=bV hlt
      have hw:=bR hlt hL
      simp only[go_sem,simprocAttr,hlt,ha,G.aL]
      cases hin:U.eB N.length a.n with
      |false=>
       have hE:=v7 ha hP' (by rw[FQ hin];decide)
       rw[FQ hin]at hE
       rcases U.F9 hin with q|⟨q,q'⟩
       ·simp only[go_sem,simprocAttr,q,hE]
       ·simp only[go_sem,simprocAttr,q,q',G.aL,hE]
      |true=>
       obtain⟨q,q'⟩:=EN hin
       simp only[go_sem,simprocAttr,q,q',G.aL]
       cases hem:zi a with
       |false=>
        have hE:=v7 ha hP' (by rw[Fq hin hem];decide)
        rw[Fq hin hem]at hE
        rcases Lr hem with r1|⟨r1,r2⟩|⟨r1,r2,r3⟩|⟨r1,r2,r3,r4⟩|⟨r1,r2,r3,r4,r5⟩
        ·simp only[go_sem,simprocAttr,r1,hE]
        ·simp only[go_sem,simprocAttr,r1,r2,hE]
        ·simp only[go_sem,simprocAttr,r1,r2,r3,hE]
        ·simp only[go_sem,simprocAttr,r1,r2,r3,r4,hE]
        ·simp only[go_sem,simprocAttr,r1,r2,r3,r4,r5,hE]
       |true=>
        obtain⟨r1,r2,r3,r4,r5⟩:=H7 hem
        have hle:i≤L.length:=by omega
        have d1:decide ((i:Int)≤(L.length:Int))=true:=Zc (by omega)
        simp only[go_sem,simprocAttr,r1,r2,r3,r4,r5,hle,d1,zw]
        have hmin:min i L.length=i:=aap hle
        refine rX (fun j=>([(2,.aA 4 (bM L) f),(3,.ptr 0 0 0 0),(8,.ptr 2 0 0 0),(24,.aA 4 (bM L) f),(25,acH L.length),(26,acH i),(71,.aA 4 (bM (L.take i)) (f&&i==L.length)),(72,acH i),(73,acH j)],
         ⟨[.box [.aA 2 (G.dK N) g1,.aA 1 (G.dC P) g2,.aA 5 (G.ft W) g3,acH ex,acH no,acH th],.box [.aA z1 (U.dM S) f1,.aA z2 (U.dG F) f2],.box (qC a)],[],0⟩))
         (fun j=>(L.take j).any (jf a)=false) i ?_ rfl ?_
        ·simp only[go_sem,simprocAttr,Z8,hmin]
         rfl
        ·intro j hj hjP
         have hlen:(L.take i).length=i:=by rw[Z8];exact hmin
         rcases Zl j i with hlt2|hge2
         ·obtain⟨b,hb⟩:=bV (l:=L) (i:=j) (by omega)
          have hb':(L.take i)[j]?=some b:=by rw[ZC,if_pos hlt2];exact hb
          have hw2:=bR hlt2 (ZN hle hL)
          have han:=za (p:=jf a) hb
          have h14:=fun H=>HV (m+6) H a b
          cases hcl:jf a b with
          |true=>
           have hE:=v7 ha hP' (by rw[Bm hin hem (aav.2 ⟨b,Zj hb',hcl⟩)];decide)
           rw[Bm hin hem (aav.2 ⟨b,Zj hb',hcl⟩)]at hE
           simp only[jf,Zh]at hcl
           simp only[go_sem,simprocAttr,hlen,hlt2,hb',hcl.1,hcl.2,h14,hE]
          |false=>
           have hn:(L.take (j+1)).any (jf a)=false:=by rw[han,hjP,hcl];rfl
           simp only[jf]at hcl
           cases hnn:decide (b.n=a.n)with
           |false=>
            simp only[go_sem,simprocAttr,hlen,hlt2,hb',hnn,hw2]
            exact⟨by first|trivial|exact hlt2,rfl,hn⟩
           |true=>
            rw[hnn,ZP]at hcl
            simp only[go_sem,simprocAttr,hlen,hlt2,hb',hnn,h14,hcl,hw2]
            exact⟨by first|trivial|exact hlt2,rfl,hn⟩
         ·have hji:j=i:=by omega
          subst hji
          simp only[go_sem,simprocAttr,Int.lt_irrefl,abm,hw]
          refine⟨by first|trivial|exact hlt,rfl,fun k b hk hb=>?_⟩
          rcases Zl k j with h3|h3
          ·exact hP' k b h3 hb
          ·have:k=j:=by omega
           subst this
           rw[ha]at hb;cases hb
           exact NL hin hem hjP
     ·have hlt:¬i<L.length:=by omega
      have hE:=G6 (n:=N.length) (L:=L) (fun j b hj=>hP' j b (by have:=(Y8.1 hj).1;omega) hj)
      simp only[go_sem,simprocAttr,hlt,hE]
abbrev CU(N:List (Int×Int))(P:List Int)(W:List G.Wl)(g1 g2 g3:Bool)(ex no th:Int)(S:List U.Src)(f1:Bool)(F:List U.Fd)(f2:Bool)(L:List Em)(f:Bool):List SV:=
 [.aA 2 (G.dK N) g1,.aA 1 (G.dC P) g2,.aA 5 (G.ft W) g3,acH ex,acH no,acH th,.aA 7 (U.dM S) f1,.aA 6 (U.dG F) f2,.aA 4 (bM L) f]
theorem rN(L:List Em):Still (bM L):=by
 intro cs hcs c hc
 simp only[bM,Z3]at hcs
 obtain⟨h,_,rfl⟩:=hcs
 simp only[ZU,List.not_mem_nil,or_false]at hc
 rcases hc with rfl|rfl|rfl|rfl<;>exact⟨by simp[SV.refs],fun N H d=>by simp only[ec]⟩
abbrev Yo:List DT:=[.int .i64,.int .i64,.int .i64,.int .i64]
abbrev R1:List DT:=[.aA [.int .i64,.int .i64],.aA [.int .i64],.aA [.int .i64,.int .i64,.int .i64,.int .i64,.int .i64],.int .i64,.int .i64,.int .i64,
 .aA [.int .i64,.int .i64,.int .i64,.aA [.int .i64],.int .i64,.int .i64,.int .i64],.aA [.int .i64,.int .i64,.int .i64,.int .i64,.int .i64,.int .i64],.aA Yo]
abbrev FL:Bool×List DT:=(true,R1)
theorem pF:∀{L:List (List SV)},(∀q∈L,cG [.int .i64,.int .i64] q)→∃N,L=G.dK N
 |[],_=>⟨[],rfl⟩
 |r::L,h=>by
  obtain⟨N,rfl⟩:=pF (L:=L) (fun q hq=>h q (by simp[hq]))
  have h0:=h r (by simp)
  obtain⟨a,_,rfl,_,h0⟩:=aY h0
  obtain⟨b,_,rfl,_,h0⟩:=aY h0
  cases cu h0
  exact⟨(a,b)::N,rfl⟩
theorem mS:∀{L:List (List SV)},(∀q∈L,cG [.int .i64] q)→∃N,L=G.dC N
 |[],_=>⟨[],rfl⟩
 |r::L,h=>by
  obtain⟨N,rfl⟩:=mS (L:=L) (fun q hq=>h q (by simp[hq]))
  have h0:=h r (by simp)
  obtain⟨a,_,rfl,_,h0⟩:=aY h0
  cases cu h0
  exact⟨a::N,rfl⟩
theorem kD:∀{L:List (List SV)},(∀q∈L,cG [.int .i64] q)→∃N,L=iS N
 |[],_=>⟨[],rfl⟩
 |r::L,h=>by
  obtain⟨N,rfl⟩:=kD (L:=L) (fun q hq=>h q (by simp[hq]))
  have h0:=h r (by simp)
  obtain⟨a,_,rfl,_,h0⟩:=aY h0
  cases cu h0
  exact⟨a::N,rfl⟩
theorem tz:∀{L:List (List SV)},(∀q∈L,cG [.int .i64,.int .i64,.int .i64,.int .i64,.int .i64] q)→∃N,L=G.ft N
 |[],_=>⟨[],rfl⟩
 |r::L,h=>by
  obtain⟨N,rfl⟩:=tz (L:=L) (fun q hq=>h q (by simp[hq]))
  have h0:=h r (by simp)
  obtain⟨a,_,rfl,_,h0⟩:=aY h0
  obtain⟨b,_,rfl,_,h0⟩:=aY h0
  obtain⟨c,_,rfl,_,h0⟩:=aY h0
  obtain⟨d,_,rfl,_,h0⟩:=aY h0
  obtain⟨f,_,rfl,_,h0⟩:=aY h0
  cases cu h0
  exact⟨⟨a,b,c,d,f⟩::N,rfl⟩
theorem tx:∀{L:List (List SV)},(∀q∈L,cG [.int .i64,.int .i64,.int .i64,.aA [.int .i64],.int .i64,.int .i64,.int .i64] q)→∃S,L=U.dM S∧∀s∈S,s.C.length≤maxLen
 |[],_=>⟨[],rfl,fun s h=>by cases h⟩
 |r::L,h=>by
  obtain⟨N,rfl,hN⟩:=tx (L:=L) (fun q hq=>h q (by simp[hq]))
  have k:=h r (by simp)
  obtain⟨a,_,rfl,_,k⟩:=aY k
  obtain⟨b,_,rfl,_,k⟩:=aY k
  obtain⟨p,_,rfl,_,k⟩:=aY k
  obtain⟨L1,f1,_,rfl,m1,a1,k⟩:=fO k
  obtain⟨j5,_,rfl,_,k⟩:=aY k
  obtain⟨fr,_,rfl,_,k⟩:=aY k
  obtain⟨to,_,rfl,_,k⟩:=aY k
  cases cu k
  obtain⟨C,rfl⟩:=kD a1
  exact⟨⟨a,b,p,C,f1,j5,fr,to⟩::N,rfl,fun t ht=>by
   rcases ZU.1 ht with rfl|ht
   ·simpa[iS]using m1
   ·exact hN t ht⟩
theorem te:∀{L:List (List SV)},(∀q∈L,cG [.int .i64,.int .i64,.int .i64,.int .i64,.int .i64,.int .i64] q)→∃S,L=U.dG S
 |[],_=>⟨[],rfl⟩
 |r::L,h=>by
  obtain⟨N,rfl⟩:=te (L:=L) (fun q hq=>h q (by simp[hq]))
  have k:=h r (by simp)
  obtain⟨a,_,rfl,_,k⟩:=aY k
  obtain⟨b,_,rfl,_,k⟩:=aY k
  obtain⟨c,_,rfl,_,k⟩:=aY k
  obtain⟨x,_,rfl,_,k⟩:=aY k
  obtain⟨y,_,rfl,_,k⟩:=aY k
  obtain⟨f,_,rfl,_,k⟩:=aY k
  cases cu k
  exact⟨⟨a,b,c,x,y,f⟩::N,rfl⟩
structure Sn where
 N:List (Int×Int)
 P:List Int
 W:List G.Wl
 g1:Bool
 g2:Bool
 g3:Bool
 ex:Int
 no:Int
 th:Int
 S:List U.Src
 f1:Bool
 F:List U.Fd
 f2:Bool
 hN:N.length≤maxLen
 hP:P.length≤maxLen
 hW:W.length≤maxLen
 hS:U.yr S
 hF:F.length≤maxLen
abbrev vB(s:Sn):List SV:=[.aA 2 (G.dK s.N) s.g1,.aA 1 (G.dC s.P) s.g2,.aA 5 (G.ft s.W) s.g3,acH s.ex,acH s.no,acH s.th]
abbrev zG(s:Sn):List SV:=[.aA 7 (U.dM s.S) s.f1,.aA 6 (U.dG s.F) s.f2]
abbrev qD(s:Sn)(L:List Em)(f:Bool)(b:Nat):List SV:=[.aA 2 (G.dK s.N) s.g1,.aA 1 (G.dC s.P) s.g2,.aA 5 (G.ft s.W) s.g3,acH s.ex,acH s.no,acH s.th,.aA 7 (U.dM s.S) s.f1,.aA 6 (U.dG s.F) s.f2,.aA 4 (bM L) f,.fn 180 [.ptr b 0 0 0]]
def fT(s:Sn):Bool:=G.jg s.N s.P s.W s.ex s.no s.th&&U.oF s.S s.F
def sig(s:Sn)(a:Em)(n:Int):Int:=U.V3 (fT s) (G.uN s.N a.n n) (U.di a.c&&U.EM a.x) (U.FF (G.tG (G.atR s.W s.ex) s.N s.P a.n n) (U.zJ (U.zB a.n n a.c a.x) s.F))
def ext(s:Sn)(a:Em)(n:Int):Int:=U.V3 (fT s) (U.eB s.N.length n) (U.di a.c&&U.Bh a.x a.y) (U.Df (U.FG s.N s.P s.W s.ex s.no s.th n.toNat) s.S a.c a.x a.y)
theorem TM(n:Nat)(H:ab)(a b:Int):aa T (n+1) (.fn 206) [acH a,acH b] H=some (.bool (decide (1000≤a)&&decide (a≤100000)&&decide (1≤b)&&decide (b≤68719476736)),H):=by
 refine ae TI (by rfl) ?_
 simp only[Lk,ah,go_sem,simprocAttr]
 repeat' (with_reducible refine aM (fun _=>?_) (fun _=>?_)<;>simp only[*,go_sem,simprocAttr])
 all_goals simp_all
def TX(p th no:Int):Int:=bif G.dT p&&(decide (1000≤th)&&decide (th≤100000)&&decide (1≤no)&&decide (no≤68719476736))then max (bb ((bb ((bb (1000*p)).tdiv th))-no)) (-1)else 0
def Wy(p th no:Int):Int:=bif G.dT p&&(decide (1000≤th)&&decide (th≤100000)&&decide (1≤no)&&decide (no≤68719476736))then 0 else 2
theorem T6(n:Nat)(H:ab)(p th no:Int):aa T (n+2) (.fn 181) [acH p,acH th,acH no] H=some (.ba [acH (TX p th no),acH (Wy p th no)],H):=by
 refine ae Rk (by rfl) ?_
 have h83:=fun H=>G.J9 n H p
 have h84:=fun H=>TM n H th no
 unfold TX Wy
 cases k1:G.dT p with
 |false=>simp only[EL,ah,go_sem,simprocAttr,h83,k1]
 |true=>
  cases k2:(decide (1000≤th)&&decide (th≤100000)&&decide (1≤no)&&decide (no≤68719476736))with
  |false=>simp only[EL,ah,go_sem,simprocAttr,h83,h84,k1,k2]
  |true=>
   have h0:decide (th=0)=false:=Zf (by simp only[Zh,Ze]at k2;omega)
   simp only[EL,ah,go_sem,simprocAttr,h83,h84,k1,k2,h0]
def Cg(s:Sn)(p q:Int):Bool:=decide (q≤TX p s.th s.no)
theorem T0(n:Nat)(H:ab)(s:Sn)(b:Nat)(p q:Int)(hb:H.bl[b]?=some (.box (vB s))):aa T (n+3) (.fn 180) [acH p,acH q,.ptr b 0 0 0] H=some (.bool (Cg s p q),H):=by
 refine mH RU rfl rfl (fun R k bl ro hbl=>?_)
 obtain rfl:bl=H.bl:=by
  rcases hbl with⟨_,h2⟩|h
  ·simp[SV.refs.au,SV.refs]at h2
  ·exact h
 have h70:=fun H=>T6 n H p s.th s.no
 simp only[Ki,go_sem,simprocAttr,hb,h70]
 rfl
def jW(L:List Em)(a:Em)(n:Int):Bool:=!L.any fun b=>decide (b.n=n)&&uy b a
theorem AS{A:Type}{L:List A}{p:A→Bool}{i:Nat}{x:A}(h:L[i]?=some x)(hp:p x=true):L.any p=true:=aav.2 ⟨x,Zj h,hp⟩
theorem any_none{A:Type}{L:List A}{p:A→Bool}{i:Nat}(hi:L.length≤i)(h:∀(j:Nat) x,j<i→L[j]?=some x→p x=false):L.any p=false:=by
 rw[aau]
 intro x hx
 obtain⟨j,hj⟩:=ZH hx
 rw[h j x (by have:=(Y8.1 hj).1;omega) hj]
 simp
theorem TK(n:Nat)(H:ab)(s:Sn)(L:List Em)(f:Bool)(b i:Nat)(a:Em)(k:Int)(hL:L.length≤maxLen)(ha:L[i]?=some a)(hb:b<H.bl.length) :
 aa T (n+2) (.fn 139) [.agg (qD s L f b),acH i,acH k] H=some (.bool (jW L a k),H):=by
 refine cU Ua rfl rfl (fun R kk bl ro r hbl hk=>?_)
 obtain rfl:bl=H.bl:=by
  rcases hbl with⟨_,h2⟩|h
  ·simp[SV.refs.au,SV.refs]at h2
  ·exact h
 have hi:i<L.length:=(Y8.1 ha).1
 generalize H.bl=bl at *
 clear hbl
 simp only[JZ,go_sem,simprocAttr,aF,aB,aG,aE,az,av,ay,ax,bc,aS,bg,aU,aP,aT,aH,aQ,aJ,aI,aw,af,bK,bL,Za,Y9,Zk]
 refine bn (fun q=>([(1,acH i),(2,acH k),(3,.ptr bl.length 0 0 0),(10,.aA 4 (bM L) f),(11,acH L.length),(12,acH q)],⟨bl++[.box (qD s L f b)],[],min ro bl.length⟩))
  (fun q=>∀(j:Nat) x,j<q→L[j]?=some x→(decide (x.n=k)&&uy x a)=false) L.length (by simp only[go_sem,simprocAttr,aF,aB,aG,aE,az,av,ay,ax,bc,aS,bg,aU,aP,aT,aH,aQ,aJ,aI,aw,af,bK,bL,Za,Y9,Zk]) (fun j x h=>by omega) ?_
 intro q hq hP
 rcases Zl q L.length with hlt|hge
 ·obtain⟨x,hx⟩:=bV hlt
  have hw:=bR hlt hL
  have h14:=fun H=>HV n H x a
  have go:(decide (x.n=k)&&uy x a)=false→∀(j:Nat) y,j<q+1→L[j]?=some y→(decide (y.n=k)&&uy y a)=false:=fun h j y hj hy=>by
   rcases Zl j q with h3|h3
   ·exact hP j y h3 hy
   ·obtain rfl:j=q:=by omega
    rw[hx]at hy;cases hy;exact h
  simp only[go_sem,simprocAttr,aF,aB,aG,aE,az,av,ay,ax,bc,aS,bg,aU,aP,aT,aH,aQ,aJ,aI,aw,af,bK,bL,Za,Y9,Zk,hlt,hx]
  cases k1:decide (x.n=k)with
  |false=>
   simp only[go_sem,simprocAttr,aF,aB,aG,aE,az,av,ay,ax,bc,aS,bg,aU,aP,aT,aH,aQ,aJ,aI,aw,af,bK,bL,Za,Y9,Zk,hlt,hw]
   exact⟨trivial,by first|trivial|rfl,go (by rw[k1];rfl)⟩
  |true=>
   cases k2:uy x a with
   |false=>
    simp only[go_sem,simprocAttr,aF,aB,aG,aE,az,av,ay,ax,bc,aS,bg,aU,aP,aT,aH,aQ,aJ,aI,aw,af,bK,bL,Za,Y9,Zk,hlt,hi,ha,h14,k2,hw]
    exact⟨trivial,by first|trivial|rfl,go (by rw[k1,k2];rfl)⟩
   |true=>
    have hf:jW L a k=false:=by rw[jW,AS hx (by rw[k1,k2];rfl)];rfl
    rw[hf]at hk
    simp only[go_sem,simprocAttr,aF,aB,aG,aE,az,av,ay,ax,bc,aS,bg,aU,aP,aT,aH,aQ,aJ,aI,aw,af,bK,bL,Za,Y9,Zk,hlt,hi,ha,h14,k2,hk]
 ·have hlt:¬q<L.length:=by omega
  have hf:jW L a k=true:=by rw[jW,any_none hge hP];rfl
  rw[hf]at hk
  simp only[go_sem,simprocAttr,aF,aB,aG,aE,az,av,ay,ax,bc,aS,bg,aU,aP,aT,aH,aQ,aJ,aI,aw,af,bK,bL,Za,Y9,Zk,hlt,hk]
theorem LS(n:Nat)(H:ab)(s:Sn)(L:List Em)(f:Bool)(b:Nat)(a:Em)(k:Int)(hb:b<H.bl.length) :
 aa T (n+13) (.fn 140) [.agg (qD s L f b),.agg (qC a),acH k] H=some (acH (sig s a k),H):=by
 refine cU Vh rfl rfl (fun R kk bl ro r hbl hk=>?_)
 obtain rfl:bl=H.bl:=by
  rcases hbl with⟨_,h2⟩|h
  ·simp[SV.refs.au,SV.refs]at h2
  ·exact h
 generalize H.bl=bl at *
 clear hbl
 have h71:=fun H=>U.P3 n H s.N s.P s.W s.g1 s.g2 s.g3 s.ex s.no s.th 7 s.S s.f1 6 s.F s.f2 a.n k a.c a.x s.hN s.hP s.hW (.inl rfl) (.inl rfl) s.hS s.hF
 simp only[JL,go_sem,simprocAttr,aF,aB,aG,aE,az,av,ay,ax,bc,aS,bg,aU,aP,aT,aH,aQ,aJ,aI,aw,af,bK,bL,Za,Y9,Zk,h71]
 exact hk _
theorem SJ(n:Nat)(H:ab)(s:Sn)(L:List Em)(f:Bool)(b i:Nat)(a:Em)(k:Int)(ha:L[i]?=some a)(hb:b<H.bl.length) :
 aa T (n+13) (.fn 185) [.agg (qD s L f b),acH i,acH k] H=some (acH (ext s a k),H):=by
 refine cU Q0 rfl rfl (fun R kk bl ro r hbl hk=>?_)
 obtain rfl:bl=H.bl:=by
  rcases hbl with⟨_,h2⟩|h
  ·simp[SV.refs.au,SV.refs]at h2
  ·exact h
 have hi:i<L.length:=(Y8.1 ha).1
 generalize H.bl=bl at *
 clear hbl
 have h72:=fun H=>U.UY n H s.N s.P s.W s.g1 s.g2 s.g3 s.ex s.no s.th s.S s.f1 s.F s.f2 k a.c a.x a.y s.hN s.hP s.hW s.hS s.hF
 simp only[Jo,go_sem,simprocAttr,aF,aB,aG,aE,az,av,ay,ax,bc,aS,bg,aU,aP,aT,aH,aQ,aJ,aI,aw,af,bK,bL,Za,Y9,Zk,hi,ha,h72]
 exact hk _
theorem SE(n:Nat)(bl:List aD)(es:List (Nat×Nat))(ro:Nat)(s:Sn)(L:List Em)(f:Bool)(b i:Nat)(k:Int):aa T (n+1) (.rW 186) [.agg (qD s L f b),acH i,acH k] ⟨bl,es,ro⟩=
 some (.fn 211 [.ptr bl.length 0 0 0,.ptr (bl.length+1) 0 0 0,.ptr (bl.length+2) 0 0 0],⟨bl++[.box (qD s L f b),.box [acH i],.box [acH k]],es,ro⟩):=by
 refine fg UU ?_
 simp only[Le,go_sem,simprocAttr,aF,aB,aG,aE,az,av,ay,ax,bc,aS,bg,aU,aP,aT,aH,aQ,aJ,aI,aw,af,bK,bL,Za,Y9,Zk]
def mT(a:Em)(i:Nat)(k:Int)(q:Nat)(x:Em):Bool:=!decide ((q:Int)=(i:Int))&&decide (x.c=a.c)&&!decide (x.n=k)&&uy a x
def jK{A:Type}(u:A→Nat→Em→A)(a:Em)(i:Nat)(k:Int)(L:List Em)(v:A):Nat→A
 |0=>v
 |q+1=>match L[q]? with
  |some x=>bif mT a i k q x then u (jK u a i k L v q) q x else jK u a i k L v q
  |none=>jK u a i k L v q
theorem TH(n:Nat)(es:List (Nat×Nat))(q:eN)(bl:List aD)(ro:Nat)(X0:aD){A:Type}(X1 X2:A→aD)(u:A→Nat→Em→A)(s:Sn)(L:List Em)(f:Bool)(b i:Nat)(a:Em)(k:Int)(hL:L.length≤maxLen)(ha:L[i]?=some a)(hb:b<bl.length)(hro:ro≤bl.length)
 (P:Nat→A→Prop) (hPs:∀v j,P j v→P (j+1) v) (hPu:∀v j x,P j v→P (j+1) (u v j x))
 (hy:∀(v:A) (j:Nat) (x:Em) (X:aD),P j v→j<L.length→L[j]?=some x→aa T (n+1) (.fp (bl.length+6)) [acH j,.agg (qC x)] ⟨bl++[X0,X1 v,X2 v,.box (qD s L f b),.box [acH i],.box [acH k],.loop q .ready .normal,X],[],ro⟩=
  some (.bool true,⟨bl++[X0,X1 (u v j x),X2 (u v j x),.box (qD s L f b),.box [acH i],.box [acH k],.loop q .ready .normal,X],[],ro⟩)) (v:A) (hP0:P 0 v) :
 aa T (n+2) (.fn 211) [.fp (bl.length+6),.ptr (bl.length+3) 0 0 0,.ptr (bl.length+4) 0 0 0,.ptr (bl.length+5) 0 0 0] ⟨bl++[X0,X1 v,X2 v,.box (qD s L f b),.box [acH i],.box [acH k],.loop q .ready .normal],es,ro⟩=
  some (.ba [],⟨bl++[X0,X1 (jK u a i k L v L.length),X2 (jK u a i k L v L.length),.box (qD s L f b),.box [acH i],.box [acH k],.loop q .ready .normal],es,ro⟩):=by
 refine bj Tu (qe (by simp[SV.refs.au,SV.refs])) ?_
 have hm:∀k,min ro (bl.length+k)=ro:=fun k=>aap (by omega)
 have hm2:∀k,decide (ro≤bl.length+k)=true:=fun k=>Zc (by omega)
 have hi:i<L.length:=(Y8.1 ha).1
 simp only[Lt,go_sem,simprocAttr,aF,aB,aG,aE,az,av,ay,ax,bc,aS,bg,aU,aP,aT,aH,aQ,aJ,aI,aw,af,bK,bL,Za,Y9,Zk,hm,hm2]
 refine bn (fun q'=>([(0,.fp (bl.length+6)),(1,.ptr (bl.length+3) 0 0 0),(2,.ptr (bl.length+4) 0 0 0),(3,.ptr (bl.length+5) 0 0 0),(8,.aA 4 (bM L) f),(9,acH L.length),(10,acH q')],
  ⟨bl++[X0,X1 (jK u a i k L v q'),X2 (jK u a i k L v q'),.box (qD s L f b),.box [acH i],.box [acH k],.loop q .ready .normal],[],ro⟩)) (fun q'=>P q' (jK u a i k L v q')) L.length (by simp only[go_sem,simprocAttr,aF,aB,aG,aE,az,av,ay,ax,bc,aS,bg,aU,aP,aT,aH,aQ,aJ,aI,aw,af,bK,bL,Za,Y9,Zk,hm,hm2,Nat.reduceAdd];rfl) hP0 ?_
 intro q' hq hPq
 rcases Zl q' L.length with hlt|hge
 ·obtain⟨x,hx⟩:=bV hlt
  have hw:=bR hlt hL
  have h14:=fun H=>HV n H a x
  have hyy:=fun X=>hy _ q' x X hPq hlt hx
  have hPn:=hPs _ _ hPq
  have no:mT a i k q' x=false→jK u a i k L v (q'+1)=jK u a i k L v q':=fun h=>by simp only[jK,hx,h,Zu]
  cases k1:decide ((q':Int)=(i:Int))with
  |true=>
   have e1:=no (by simp only[mT,k1];rfl)
   simp only[go_sem,simprocAttr,aF,aB,aG,aE,az,av,ay,ax,bc,aS,bg,aU,aP,aT,aH,aQ,aJ,aI,aw,af,bK,bL,Za,Y9,Zk,hm,hm2,hlt,hi,ha,hx,k1,hw,e1]
   exact⟨trivial,by first|trivial|rfl,hPn⟩
  |false=>
   cases k2:decide (x.c=a.c)with
   |false=>
    have e1:=no (by simp only[mT,k1,k2];rfl)
    simp only[go_sem,simprocAttr,aF,aB,aG,aE,az,av,ay,ax,bc,aS,bg,aU,aP,aT,aH,aQ,aJ,aI,aw,af,bK,bL,Za,Y9,Zk,hm,hm2,hlt,hi,ha,hx,k1,k2,hw,e1]
    exact⟨trivial,by first|trivial|rfl,hPn⟩
   |true=>
    cases k3:decide (x.n=k)with
    |true=>
     have e1:=no (by simp only[mT,k1,k2,k3];rfl)
     simp only[go_sem,simprocAttr,aF,aB,aG,aE,az,av,ay,ax,bc,aS,bg,aU,aP,aT,aH,aQ,aJ,aI,aw,af,bK,bL,Za,Y9,Zk,hm,hm2,hlt,hi,ha,hx,k1,k2,k3,hw,e1]
     exact⟨trivial,by first|trivial|rfl,hPn⟩
    |false=>
     cases k4:uy a x with
     |false=>
      have e1:=no (by simp only[mT,k1,k2,k3,k4];rfl)
      simp only[go_sem,simprocAttr,aF,aB,aG,aE,az,av,ay,ax,bc,aS,bg,aU,aP,aT,aH,aQ,aJ,aI,aw,af,bK,bL,Za,Y9,Zk,hm,hm2,hlt,hi,ha,hx,k1,k2,k3,h14,k4,hw,e1]
      exact⟨trivial,by first|trivial|rfl,hPn⟩
     |true=>
      have e1:jK u a i k L v (q'+1)=u (jK u a i k L v q') q' x:=by
       have:mT a i k q' x=true:=by simp only[mT,k1,k2,k3,k4];rfl
       simp only[jK,hx,this,Zr]
      have hPn:=hPu _ _ x hPq
      simp only[go_sem,simprocAttr,aF,aB,aG,aE,az,av,ay,ax,bc,aS,bg,aU,aP,aT,aH,aQ,aJ,aI,aw,af,bK,bL,Za,Y9,Zk,hm,hm2,hlt,hi,ha,hx,k1,k2,k3,h14,k4,hyy,hw,e1]
      exact⟨trivial,by first|trivial|rfl,hPn⟩
 ·obtain rfl:q'=L.length:=by omega
  simp only[go_sem,simprocAttr,aF,aB,aG,aE,az,av,ay,ax,bc,aS,bg,aU,aP,aT,aH,aQ,aJ,aI,aw,af,bK,bL,Za,Y9,Zk,hm,hm2,show decide ((L.length:Int)<(L.length:Int))=false from Zf (by omega)]
def inter(s:Sn)(L:List Em)(i:Nat)(a:Em)(k:Int):Int:=jK (fun v _ x=>bb (v+sig s x k)) a i k L (ext s a k) L.length
theorem T9(n:Nat)(H:ab)(s:Sn)(L:List Em)(f:Bool)(b i:Nat)(a:Em)(k:Int)(hL:L.length≤maxLen)(ha:L[i]?=some a)(hb:b<H.bl.length) :
 aa T (n+16) (.fn 141) [.agg (qD s L f b),acH i,acH k] H=some (acH (inter s L i a k),H):=by
 refine cU PW rfl rfl (fun R kk bl ro r hbl hk=>?_)
 obtain rfl:bl=H.bl:=by
  rcases hbl with⟨_,h2⟩|h
  ·simp[SV.refs.au,SV.refs]at h2
  ·exact h
 generalize H.bl=bl at *
 clear hbl
 have hro:min ro bl.length≤bl.length:=Nat.min_le_right _ _
 generalize min ro bl.length=ro' at *
 have hm:∀k,min ro' (bl.length+k)=ro':=fun k=>aap (by omega)
 have hm2:∀k,decide (ro'≤bl.length+k)=true:=fun k=>Zc (by omega)
 have hm3:decide (ro'≤bl.length)=true:=Zc hro
 have h43:=fun l es ro=>SJ (n+2) ⟨bl++l,es,ro⟩ s L f b i a k ha (by simp;omega)
 have h44:=fun l es ro=>SE (n+14) (bl++l) es ro s L f b i k
 simp only[LF,go_sem,simprocAttr,aF,aB,aG,aE,az,av,ay,ax,bc,aS,bg,aU,aP,aT,aH,aQ,aJ,aI,aw,af,bK,bL,Za,Y9,Zk,hm,hm2,h43,h44]
 refine G.iP _ (TH (n+13) _ _ bl ro' _ (fun _=>.box [acH k]) (fun v=>.box [acH v]) (fun v _ x=>bb (v+sig s x k)) s L f b i a k hL ha hb hro (fun _ _=>True) (fun _ _ h=>h) (fun _ _ _ h=>h) ?_ (ext s a k) trivial) ?_
 ·intro v j x X _ _ hx
  have h42:=fun l es ro=>LS n ⟨bl++l,es,ro⟩ s L f b x k (by simp;omega)
  refine nK (by simp only[bk];exact aB bl _ 6) rfl ?_
  simp only[go_sem,simprocAttr,aF,aB,aG,aE,az,av,ay,ax,bc,aS,bg,aU,aP,aT,aH,aQ,aJ,aI,aw,af,bK,bL,Za,Y9,Zk,hm,hm2,hm3,h42]
 ·simp only[go_sem,simprocAttr,aF,aB,aG,aE,az,av,ay,ax,bc,aS,bg,aU,aP,aT,aH,aQ,aJ,aI,aw,af,bK,bL,Za,Y9,Zk,hm,hm2,hm3]
  exact hk _
def gO(s:Sn)(L:List Em)(i:Nat)(a:Em)(k:Int):Bool:=jW L a k&&Cg s (sig s a k) (inter s L i a k)
theorem VL(n:Nat)(H:ab)(s:Sn)(L:List Em)(f:Bool)(b i:Nat)(a:Em)(k:Int)(hL:L.length≤maxLen)(ha:L[i]?=some a)(hb:H.bl[b]?=some (.box (vB s))) :
 aa T (n+17) (.fn 85) [.agg (qD s L f b),acH i,acH k] H=some (.bool (gO s L i a k),H):=by
 have hbl':=(Y8.1 hb).1
 refine cU Yn rfl rfl (fun R kk bl ro r hbl hk=>?_)
 obtain rfl:bl=H.bl:=by
  rcases hbl with⟨_,h2⟩|h
  ·simp[SV.refs.au,SV.refs]at h2
  ·exact h
 generalize H.bl=bl at *
 clear hbl
 have hro:min ro bl.length≤bl.length:=Nat.min_le_right _ _
 generalize min ro bl.length=ro' at *
 have hi:i<L.length:=(Y8.1 ha).1
 have h41:=fun l es ro=>TK (n+14) ⟨bl++l,es,ro⟩ s L f b i a k hL ha (by simp;omega)
 have h42:=fun l es ro=>LS (n+3) ⟨bl++l,es,ro⟩ s L f b a k (by simp;omega)
 have h48:=fun l es ro=>T9 n ⟨bl++l,es,ro⟩ s L f b i a k hL ha (by simp;omega)
 have h69:=fun p q l es ro=>T0 (n+13) ⟨bl++l,es,ro⟩ s b p q (fa hb)
 cases k1:jW L a k with
 |false=>
  rw[gO,k1,ZJ]at hk
  simp only[SR,go_sem,simprocAttr,aF,aB,aG,aE,az,av,ay,ax,bc,aS,bg,aU,aP,aT,aH,aQ,aJ,aI,aw,af,bK,bL,Za,Y9,Zk,h41,k1]
  exact hk _
 |true=>
  rw[gO,k1,ZP]at hk
  simp only[SR,go_sem,simprocAttr,aF,aB,aG,aE,az,av,ay,ax,bc,aS,bg,aU,aP,aT,aH,aQ,aJ,aI,aw,af,bK,bL,Za,Y9,Zk,h41,k1,hi,ha,h42,h48,h69]
  exact hk _
theorem MQ(n:Nat)(bl:List aD)(es:List (Nat×Nat))(ro:Nat)(s:Sn)(L:List Em)(f:Bool)(hL:L.length≤maxLen)(hro:ro≤bl.length):aa T (n+9) (.rW 136) [.agg (vB s),.agg (zG s),.aA 4 (bM L) f] ⟨bl,es,ro⟩=
 some (.ba [.agg (qD s L f bl.length),acH (rr (fT s) s.N.length L)],⟨bl++[.box (vB s),.box (zG s),.box (qD s L f bl.length)],es,ro⟩):=by
 refine fg UJ ?_
 have hm0:min ro bl.length=ro:=aap hro
 have hm:∀k,min ro (bl.length+k)=ro:=fun k=>aap (by omega)
 have hm2:∀k,decide (ro≤bl.length+k)=true:=fun k=>Zc (by omega)
 have h11:=fun H=>UB n H s.N s.P s.W s.g1 s.g2 s.g3 s.ex s.no s.th 7 s.S s.f1 6 s.F s.f2 L f s.hN s.hP s.hW (.inl rfl) (.inl rfl) s.hS s.hF hL
 simp only[K5,go_sem,simprocAttr,aF,aB,aG,aE,az,av,ay,ax,bc,aS,bg,aU,aP,aT,aH,aQ,aJ,aI,aw,af,bK,bL,Za,Y9,Zk,hm0,hm,hm2,h11]
 rfl
def E0(s:Sn)(L:List Em)(i k:Int):Int:=bif decide (rr (fT s) s.N.length L=0)then(bif decide (i<0)||decide ((L.length:Int)≤i)||decide (k<0)||decide ((s.N.length:Int)≤k)then 7 else 0)else rr (fT s) s.N.length L
theorem QG(n:Nat)(bl:List aD)(es:List (Nat×Nat))(ro:Nat)(s:Sn)(L:List Em)(f:Bool)(i k:Int)(hL:L.length≤maxLen)(hro:ro≤bl.length):aa T (n+10) (.rW 84) [.agg (vB s),.agg (zG s),.aA 4 (bM L) f,acH i,acH k] ⟨bl,es,ro⟩=
 some (.ba [.agg (qD s L f (bl.length+3)),acH (E0 s L i k)],⟨bl++[.box (vB s),.box (zG s),.box (qD s L f (bl.length+3)),.box (vB s),.box (zG s),.box (qD s L f (bl.length+3)),.box (qD s L f (bl.length+3))],es++[(bl.length+2,bl.length+4)],ro⟩):=by
 refine fg Xu ?_
 have hm0:min ro bl.length=ro:=aap hro
 have hm:∀k,min ro (bl.length+k)=ro:=fun k=>aap (by omega)
 have hm2:∀k,decide (ro≤bl.length+k)=true:=fun k=>Zc (by omega)
 have h38:=fun l es=>MQ n (bl++l) es ro s L f hL (by simp;omega)
 unfold E0
 cases k0:decide (rr (fT s) s.N.length L=0)with
 |false=>
  simp only[Ih,go_sem,simprocAttr,aF,aB,aG,aE,az,av,ay,ax,bc,aS,bg,aU,aP,aT,aH,aQ,aJ,aI,aw,af,bK,bL,Za,Y9,Zk,hm0,hm,hm2,h38,k0,abL,aba]
 |true=>
  have k0':=ZE k0
  cases k1:decide (i<0)with
  |true=>simp only[Ih,go_sem,simprocAttr,aF,aB,aG,aE,az,av,ay,ax,bc,aS,bg,aU,aP,aT,aH,aQ,aJ,aI,aw,af,bK,bL,Za,Y9,Zk,hm0,hm,hm2,h38,k0,k0',k1,abL,aba]
  |false=>
   cases k2:decide ((L.length:Int)≤i)with
   |true=>simp only[Ih,go_sem,simprocAttr,aF,aB,aG,aE,az,av,ay,ax,bc,aS,bg,aU,aP,aT,aH,aQ,aJ,aI,aw,af,bK,bL,Za,Y9,Zk,hm0,hm,hm2,h38,k0,k0',k1,k2,abL,aba]
   |false=>
    cases k3:decide (k<0)with
    |true=>simp only[Ih,go_sem,simprocAttr,aF,aB,aG,aE,az,av,ay,ax,bc,aS,bg,aU,aP,aT,aH,aQ,aJ,aI,aw,af,bK,bL,Za,Y9,Zk,hm0,hm,hm2,h38,k0,k0',k1,k2,k3,abL,aba]
    |false=>
     cases k4:decide ((s.N.length:Int)≤k)with
     |true=>simp only[Ih,go_sem,simprocAttr,aF,aB,aG,aE,az,av,ay,ax,bc,aS,bg,aU,aP,aT,aH,aQ,aJ,aI,aw,af,bK,bL,Za,Y9,Zk,hm0,hm,hm2,h38,k0,k0',k1,k2,k3,G.aL,k4,abL,aba]
     |false=>simp only[Ih,go_sem,simprocAttr,aF,aB,aG,aE,az,av,ay,ax,bc,aS,bg,aU,aP,aT,aH,aQ,aJ,aI,aw,af,bK,bL,Za,Y9,Zk,hm0,hm,hm2,h38,k0,k0',k1,k2,k3,G.aL,k4,abL,aba]
theorem Ht{s:Sn}{L:List Em}{i k:Int}(h:E0 s L i k=0):rr (fT s) s.N.length L=0∧(0≤i∧i<L.length)∧0≤k∧k<s.N.length:=by
 unfold E0 at h
 cases h0:decide (rr (fT s) s.N.length L=0)with
 |false=>rw[h0,Zu]at h;exact absurd h (aak h0)
 |true=>
  rw[h0,Zr]at h
  cases h1:decide (i<0)||decide ((L.length:Int)≤i)||decide (k<0)||decide ((s.N.length:Int)≤k)with
  |true=>rw[h1]at h;cases h
  |false=>
   simp only[aaw,Zi]at h1
   exact⟨ZE h0,by omega,by omega⟩
def OS(s:Sn)(L:List Em)(i k:Int):SV:=bif decide (E0 s L i k=0)then .ba [.bool (match L[i.toNat]? with|some a=>gO s L i.toNat a k|none=>false),acI]else .ba [.bool false,acH (E0 s L i k)]
theorem WS(n:Nat)(H:ab)(s:Sn)(L:List Em)(f:Bool)(i k:Int)(hL:L.length≤maxLen):aa T (n+18) (.fn 47) [.agg (vB s),.agg (zG s),.aA 4 (bM L) f,acH i,acH k] H=some (OS s L i k,H):=by
 refine ae XZ (by rfl) ?_
 have h40:=fun x y es=>QG (n+7) [x,y] es 0 s L f i k hL (by simp)
 unfold OS
 cases h0:decide (E0 s L i k=0)with
 |false=>simp only[QX,ah,go_sem,simprocAttr,h40,h0]
 |true=>
  have h0':=ZE h0
  obtain⟨_,⟨hi0,hi1⟩,hk0,hk1⟩:=Ht h0'
  obtain⟨q,rfl⟩:∃q:Nat,i=q:=⟨i.toNat,by omega⟩
  obtain⟨a,ha⟩:=bV (l:=L) (i:=q) (by omega)
  have h39:=fun x0 x1 x2 x3 x4 x6 x7 x8 x9 es ro=>VL n ⟨[x0,x1,x2,x3,x4,.box (vB s),x6,x7,x8,x9],es,ro⟩ s L f 5 q a k hL ha rfl
  simp only[QX,ah,go_sem,simprocAttr,h40,h0,h0',h39,ha]
def yX(L:List Em)(y:Em)(o:Option Nat)(x:Em):Bool:=decide (x.c=y.c)&&!decide (x.x<y.x)&&!decide (y.y<x.x)&&!(match o with|some b=>(match L[b]? with|some z=>decide (z.x≤x.x)|none=>false)|none=>false)
def jH(s:Sn)(L:List Em)(y:Em):Nat→Option Nat
 |0=>none
 |q+1=>match L[q]? with
  |some x=>bif yX L y (jH s L y q) x&&gO s L q x y.n then some q else jH s L y q
  |none=>jH s L y q
def CZ:Option Nat→Int
 |some b=>b
 |none=>0
theorem wV(s:Sn)(L:List Em)(y:Em):∀q b,jH s L y q=some b→b<q∧b<L.length
 |0,b,h=>by cases h
 |q+1,b,h=>by
  have ih:=wV s L y q
  simp only[jH]at h
  cases hx:L[q]? with
  |none=>rw[hx]at h;have:=ih b h;omega
  |some x=>
   rw[hx]at h
   cases hc:yX L y (jH s L y q) x&&gO s L q x y.n with
   |true=>
    simp only[hc,Zr,Zs]at h
    have:=(Y8.1 hx).1
    omega
   |false=>simp only[hc,Zu]at h;have:=ih b h;omega
def Iu(y:Em):Bool:=decide (y.c<0)||decide (16≤y.c)||decide (y.x<0)||decide (y.y<y.x)||decide (1099511627776<y.y)
def Ja(s:Sn)(L:List Em)(y:Em):SV:=bif decide (rr (fT s) s.N.length L=0)then(bif decide (y.n<0)||decide ((s.N.length:Int)≤y.n)then .ba [acI,.bool false,acH 7]else
 bif Iu y then .ba [acI,.bool false,acH 2]else .ba [acH (CZ (jH s L y L.length)),.bool (jH s L y L.length).isSome,acI])else .ba [acI,.bool false,acH (rr (fT s) s.N.length L)]
@[go_sem] theorem yR (e H r s t):results1 e H [r,s,t]=(dI e H r).bind fun a=>(dI e H s).bind fun b=>(dI e H t).map fun c=>.ba [a,b,c]:=by
  unfold results1
  cases h:dI e H r<;>cases h':dI e H s<;>cases h'':dI e H t<;>simp[bN,h,h',h'']
theorem WH(n:Nat)(H:ab)(s:Sn)(L:List Em)(f:Bool)(y:Em)(hL:L.length≤maxLen):aa T (n+18) (.fn 82) [.agg (vB s),.agg (zG s),.aA 4 (bM L) f,.agg (qC y)] H=some (Ja s L y,H):=by
 refine ae XN (by rfl) ?_
 have h38:=fun x y z es=>MQ (n+8) [x,y,z] es 0 s L f hL (by simp)
 unfold Ja
 cases h0:decide (rr (fT s) s.N.length L=0)with
 |false=>simp only[CV,ah,go_sem,simprocAttr,h38,h0]
 |true=>
  have h0':=ZE h0
  cases k1:decide (y.n<0)with
  |true=>simp only[CV,ah,go_sem,simprocAttr,h38,h0,k1]
  |false=>
  cases k2:decide ((s.N.length:Int)≤y.n)with
  |true=>simp only[CV,ah,go_sem,simprocAttr,h38,h0,k1,G.aL,k2]
  |false=>
  unfold Iu
  cases k3:decide (y.c<0)with
  |true=>simp only[CV,ah,go_sem,simprocAttr,h38,h0,k1,G.aL,k2,k3]
  |false=>
  cases k4:decide (16≤y.c)with
  |true=>simp only[CV,ah,go_sem,simprocAttr,h38,h0,k1,G.aL,k2,k3,k4]
  |false=>
  cases k5:decide (y.x<0)with
  |true=>simp only[CV,ah,go_sem,simprocAttr,h38,h0,k1,G.aL,k2,k3,k4,k5]
  |false=>
  cases k6:decide (y.y<y.x)with
  |true=>simp only[CV,ah,go_sem,simprocAttr,h38,h0,k1,G.aL,k2,k3,k4,k5,k6]
  |false=>
  cases k7:decide (1099511627776<y.y)with
  |true=>simp only[CV,ah,go_sem,simprocAttr,h38,h0,k1,G.aL,k2,k3,k4,k5,k6,k7]
  |false=>
   simp only[CV,ah,go_sem,simprocAttr,h38,h0,h0',k1,G.aL,k2,k3,k4,k5,k6,k7]
   refine bn (fun q=>([(2,.aA 4 (bM L) f),(7,.ptr 2 0 0 0),(11,.ptr 6 0 0 0),(13,acH (CZ (jH s L y q))),(14,.bool (jH s L y q).isSome),(66,.aA 4 (bM L) f),(67,acH L.length),(68,acH q)],
    ⟨[.box (vB s),.box (zG s),.box (qC y),.box (vB s),.box (zG s),.box (qD s L f 3),.box (qD s L f 3)],[],0⟩)) (fun _=>True) L.length (by simp only[go_sem,simprocAttr];rfl) trivial ?_
   intro q hq _
   rcases Zl q L.length with hlt|hge
   ·obtain⟨x,hx⟩:=bV hlt
    have hw:=bR hlt hL
    have h39:=fun x0 x1 x2 x4 x5 x6 x7 es ro=>VL n ⟨[x0,x1,x2,.box (vB s),x4,x5,x6,x7],es,ro⟩ s L f 3 q x y.n hL hx rfl
    have no:(yX L y (jH s L y q) x&&gO s L q x y.n)=false→jH s L y (q+1)=jH s L y q:=fun h=>by simp only[jH,hx,h,Zu]
    cases j1:decide (x.c=y.c)with
    |false=>
     have e1:=no (by simp only[yX,j1];rfl)
     simp only[go_sem,simprocAttr,hlt,hx,j1,hw,e1]
     exact⟨trivial,by first|trivial|rfl,trivial⟩
    |true=>
    cases j2:decide (x.x<y.x)with
    |true=>
     have e1:=no (by simp only[yX,j1,j2];rfl)
     simp only[go_sem,simprocAttr,hlt,hx,j1,j2,hw,e1]
     exact⟨trivial,by first|trivial|rfl,trivial⟩
    |false=>
    cases j3:decide (y.y<x.x)with
    |true=>
     have e1:=no (by simp only[yX,j1,j2,j3];rfl)
     simp only[go_sem,simprocAttr,hlt,hx,j1,j2,j3,hw,e1]
     exact⟨trivial,by first|trivial|rfl,trivial⟩
    |false=>
    have hcase:yX L y (jH s L y q) x=!(match jH s L y q with|some b=>(match L[b]? with|some z=>decide (z.x≤x.x)|none=>false)|none=>false):=by simp only[yX,j1,j2,j3];rfl
    cases ho:jH s L y q with
    |none=>
     rw[ho]at hcase no
     cases hr:gO s L q x y.n with
     |false=>
      have e1:=no (by rw[hr,Z2])
      rw[hr]at h39
      simp only[go_sem,simprocAttr,hlt,hx,j1,j2,j3,ho,CZ,acg,h39,hw,e1]
      exact⟨trivial,by first|trivial|rfl,trivial⟩
     |true=>
      have e1:jH s L y (q+1)=some q:=by simp only[jH,hx,ho,hcase,hr,aaF,ZD,Zr]
      rw[hr]at h39
      simp only[go_sem,simprocAttr,hlt,hx,j1,j2,j3,ho,CZ,acg,h39,hw,e1,abw]
      exact⟨trivial,by first|trivial|rfl,trivial⟩
    |some b=>
     have hbl:=(wV s L y q b ho).2
     obtain⟨z,hz⟩:=bV hbl
     rw[ho]at hcase no
     simp only[hz]at hcase
     cases j4:decide (z.x≤x.x)with
     |true=>
      have e1:=no (by rw[hcase,j4];rfl)
      simp only[go_sem,simprocAttr,hlt,hx,j1,j2,j3,ho,CZ,abw,hbl,hz,j4,hw,e1]
      exact⟨trivial,by first|trivial|rfl,trivial⟩
     |false=>
      cases hr:gO s L q x y.n with
      |false=>
       have e1:=no (by rw[hr,Z2])
       rw[hr]at h39
       simp only[go_sem,simprocAttr,hlt,hx,j1,j2,j3,ho,CZ,abw,hbl,hz,j4,h39,hw,e1]
       exact⟨trivial,by first|trivial|rfl,trivial⟩
      |true=>
       have e1:jH s L y (q+1)=some q:=by simp only[jH,hx,ho,hcase,hr,j4,aaF,ZD,Zr]
       rw[hr]at h39
       simp only[go_sem,simprocAttr,hlt,hx,j1,j2,j3,ho,CZ,abw,hbl,hz,j4,h39,hw,e1]
       exact⟨trivial,by first|trivial|rfl,trivial⟩
   ·obtain rfl:q=L.length:=by omega
    simp only[go_sem,simprocAttr,show decide ((L.length:Int)<(L.length:Int))=false from Zf (by omega)]
theorem Ma{B f:Int}(hB:G.dT B=true)(h0:0≤f)(h1:f≤1000):U.FF B f=B*f/1000:=by
 rw[G.js]at hB
 have hm:B*f≤B*1000:=aaD h1 hB.1
 have hn:0≤B*f:=acG hB.1 h0
 have e1:bb (B*f)=B*f:=ao (by omega) (by omega)
 have e2:(B*f).tdiv 1000=B*f/1000:=aaI hn
 unfold U.FF
 rw[e1,e2]
 exact ao (by omega) (by omega)
theorem GO{B f:Int}(hB:G.dT B=true)(h0:0≤f)(h1:f≤1000):0≤U.FF B f∧U.FF B f≤68719476736:=by
 rw[Ma hB h0 h1]
 rw[G.js]at hB
 have hm:B*f≤B*1000:=aaD h1 hB.1
 have hn:0≤B*f:=acG hB.1 h0
 omega
theorem xZ{s:Sn}(h:fT s=true)(a:Em)(k:Int):0≤sig s a k∧sig s a k≤68719476736:=by
 simp only[fT,Zh]at h
 unfold sig U.V3
 cases hc:fT s&&G.uN s.N a.n k&&(U.di a.c&&U.EM a.x)with
 |false=>simp only[Zu];omega
 |true=>
  simp only[Zh]at hc
  simp only[Zr]
  have hp:=(G.wq (W:=s.W) (ex:=s.ex) h.1 hc.1.2).2
  have hl:=U.Bf (U.zB a.n k a.c a.x) (U.Cd h.2)
  exact GO hp hl.1 hl.2
theorem ED{N:List (Int×Int)}{P:List Int}{W:List G.Wl}{ex no th:Int}(hok:G.jg N P W ex no th=true)(k:Nat)(s:U.Src):0≤U.FG N P W ex no th k s∧U.FG N P W ex no th k s≤68719476736:=by
 unfold U.FG
 cases ha:G.nN s.a s.b s.p (G.nd N k).1 (G.nd N k).2 with
 |false=>simp only[G.qB,hok,Z2,Zu];omega
 |true=>
  have:=G.js.1 (G.Bp hok ha).2
  simp only[G.qB,hok,ZD,Zr];exact this
theorem qi{f:U.Src→Int}(h:∀s,0≤f s∧f s≤68719476736)(c x y:Int):∀(S:List U.Src) (v:Int),0≤v→v+S.length*68719476736≤4611686018427387904→
 0≤S.foldl (U.pz (fun v s=>bb (v+f s)) c x y) v∧S.foldl (U.pz (fun v s=>bb (v+f s)) c x y) v≤v+S.length*68719476736
 |[],v,h0,_=>by simp only[acF,Zx];omega
 |s::S,v,h0,hb=>by
  have hs:=h s
  simp only[Zw]at hb⊢
  simp only[aad,U.pz]
  split
  ·have e:bb (v+f s)=v+f s:=ao (by omega) (by omega)
   rw[e]
   have:=qi h c x y S (v+f s) (by omega) (by omega)
   omega
  ·have:=qi h c x y S v h0 (by omega)
   omega
theorem yj{s:Sn}(h:fT s=true)(a:Em)(k:Int):0≤ext s a k∧ext s a k≤1099511627776:=by
 simp only[fT,Zh]at h
 unfold ext U.V3
 cases hc:fT s&&U.eB s.N.length k&&(U.di a.c&&U.Bh a.x a.y)with
 |false=>simp only[Zu];omega
 |true=>
  simp only[Zr]
  have hS:s.S.length≤16:=by
   have:=h.2
   simp only[U.oF,Zh,Ze]at this
   omega
  have:=qi (f:=U.FG s.N s.P s.W s.ex s.no s.th k.toNat) (fun t=>ED h.1 _ t) a.c a.x a.y s.S 0 (by omega) (by omega)
  unfold U.Df
  omega
def ju(g:Em→Int)(a:Em)(i:Nat)(k:Int)(L:List Em):Nat→Int
 |0=>0
 |q+1=>match L[q]? with
  |some x=>ju g a i k L q+bif mT a i k q x then g x else 0
  |none=>ju g a i k L q
theorem u4{g:Em→Int}(h:∀x,0≤g x∧g x≤68719476736)(a:Em)(i:Nat)(k:Int)(L:List Em):∀q,0≤ju g a i k L q∧ju g a i k L q≤q*68719476736
 |0=>by simp[ju]
 |q+1=>by
  have ih:=u4 h a i k L q
  simp only[ju]
  cases L[q]? with
  |none=>simp only;omega
  |some x=>
   have:=h x
   simp only
   cases mT a i k q x<;>simp only[Zr,Zu]<;>omega
theorem vq{g:Em→Int}(h:∀x,0≤g x∧g x≤68719476736)(a:Em)(i:Nat)(k:Int)(L:List Em)(e:Int)(h0:0≤e)(h1:e≤1099511627776):∀q,q≤1000→jK (fun v _ x=>bb (v+g x)) a i k L e q=e+ju g a i k L q
 |0,_=>by simp[jK,ju]
 |q+1,hq=>by
  have ih:=vq h a i k L e h0 h1 q (by omega)
  have hr:=u4 h a i k L q
  simp only[jK,ju]
  cases L[q]? with
  |none=>exact ih
  |some x=>
   have:=h x
   simp only
   cases mT a i k q x with
   |false=>simp only[Zu];rw[ih];omega
   |true=>
    simp only[Zr]
    rw[ih,ao (by omega) (by omega)]
    omega
theorem kN{s:Sn}(h:fT s=true){L:List Em}(hL:L.length≤1000)(i:Nat)(a:Em)(k:Int):inter s L i a k=ext s a k+ju (fun x=>sig s x k) a i k L L.length:=
 vq (fun x=>xZ h x k) a i k L _ (yj h a k).1 (yj h a k).2 _ hL
end A

end Go.Sh
