/- Part of the proof of FieldSlotsSaid: texts K19w, ShLs. -/
import Derived.Test.YtcfgikdpokjhpaaGreatB8
import Derived.Test.YtcfgikdpokjhpaaGreatB6
namespace Go.Sh
set_option linter.unusedSectionVars false
set_option linter.unnecessarySimpa false
set_option linter.unusedSimpArgs false
set_option linter.unusedVariables false
set_option maxRecDepth 100000
set_option maxHeartbeats 4000000
namespace A
structure Em where
 n:Int
 c:Int
 x:Int
 y:Int
abbrev ra(e:Em):List SV:=[aew e.n,aew e.c,aew e.x,aew e.y]
def bK(L:List Em):List (List SV):=L.map ra
@[go_sem] theorem ep {L:List Em}:(bK L).length=L.length:=by simp[bK]
@[go_sem] theorem LJ {L:List Em}{i:Nat}:(bK L)[i]?=(L[i]?).map ra:=by simp[bK]
theorem yT(L:List Em)(i:Nat):(bK L).take i=bK (L.take i):=by simp[bK]
def qW(a b:Em):Bool:=decide (max a.x b.x<min a.y b.y)
theorem tO(a b:Em):qW a b=qW b a:=by unfold qW;rw[Int.max_comm,Int.min_comm]
theorem G6(n:Nat)(H:ae)(a b:Em):aa T (n+1) (.fn 183) [.agg (ra a),.agg (ra b)] H=some (.bool (qW a b),H):=by
 refine ab VI (by rfl) ?_
 simp only[MP,ah,go_sem,simprocAttr]
 rfl
theorem GN(n:Nat)(H:ae)(a b:Em):aa T (n+1) (.fn 147) [.agg (ra a),.agg (ra b)] H=some (.bool (qW a b),H):=by
 refine ab Sk (by rfl) ?_
 simp only[JC,ah,go_sem,simprocAttr]
 rfl
def tY(a:Em):Bool:=U.bP a.c&&decide (0≤a.x)&&decide (a.x<a.y)&&decide (a.y≤1099511627776)
def eY(a b:Em):Bool:=decide (b.n=a.n)&&qW a b
def sj(n:Nat)(pre:List Em)(a:Em):Int:=bif U.dQ n a.n then(bif tY a then(bif pre.any (eY a)then 16 else 0)else 2)else 7
def wY(n:Nat)(L:List Em):Nat→Nat→Int
 |0,_=>0
 |k+1,i=>match L[i]? with
  |none=>0
  |some a=>bif decide (sj n (L.take i) a=0)then wY n L k (i+1)else sj n (L.take i) a
def zM(n:Nat)(L:List Em):Int:=wY n L L.length 0
theorem nX{n:Nat}{L:List Em}{i:Nat}{a:Em}(ha:L[i]?=some a)(h0:∀(j:Nat) b,j<i→L[j]?=some b→sj n (L.take j) b=0)(hn:sj n (L.take i) a≠0):zM n L=sj n (L.take i) a:=by
 have key:∀(k j:Nat),i-j<k→j≤i→wY n L k j=sj n (L.take i) a:=by
  intro k
  induction k with
  |zero=>intro j h1;omega
  |succ k ih=>
   intro j h1 h2
   have hlt:=(aaS.1 ha).1
   obtain⟨b,hb⟩:=bF (l:=L) (i:=j) (by omega)
   simp only[wY,hb]
   by_cases hj:j=i
   ·subst hj
    rw[ha]at hb;cases hb
    rw[aaZ hn];rfl
   ·rw[aaV (h0 j b (by omega) hb)]
    exact ih (j+1) (by omega) (by omega)
 exact key L.length 0 (by have:=(aaS.1 ha).1;omega) (by omega)
theorem zP{n:Nat}{L:List Em}(h0:∀(j:Nat) b,L[j]?=some b→sj n (L.take j) b=0):zM n L=0:=by
 have key:∀(k j:Nat),wY n L k j=0:=by
  intro k
  induction k with
  |zero=>intro j;rfl
  |succ k ih=>
   intro j
   simp only[wY]
   cases hb:L[j]? with
   |none=>rfl
   |some b=>
    simp only
    rw[aaV (h0 j b hb)]
    exact ih (j+1)
 exact key _ _
def mu(tZ:Bool)(n:Nat)(L:List Em):Int:=bif tZ then(bif decide (48<L.length)then 8 else zM n L)else 1
theorem rC{A:Type}{S:List A}{p:A→Bool}{j:Nat}{s:A}(h:S[j]?=some s):(S.take (j+1)).any p=((S.take j).any p||p s):=by
 rw[acu,h];simp
theorem M5{a:Em}(h:tY a=false):decide (a.c<0)=true∨(decide (a.c<0)=false∧decide (16≤a.c)=true)∨(decide (a.c<0)=false∧decide (16≤a.c)=false∧decide (a.x<0)=true)∨
 (decide (a.c<0)=false∧decide (16≤a.c)=false∧decide (a.x<0)=false∧decide (a.y≤a.x)=true)∨(decide (a.c<0)=false∧decide (16≤a.c)=false∧decide (a.x<0)=false∧decide (a.y≤a.x)=false∧decide (1099511627776<a.y)=true):=by
 simp only[tY,U.bP,acH,aaX,aa0]at *
 omega
theorem HX{a:Em}(h:tY a=true):decide (a.c<0)=false∧decide (16≤a.c)=false∧decide (a.x<0)=false∧decide (a.y≤a.x)=false∧decide (1099511627776<a.y)=false:=by
 simp only[tY,U.bP,aa1,aaX,aa0]at *
 omega
theorem yn{n:Nat}{a:Int}(h:U.dQ n a=true):decide (a<0)=false∧decide ((n:Int)≤a)=false:=by
 simp only[U.dQ,aa1,aaX,aa0]at *
 omega
theorem xS{n:Nat}{pre:List Em}{a:Em}(h:U.dQ n a.n=false):sj n pre a=7:=by simp only[sj,h,abc]
theorem xK{n:Nat}{pre:List Em}{a:Em}(h:U.dQ n a.n=true)(h2:tY a=false):sj n pre a=2:=by simp only[sj,h,h2,abc,abb]
theorem tf{n:Nat}{pre:List Em}{a:Em}(h:U.dQ n a.n=true)(h2:tY a=true)(h3:pre.any (eY a)=true):sj n pre a=16:=by simp only[sj,h,h2,h3,abb]
theorem Fy{n:Nat}{pre:List Em}{a:Em}(h:U.dQ n a.n=true)(h2:tY a=true)(h3:pre.any (eY a)=false):sj n pre a=0:=by simp only[sj,h,h2,h3,abb,abc]
theorem RE(m:Nat)(H:ae)(N P W g1 g2 g3 ex no th)(z1:Nat)(S:List U.Src)(f1:Bool)(z2:Nat)(F:List U.Fd)(f2:Bool)(L:List Em)(f:Bool)(hN:N.length≤maxLen)(hP:P.length≤maxLen)(hW:W.length≤maxLen)(hz1:z1=7∨S=[])(hz:z2=6∨F=[])(hS:U.tZ S)(hF:F.length≤maxLen)(hL:L.length≤maxLen) :
 aa T (m+8) (.fn 182) [G.st N P W g1 g2 g3 ex no th,U.IH z1 S f1 z2 F f2,.ay 4 (bK L) f] H=some (aew (mu (G.eJ N P W ex no th&&U.ji S F) N.length L),H):=by
 refine ab Wa (by rfl) ?_
 have h32:=fun H=>G.IY (m+1) H N P W g1 g2 g3 ex no th hN hP hW
 have h33:=fun H=>U.FY m H S F f1 f2 z1 z2 hz1 hz hS hF
 simp only[Lv,ah,go_sem,simprocAttr,h32]
 cases hok:G.eJ N P W ex no th with
 |false=>simp only[go_sem,simprocAttr,mu,abk]
 |true=>
  simp only[go_sem,simprocAttr,h33]
  cases hck:U.ji S F with
  |false=>simp only[go_sem,simprocAttr,mu,abt]
  |true=>
   simp only[go_sem,simprocAttr,mu,abn]
   by_cases h48:48<L.length
   ·have q:decide ((48:Int)<(L.length:Int))=true:=aaV (by omega)
    simp only[go_sem,simprocAttr,q,h48,ace]
   ·have q:decide ((48:Int)<(L.length:Int))=false:=aaZ (by omega)
    simp only[go_sem,simprocAttr,q,h48,ac2]
    refine aY (fun i=>([(2,.ay 4 (bK L) f),(3,.ptr 0 0 0 0),(24,.ay 4 (bK L) f),(25,aew L.length),(26,aew i)],
     ⟨[.box [.ay 2 (G.cW N) g1,.ay 1 (G.cM P) g2,.ay 5 (G.ey W) g3,aew ex,aew no,aew th],.box [.ay z1 (U.c0 S) f1,.ay z2 (U.cZ F) f2]],[],0⟩))
     (fun i=>∀(j:Nat) b,j<i→L[j]?=some b→sj N.length (L.take j) b=0) L.length ?_ (fun j b h=>by omega) ?_
    ·simp only[go_sem,simprocAttr]<;>rfl
    ·intro i hi hP'
     rcases aa4 i L.length with hlt|hge
     ·obtain⟨a,ha⟩:=bF hlt
      have hw:=br hlt hL
      simp only[go_sem,simprocAttr,hlt,ha,G.aL]
      cases hin:U.dQ N.length a.n with
      |false=>
       have hE:=nX ha hP' (by rw[xS hin];decide)
       rw[xS hin]at hE
       rcases U.Ap hin with q|⟨q,q'⟩
       ·simp only[go_sem,simprocAttr,q,hE]
       ·simp only[go_sem,simprocAttr,q,q',G.aL,hE]
      |true=>
       obtain⟨q,q'⟩:=yn hin
       simp only[go_sem,simprocAttr,q,q',G.aL]
       cases hem:tY a with
       |false=>
        have hE:=nX ha hP' (by rw[xK hin hem];decide)
        rw[xK hin hem]at hE
        rcases M5 hem with r1|⟨r1,r2⟩|⟨r1,r2,r3⟩|⟨r1,r2,r3,r4⟩|⟨r1,r2,r3,r4,r5⟩
        ·simp only[go_sem,simprocAttr,r1,hE]
        ·simp only[go_sem,simprocAttr,r1,r2,hE]
        ·simp only[go_sem,simprocAttr,r1,r2,r3,hE]
        ·simp only[go_sem,simprocAttr,r1,r2,r3,r4,hE]
        ·simp only[go_sem,simprocAttr,r1,r2,r3,r4,r5,hE]
       |true=>
        obtain⟨r1,r2,r3,r4,r5⟩:=HX hem
        have hle:i≤L.length:=by omega
        have d1:decide ((i:Int)≤(L.length:Int))=true:=aaV (by omega)
        simp only[go_sem,simprocAttr,r1,r2,r3,r4,r5,hle,d1,yT]
        have hmin:min i L.length=i:=ab2 hle
        refine oz (fun j=>([(2,.ay 4 (bK L) f),(3,.ptr 0 0 0 0),(8,.ptr 2 0 0 0),(24,.ay 4 (bK L) f),(25,aew L.length),(26,aew i),(71,.ay 4 (bK (L.take i)) (f&&i==L.length)),(72,aew i),(73,aew j)],
         ⟨[.box [.ay 2 (G.cW N) g1,.ay 1 (G.cM P) g2,.ay 5 (G.ey W) g3,aew ex,aew no,aew th],.box [.ay z1 (U.c0 S) f1,.ay z2 (U.cZ F) f2],.box (ra a)],[],0⟩))
         (fun j=>(L.take j).any (eY a)=false) i ?_ rfl ?_
        ·simp only[go_sem,simprocAttr,abF,hmin]
         rfl
        ·intro j hj hjP
         have hlen:(L.take i).length=i:=by rw[abF];exact hmin
         rcases aa4 j i with hlt2|hge2
         ·obtain⟨b,hb⟩:=bF (l:=L) (i:=j) (by omega)
          have hb':(L.take i)[j]?=some b:=by rw[abp,if_pos hlt2];exact hb
          have hw2:=br hlt2 (abv hle hL)
          have han:=rC (p:=eY a) hb
          have h14:=fun H=>G6 (m+6) H a b
          cases hcl:eY a b with
          |true=>
           have hE:=nX ha hP' (by rw[tf hin hem (ab5.2 ⟨b,aa3 hb',hcl⟩)];decide)
           rw[tf hin hem (ab5.2 ⟨b,aa3 hb',hcl⟩)]at hE
           simp only[eY,aa1]at hcl
           simp only[go_sem,simprocAttr,hlen,hlt2,hb',hcl.1,hcl.2,h14,hE]
          |false=>
           have hn:(L.take (j+1)).any (eY a)=false:=by rw[han,hjP,hcl];rfl
           simp only[eY]at hcl
           cases hnn:decide (b.n=a.n)with
           |false=>
            simp only[go_sem,simprocAttr,hlen,hlt2,hb',hnn,hw2]
            exact⟨by first|trivial|exact hlt2,rfl,hn⟩
           |true=>
            rw[hnn,abo]at hcl
            simp only[go_sem,simprocAttr,hlen,hlt2,hb',hnn,h14,hcl,hw2]
            exact⟨by first|trivial|exact hlt2,rfl,hn⟩
         ·have hji:j=i:=by omega
          subst hji
          simp only[go_sem,simprocAttr,Int.lt_irrefl,ac2,hw]
          refine⟨by first|trivial|exact hlt,rfl,fun k b hk hb=>?_⟩
          rcases aa4 k j with h3|h3
          ·exact hP' k b h3 hb
          ·have:k=j:=by omega
           subst this
           rw[ha]at hb;cases hb
           exact Fy hin hem hjP
     ·have hlt:¬i<L.length:=by omega
      have hE:=zP (n:=N.length) (L:=L) (fun j b hj=>hP' j b (by have:=(aaS.1 hj).1;omega) hj)
      simp only[go_sem,simprocAttr,hlt,hE]
theorem Fx(a:Em):tY a=(U.bP a.c&&U.mH a.x a.y&&!decide (a.x=a.y)):=by
 simp only[tY,U.mH]
 cases U.bP a.c with
 |false=>simp only[abk]
 |true=>
  rw[abG]
  simp only[abo,aa1,aaX,abx,aa0]
  omega
theorem H8{a:Em}(h:tY a=false):U.bP a.c=false∨(U.bP a.c=true∧U.mH a.x a.y=false)∨(U.bP a.c=true∧U.mH a.x a.y=true∧decide (a.x=a.y)=true):=by
 rw[Fx]at h
 cases h1:U.bP a.c with
 |false=>exact .inl rfl
 |true=>
  cases h2:U.mH a.x a.y with
  |false=>exact .inr (.inl ⟨rfl,rfl⟩)
  |true=>
   rw[h1,h2]at h
   exact .inr (.inr ⟨rfl,rfl,by simpa using h⟩)
theorem EX{a:Em}(h:tY a=true):U.bP a.c=true∧U.mH a.x a.y=true∧decide (a.x=a.y)=false:=by
 rw[Fx]at h
 simp only[aa1,abx]at h
 exact⟨h.1.1,h.1.2,h.2⟩
theorem Ye(m:Nat)(H:ae)(N P W g1 g2 g3 ex no th)(S:List U.Src)(f1:Bool)(F:List U.Fd)(f2:Bool)(L:List Em)(f:Bool)(hN:N.length≤maxLen)(hW:W.length≤maxLen)(hS:U.tZ S)(hF:F.length≤maxLen)(hL:L.length≤maxLen) :
 aa T (m+8) (.fn 97) [G.st N P W g1 g2 g3 ex no th,U.sp S f1 F f2,.ay 4 (bK L) f] H=some (aew (mu (G.eJ N P W ex no th&&U.ji S F) N.length L),H):=by
 refine ab ZV (by rfl) ?_
 have h34:=fun H=>G.J7 (m+1) H N P W g1 g2 g3 ex no th hW hN
 have h35:=fun H=>U.Vo (m+4) H S F f1 f2 hS hF
 simp only[Xf,ah,go_sem,simprocAttr,h34]
 cases hok:G.eJ N P W ex no th with
 |false=>simp only[go_sem,simprocAttr,mu,abk]
 |true=>
  simp only[go_sem,simprocAttr,h35]
  cases hck:U.ji S F with
  |false=>simp only[go_sem,simprocAttr,mu,abt]
  |true=>
   simp only[go_sem,simprocAttr,mu,abn]
   by_cases h48:48<L.length
   ·have q:decide ((48:Int)<(L.length:Int))=true:=aaV (by omega)
    simp only[go_sem,simprocAttr,q,h48,ace]
   ·have q:decide ((48:Int)<(L.length:Int))=false:=aaZ (by omega)
    simp only[go_sem,simprocAttr,q,h48,ac2]
    refine aY (fun i=>([(2,.ay 4 (bK L) f),(3,.ptr 0 0 0 0),(7,aew i)],
     ⟨[.box [.ay 2 (G.cW N) g1,.ay 1 (G.cM P) g2,.ay 5 (G.ey W) g3,aew ex,aew no,aew th],.box [.ay 7 (U.c0 S) f1,.ay 6 (U.cZ F) f2]],[],0⟩))
     (fun i=>∀(j:Nat) b,j<i→L[j]?=some b→sj N.length (L.take j) b=0) L.length ?_ (fun j b h=>by omega) ?_
    ·simp only[go_sem,simprocAttr]<;>rfl
    ·intro i hi hP'
     rcases aa4 i L.length with hlt|hge
     ·obtain⟨a,ha⟩:=bF hlt
      have hw:=br hlt hL
      simp only[go_sem,simprocAttr,hlt,ha,G.aL]
      cases hin:U.dQ N.length a.n with
      |false=>
       have hE:=nX ha hP' (by rw[xS hin];decide)
       rw[xS hin]at hE
       rcases U.Ap hin with q|⟨q,q'⟩
       ·simp only[go_sem,simprocAttr,q,hE]
       ·simp only[go_sem,simprocAttr,hlt,ha,q,q',G.aL,hE]
      |true=>
       obtain⟨q,q'⟩:=yn hin
       simp only[go_sem,simprocAttr,hlt,ha,q,q',G.aL,U.FW]
       cases hem:tY a with
       |false=>
        have hE:=nX ha hP' (by rw[xK hin hem];decide)
        rw[xK hin hem]at hE
        rcases H8 hem with r1|⟨r1,r2⟩|⟨r1,r2,r3⟩
        ·simp only[go_sem,simprocAttr,r1,hE]
        ·simp only[go_sem,simprocAttr,hlt,ha,r1,r2,U.FJ,hE]
        ·simp only[go_sem,simprocAttr,hlt,ha,r1,r2,r3,U.FJ,hE]
       |true=>
        obtain⟨r1,r2,r3⟩:=EX hem
        have hle:i≤L.length:=by omega
        simp only[go_sem,simprocAttr,hlt,ha,r1,r2,r3,U.FJ]
        refine oz (fun j=>([(2,.ay 4 (bK L) f),(3,.ptr 0 0 0 0),(7,aew i),(8,aew j)],
         ⟨[.box [.ay 2 (G.cW N) g1,.ay 1 (G.cM P) g2,.ay 5 (G.ey W) g3,aew ex,aew no,aew th],.box [.ay 7 (U.c0 S) f1,.ay 6 (U.cZ F) f2]],[],0⟩))
         (fun j=>(L.take j).any (eY a)=false) i ?_ rfl ?_
        ·simp only[go_sem,simprocAttr]<;>rfl
        ·intro j hj hjP
         rcases aa4 j i with hlt2|hge2
         ·obtain⟨b,hb⟩:=bF (l:=L) (i:=j) (by omega)
          have hjl:j<L.length:=by omega
          have hb':(L.take i)[j]?=some b:=by rw[abp,if_pos hlt2];exact hb
          have hw2:=br hlt2 (abv hle hL)
          have han:=rC (p:=eY a) hb
          have h15:=fun H=>GN (m+6) H b a
          rw[tO]at h15
          cases hcl:eY a b with
          |true=>
           have hE:=nX ha hP' (by rw[tf hin hem (ab5.2 ⟨b,aa3 hb',hcl⟩)];decide)
           rw[tf hin hem (ab5.2 ⟨b,aa3 hb',hcl⟩)]at hE
           simp only[eY,aa1]at hcl
           simp only[go_sem,simprocAttr,hlt,ha,hlt2,hjl,hb,hcl.1,hcl.2,h15,hE]
          |false=>
           have hn:(L.take (j+1)).any (eY a)=false:=by rw[han,hjP,hcl];rfl
           simp only[eY]at hcl
           cases hnn:decide (b.n=a.n)with
           |false=>
            simp only[go_sem,simprocAttr,hlt,ha,hlt2,hjl,hb,hnn,hw2]
            exact⟨by first|trivial|exact hlt2,rfl,hn⟩
           |true=>
            rw[hnn,abo]at hcl
            simp only[go_sem,simprocAttr,hlt,ha,hlt2,hjl,hb,hnn,h15,hcl,hw2]
            exact⟨by first|trivial|exact hlt2,rfl,hn⟩
         ·have hji:j=i:=by omega
          subst hji
          simp only[go_sem,simprocAttr,Int.lt_irrefl,adi,ac2,hw]
          refine⟨by first|trivial|exact hlt,rfl,fun k b hk hb=>?_⟩
          rcases aa4 k j with h3|h3
          ·exact hP' k b h3 hb
          ·have:k=j:=by omega
           subst this
           rw[ha]at hb;cases hb
           exact Fy hin hem hjP
     ·have hlt:¬i<L.length:=by omega
      have hE:=zP (n:=N.length) (L:=L) (fun j b hj=>hP' j b (by have:=(aaS.1 hj).1;omega) hj)
      simp only[go_sem,simprocAttr,hlt,hE]
abbrev MG(N:List (Int×Int))(P:List Int)(W:List G.Wl)(g1 g2 g3:Bool)(ex no th:Int)(S:List U.Src)(f1:Bool)(F:List U.Fd)(f2:Bool)(L:List Em)(f:Bool):List SV:=
 [.ay 2 (G.cW N) g1,.ay 1 (G.cM P) g2,.ay 5 (G.ey W) g3,aew ex,aew no,aew th,.ay 7 (U.c0 S) f1,.ay 6 (U.cZ F) f2,.ay 4 (bK L) f]
theorem su(L:List Em):Still (bK L):=by
 intro cs hcs c hc
 simp only[bK,acd]at hcs
 obtain⟨h,_,rfl⟩:=hcs
 simp only[abK,List.not_mem_nil,or_false]at hc
 rcases hc with rfl|rfl|rfl|rfl<;>exact⟨by simp[SV.refs],fun N H d=>by simp only[eh]⟩
abbrev VE:List DT:=[.int .i64,.int .i64,.int .i64,.int .i64]
abbrev T9:List DT:=[.ay [.int .i64,.int .i64],.ay [.int .i64],.ay [.int .i64,.int .i64,.int .i64,.int .i64,.int .i64],.int .i64,.int .i64,.int .i64,
 .ay [.int .i64,.int .i64,.int .i64,.ay [.int .i64],.int .i64,.int .i64,.int .i64],.ay [.int .i64,.int .i64,.int .i64,.int .i64,.int .i64,.int .i64],.ay VE]
abbrev N0:Bool×List DT:=(true,T9)
theorem n9:∀{L:List (List SV)},(∀q∈L,cC [.int .i64,.int .i64] q)→∃N,L=G.cW N
 |[],_=>⟨[],rfl⟩
 |r::L,h=>by
  obtain⟨N,rfl⟩:=n9 (L:=L) (fun q hq=>h q (by simp[hq]))
  have h0:=h r (by simp)
  obtain⟨a,_,rfl,_,h0⟩:=aU h0
  obtain⟨b,_,rfl,_,h0⟩:=aU h0
  cases ch h0
  exact⟨(a,b)::N,rfl⟩
theorem jR:∀{L:List (List SV)},(∀q∈L,cC [.int .i64] q)→∃N,L=G.cM N
 |[],_=>⟨[],rfl⟩
 |r::L,h=>by
  obtain⟨N,rfl⟩:=jR (L:=L) (fun q hq=>h q (by simp[hq]))
  have h0:=h r (by simp)
  obtain⟨a,_,rfl,_,h0⟩:=aU h0
  cases ch h0
  exact⟨a::N,rfl⟩
theorem kK:∀{L:List (List SV)},(∀q∈L,cC [.int .i64] q)→∃N,L=iS N
 |[],_=>⟨[],rfl⟩
 |r::L,h=>by
  obtain⟨N,rfl⟩:=kK (L:=L) (fun q hq=>h q (by simp[hq]))
  have h0:=h r (by simp)
  obtain⟨a,_,rfl,_,h0⟩:=aU h0
  cases ch h0
  exact⟨a::N,rfl⟩
theorem pL:∀{L:List (List SV)},(∀q∈L,cC [.int .i64,.int .i64,.int .i64,.int .i64,.int .i64] q)→∃N,L=G.ey N
 |[],_=>⟨[],rfl⟩
 |r::L,h=>by
  obtain⟨N,rfl⟩:=pL (L:=L) (fun q hq=>h q (by simp[hq]))
  have h0:=h r (by simp)
  obtain⟨a,_,rfl,_,h0⟩:=aU h0
  obtain⟨b,_,rfl,_,h0⟩:=aU h0
  obtain⟨c,_,rfl,_,h0⟩:=aU h0
  obtain⟨d,_,rfl,_,h0⟩:=aU h0
  obtain⟨f,_,rfl,_,h0⟩:=aU h0
  cases ch h0
  exact⟨⟨a,b,c,d,f⟩::N,rfl⟩
theorem pQ:∀{L:List (List SV)},(∀q∈L,cC [.int .i64,.int .i64,.int .i64,.ay [.int .i64],.int .i64,.int .i64,.int .i64] q)→∃S,L=U.c0 S∧∀s∈S,s.C.length≤maxLen
 |[],_=>⟨[],rfl,fun s h=>by cases h⟩
 |r::L,h=>by
  obtain⟨N,rfl,hN⟩:=pQ (L:=L) (fun q hq=>h q (by simp[hq]))
  have k:=h r (by simp)
  obtain⟨a,_,rfl,_,k⟩:=aU k
  obtain⟨b,_,rfl,_,k⟩:=aU k
  obtain⟨p,_,rfl,_,k⟩:=aU k
  obtain⟨L1,f1,_,rfl,m1,a1,k⟩:=dC k
  obtain⟨fU,_,rfl,_,k⟩:=aU k
  obtain⟨fr,_,rfl,_,k⟩:=aU k
  obtain⟨to,_,rfl,_,k⟩:=aU k
  cases ch k
  obtain⟨C,rfl⟩:=kK a1
  exact⟨⟨a,b,p,C,f1,fU,fr,to⟩::N,rfl,fun t ht=>by
   rcases abK.1 ht with rfl|ht
   ·simpa[iS]using m1
   ·exact hN t ht⟩
theorem qn:∀{L:List (List SV)},(∀q∈L,cC [.int .i64,.int .i64,.int .i64,.int .i64,.int .i64,.int .i64] q)→∃S,L=U.cZ S
 |[],_=>⟨[],rfl⟩
 |r::L,h=>by
  obtain⟨N,rfl⟩:=qn (L:=L) (fun q hq=>h q (by simp[hq]))
  have k:=h r (by simp)
  obtain⟨a,_,rfl,_,k⟩:=aU k
  obtain⟨b,_,rfl,_,k⟩:=aU k
  obtain⟨c,_,rfl,_,k⟩:=aU k
  obtain⟨x,_,rfl,_,k⟩:=aU k
  obtain⟨y,_,rfl,_,k⟩:=aU k
  obtain⟨f,_,rfl,_,k⟩:=aU k
  cases ch k
  exact⟨⟨a,b,c,x,y,f⟩::N,rfl⟩
theorem Hm{r:List SV}(k:cC VE r):∃e:Em,r=ra e:=by
 obtain⟨a,_,rfl,_,k⟩:=aU k
 obtain⟨b,_,rfl,_,k⟩:=aU k
 obtain⟨c,_,rfl,_,k⟩:=aU k
 obtain⟨d,_,rfl,_,k⟩:=aU k
 cases ch k
 exact⟨⟨a,b,c,d⟩,rfl⟩
theorem AS:∀{L:List (List SV)},(∀q∈L,cC VE q)→∃E,L=bK E
 |[],_=>⟨[],rfl⟩
 |r::L,h=>by
  obtain⟨N,rfl⟩:=AS (L:=L) (fun q hq=>h q (by simp[hq]))
  obtain⟨e,rfl⟩:=Hm (h r (by simp))
  exact⟨e::N,rfl⟩
theorem FG{x:SV}(h:sd N0 x):∃N P W g1 g2 g3 ex no th S f1 F f2 L f,x=.agg (MG N P W g1 g2 g3 ex no th S f1 F f2 L f)∧N.length≤maxLen∧P.length≤maxLen∧W.length≤maxLen∧U.tZ S∧F.length≤maxLen∧L.length≤maxLen:=by
 obtain⟨cs,rfl,k⟩:=rS h
 obtain⟨L1,g1,_,rfl,m1,a1,k⟩:=dC k
 obtain⟨L2,g2,_,rfl,m2,a2,k⟩:=dC k
 obtain⟨L3,g3,_,rfl,m3,a3,k⟩:=dC k
 obtain⟨ex,_,rfl,_,k⟩:=aU k
 obtain⟨no,_,rfl,_,k⟩:=aU k
 obtain⟨th,_,rfl,_,k⟩:=aU k
 obtain⟨L4,f1,_,rfl,m4,a4,k⟩:=dC k
 obtain⟨L5,f2,_,rfl,m5,a5,k⟩:=dC k
 obtain⟨L6,f,_,rfl,m6,a6,k⟩:=dC k
 cases ch k
 obtain⟨N,rfl⟩:=n9 a1
 obtain⟨P,rfl⟩:=jR a2
 obtain⟨W,rfl⟩:=pL a3
 obtain⟨S,rfl,hS⟩:=pQ a4
 obtain⟨F,rfl⟩:=qn a5
 obtain⟨L,rfl⟩:=AS a6
 exact⟨N,P,W,g1,g2,g3,ex,no,th,S,f1,F,f2,L,f,rfl,by simpa[G.cW]using m1,by simpa[G.cM]using m2,by simpa[G.ey]using m3,⟨by simpa[U.c0]using m4,hS⟩,by simpa[U.cZ]using m5,by simpa[bK]using m6⟩
structure Sn where
 N:List (Int×Int)
 P:List Int
 W:List G.Wl
 g1:Bool
 g2:Bool
 g3:Bool
 ex:Int
 no:Int
 th:Int
 S:List U.Src
 f1:Bool
 F:List U.Fd
 f2:Bool
 hN:N.length≤maxLen
 hP:P.length≤maxLen
 hW:W.length≤maxLen
 hS:U.tZ S
 hF:F.length≤maxLen
abbrev lZ(s:Sn):List SV:=[.ay 2 (G.cW s.N) s.g1,.ay 1 (G.cM s.P) s.g2,.ay 5 (G.ey s.W) s.g3,aew s.ex,aew s.no,aew s.th]
abbrev ow(s:Sn):List SV:=[.ay 7 (U.c0 s.S) s.f1,.ay 6 (U.cZ s.F) s.f2]
abbrev qZ(s:Sn)(L:List Em)(f:Bool)(b:Nat):List SV:=[.ay 2 (G.cW s.N) s.g1,.ay 1 (G.cM s.P) s.g2,.ay 5 (G.ey s.W) s.g3,aew s.ex,aew s.no,aew s.th,.ay 7 (U.c0 s.S) s.f1,.ay 6 (U.cZ s.F) s.f2,.ay 4 (bK L) f,.fn 180 [.ptr b 0 0 0]]
def dP(s:Sn):Bool:=G.eJ s.N s.P s.W s.ex s.no s.th&&U.ji s.S s.F
def sig(s:Sn)(a:Em)(n:Int):Int:=U.V3 (dP s) (G.nZ s.N a.n n) (U.bP a.c&&U.vT a.x) (U.CR (G.ri (G.atR s.W s.ex) s.N s.P a.n n) (U.vV (U.tG a.n n a.c a.x) s.F))
def ext(s:Sn)(a:Em)(n:Int):Int:=U.V3 (dP s) (U.dQ s.N.length n) (U.bP a.c&&U.mH a.x a.y) (U.yS (U.zm s.N s.P s.W s.ex s.no s.th n.toNat) s.S a.c a.x a.y)
theorem Td(n:Nat)(H:ae)(a b:Int):aa T (n+1) (.fn 206) [aew a,aew b] H=some (.bool (decide (1000≤a)&&decide (a≤100000)&&decide (1≤b)&&decide (b≤68719476736)),H):=by
 refine ab Tq (by rfl) ?_
 simp only[Jt,ah,go_sem,simprocAttr]
 repeat' (with_reducible refine aA (fun _=>?_) (fun _=>?_)<;>simp only[*,go_sem,simprocAttr])
 all_goals simp_all
def PY(p th no:Int):Int:=bif G.cO p&&(decide (1000≤th)&&decide (th≤100000)&&decide (1≤no)&&decide (no≤68719476736))then max (bj ((bj ((bj (1000*p)).tdiv th))-no)) (-1)else 0
def XA(p th no:Int):Int:=bif G.cO p&&(decide (1000≤th)&&decide (th≤100000)&&decide (1≤no)&&decide (no≤68719476736))then 0 else 2
theorem RX(n:Nat)(H:ae)(p th no:Int):aa T (n+2) (.fn 181) [aew p,aew th,aew no] H=some (.bk [aew (PY p th no),aew (XA p th no)],H):=by
 refine ab SC (by rfl) ?_
 have h83:=fun H=>G.NQ n H p
 have h84:=fun H=>Td n H th no
 unfold PY XA
 cases k1:G.cO p with
 |false=>simp only[Dr,ah,go_sem,simprocAttr,h83,k1]
 |true=>
  cases k2:(decide (1000≤th)&&decide (th≤100000)&&decide (1≤no)&&decide (no≤68719476736))with
  |false=>simp only[Dr,ah,go_sem,simprocAttr,h83,h84,k1,k2]
  |true=>
   have h0:decide (th=0)=false:=aaZ (by simp only[aa1,aaX]at k2;omega)
   simp only[Dr,ah,go_sem,simprocAttr,h83,h84,k1,k2,h0]
def vP(s:Sn)(p q:Int):Bool:=decide (q≤PY p s.th s.no)
theorem Rr(n:Nat)(H:ae)(s:Sn)(b:Nat)(p q:Int)(hb:H.bl[b]?=some (.box (lZ s))):aa T (n+3) (.fn 180) [aew p,aew q,.ptr b 0 0 0] H=some (.bool (vP s p q),H):=by
 refine mF Uc rfl rfl (fun R k bl ro hbl=>?_)
 obtain rfl:bl=H.bl:=by
  rcases hbl with⟨_,h2⟩|h
  ·simp[SV.refs.aJ,SV.refs]at h2
  ·exact h
 have h70:=fun H=>RX n H p s.th s.no
 simp only[Kd,go_sem,simprocAttr,hb,h70]
 rfl
def gg(L:List Em)(a:Em)(n:Int):Bool:=!L.any fun b=>decide (b.n=n)&&qW b a
theorem nN{A:Type}{L:List A}{p:A→Bool}{i:Nat}{x:A}(h:L[i]?=some x)(hp:p x=true):L.any p=true:=ab5.2 ⟨x,aa3 h,hp⟩
theorem any_none{A:Type}{L:List A}{p:A→Bool}{i:Nat}(hi:L.length≤i)(h:∀(j:Nat) x,j<i→L[j]?=some x→p x=false):L.any p=false:=by
 rw[ab3]
 intro x hx
 obtain⟨j,hj⟩:=abw hx
 rw[h j x (by have:=(aaS.1 hj).1;omega) hj]
 simp
theorem Sv(n:Nat)(H:ae)(s:Sn)(L:List Em)(f:Bool)(b i:Nat)(a:Em)(k:Int)(hL:L.length≤maxLen)(ha:L[i]?=some a)(hb:b<H.bl.length) :
 aa T (n+2) (.fn 139) [.agg (qZ s L f b),aew i,aew k] H=some (.bool (gg L a k),H):=by
 refine dW Vx rfl rfl (fun R kk bl ro r hbl hk=>?_)
 obtain rfl:bl=H.bl:=by
  rcases hbl with⟨_,h2⟩|h
  ·simp[SV.refs.aJ,SV.refs]at h2
  ·exact h
 have hi:i<L.length:=(aaS.1 ha).1
 generalize H.bl=bl at *
 clear hbl
 simp only[MA,go_sem,simprocAttr,aF,aB,aE,aD,au,al,ao,aq,bg,aN,bb,aQ,aM,aP,aI,aO,aH,aG,an,ai,bA,bz,aaU,aaT,aa5]
 refine aY (fun q=>([(1,aew i),(2,aew k),(3,.ptr bl.length 0 0 0),(10,.ay 4 (bK L) f),(11,aew L.length),(12,aew q)],⟨bl++[.box (qZ s L f b)],[],min ro bl.length⟩))
  (fun q=>∀(j:Nat) x,j<q→L[j]?=some x→(decide (x.n=k)&&qW x a)=false) L.length (by simp only[go_sem,simprocAttr,aF,aB,aE,aD,au,al,ao,aq,bg,aN,bb,aQ,aM,aP,aI,aO,aH,aG,an,ai,bA,bz,aaU,aaT,aa5]) (fun j x h=>by omega) ?_
 intro q hq hP
 rcases aa4 q L.length with hlt|hge
 ·obtain⟨x,hx⟩:=bF hlt
  have hw:=br hlt hL
  have h14:=fun H=>G6 n H x a
  have go:(decide (x.n=k)&&qW x a)=false→∀(j:Nat) y,j<q+1→L[j]?=some y→(decide (y.n=k)&&qW y a)=false:=fun h j y hj hy=>by
   rcases aa4 j q with h3|h3
   ·exact hP j y h3 hy
   ·obtain rfl:j=q:=by omega
    rw[hx]at hy;cases hy;exact h
  simp only[go_sem,simprocAttr,aF,aB,aE,aD,au,al,ao,aq,bg,aN,bb,aQ,aM,aP,aI,aO,aH,aG,an,ai,bA,bz,aaU,aaT,aa5,hlt,hx]
  cases k1:decide (x.n=k)with
  |false=>
   simp only[go_sem,simprocAttr,aF,aB,aE,aD,au,al,ao,aq,bg,aN,bb,aQ,aM,aP,aI,aO,aH,aG,an,ai,bA,bz,aaU,aaT,aa5,hlt,hw]
   exact⟨trivial,by first|trivial|rfl,go (by rw[k1];rfl)⟩
  |true=>
   cases k2:qW x a with
   |false=>
    simp only[go_sem,simprocAttr,aF,aB,aE,aD,au,al,ao,aq,bg,aN,bb,aQ,aM,aP,aI,aO,aH,aG,an,ai,bA,bz,aaU,aaT,aa5,hlt,hi,ha,h14,k2,hw]
    exact⟨trivial,by first|trivial|rfl,go (by rw[k1,k2];rfl)⟩
   |true=>
    have hf:gg L a k=false:=by rw[gg,nN hx (by rw[k1,k2];rfl)];rfl
    rw[hf]at hk
    simp only[go_sem,simprocAttr,aF,aB,aE,aD,au,al,ao,aq,bg,aN,bb,aQ,aM,aP,aI,aO,aH,aG,an,ai,bA,bz,aaU,aaT,aa5,hlt,hi,ha,h14,k2,hk]
 ·have hlt:¬q<L.length:=by omega
  have hf:gg L a k=true:=by rw[gg,any_none hge hP];rfl
  rw[hf]at hk
  simp only[go_sem,simprocAttr,aF,aB,aE,aD,au,al,ao,aq,bg,aN,bb,aQ,aM,aP,aI,aO,aH,aG,an,ai,bA,bz,aaU,aaT,aa5,hlt,hk]
theorem KL(n:Nat)(H:ae)(s:Sn)(L:List Em)(f:Bool)(b:Nat)(a:Em)(k:Int)(hb:b<H.bl.length) :
 aa T (n+13) (.fn 140) [.agg (qZ s L f b),.agg (ra a),aew k] H=some (aew (sig s a k),H):=by
 refine dW UU rfl rfl (fun R kk bl ro r hbl hk=>?_)
 obtain rfl:bl=H.bl:=by
  rcases hbl with⟨_,h2⟩|h
  ·simp[SV.refs.aJ,SV.refs]at h2
  ·exact h
 generalize H.bl=bl at *
 clear hbl
 have h71:=fun H=>U.QW n H s.N s.P s.W s.g1 s.g2 s.g3 s.ex s.no s.th 7 s.S s.f1 6 s.F s.f2 a.n k a.c a.x s.hN s.hP s.hW (.inl rfl) (.inl rfl) s.hS s.hF
 simp only[La,go_sem,simprocAttr,aF,aB,aE,aD,au,al,ao,aq,bg,aN,bb,aQ,aM,aP,aI,aO,aH,aG,an,ai,bA,bz,aaU,aaT,aa5,h71]
 exact hk _
theorem So(n:Nat)(H:ae)(s:Sn)(L:List Em)(f:Bool)(b i:Nat)(a:Em)(k:Int)(ha:L[i]?=some a)(hb:b<H.bl.length) :
 aa T (n+13) (.fn 185) [.agg (qZ s L f b),aew i,aew k] H=some (aew (ext s a k),H):=by
 refine dW V7 rfl rfl (fun R kk bl ro r hbl hk=>?_)
 obtain rfl:bl=H.bl:=by
  rcases hbl with⟨_,h2⟩|h
  ·simp[SV.refs.aJ,SV.refs]at h2
  ·exact h
 have hi:i<L.length:=(aaS.1 ha).1
 generalize H.bl=bl at *
 clear hbl
 have h72:=fun H=>U.SW n H s.N s.P s.W s.g1 s.g2 s.g3 s.ex s.no s.th s.S s.f1 s.F s.f2 k a.c a.x a.y s.hN s.hP s.hW s.hS s.hF
 simp only[MQ,go_sem,simprocAttr,aF,aB,aE,aD,au,al,ao,aq,bg,aN,bb,aQ,aM,aP,aI,aO,aH,aG,an,ai,bA,bz,aaU,aaT,aa5,hi,ha,h72]
 exact hk _
theorem TI(n:Nat)(bl:List aK)(es:List (Nat×Nat))(ro:Nat)(s:Sn)(L:List Em)(f:Bool)(b i:Nat)(k:Int):aa T (n+1) (.qX 186) [.agg (qZ s L f b),aew i,aew k] ⟨bl,es,ro⟩=
 some (.fn 211 [.ptr bl.length 0 0 0,.ptr (bl.length+1) 0 0 0,.ptr (bl.length+2) 0 0 0],⟨bl++[.box (qZ s L f b),.box [aew i],.box [aew k]],es,ro⟩):=by
 refine eP TV ?_
 simp only[KP,go_sem,simprocAttr,aF,aB,aE,aD,au,al,ao,aq,bg,aN,bb,aQ,aM,aP,aI,aO,aH,aG,an,ai,bA,bz,aaU,aaT,aa5]
def jW(a:Em)(i:Nat)(k:Int)(q:Nat)(x:Em):Bool:=!decide ((q:Int)=(i:Int))&&decide (x.c=a.c)&&!decide (x.n=k)&&qW a x
def gn{A:Type}(u:A→Nat→Em→A)(a:Em)(i:Nat)(k:Int)(L:List Em)(v:A):Nat→A
 |0=>v
 |q+1=>match L[q]? with
  |some x=>bif jW a i k q x then u (gn u a i k L v q) q x else gn u a i k L v q
  |none=>gn u a i k L v q
theorem Vp(n:Nat)(es:List (Nat×Nat))(q:eU)(bl:List aK)(ro:Nat)(X0:aK){A:Type}(X1 X2:A→aK)(u:A→Nat→Em→A)(s:Sn)(L:List Em)(f:Bool)(b i:Nat)(a:Em)(k:Int)(hL:L.length≤maxLen)(ha:L[i]?=some a)(hb:b<bl.length)(hro:ro≤bl.length)
 (P:Nat→A→Prop) (hPs:∀v j,P j v→P (j+1) v) (hPu:∀v j x,P j v→P (j+1) (u v j x))
 (hy:∀(v:A) (j:Nat) (x:Em) (X:aK),P j v→j<L.length→L[j]?=some x→aa T (n+1) (.fA (bl.length+6)) [aew j,.agg (ra x)] ⟨bl++[X0,X1 v,X2 v,.box (qZ s L f b),.box [aew i],.box [aew k],.loop q .ready .normal,X],[],ro⟩=
  some (.bool true,⟨bl++[X0,X1 (u v j x),X2 (u v j x),.box (qZ s L f b),.box [aew i],.box [aew k],.loop q .ready .normal,X],[],ro⟩)) (v:A) (hP0:P 0 v) :
 aa T (n+2) (.fn 211) [.fA (bl.length+6),.ptr (bl.length+3) 0 0 0,.ptr (bl.length+4) 0 0 0,.ptr (bl.length+5) 0 0 0] ⟨bl++[X0,X1 v,X2 v,.box (qZ s L f b),.box [aew i],.box [aew k],.loop q .ready .normal],es,ro⟩=
  some (.bk [],⟨bl++[X0,X1 (gn u a i k L v L.length),X2 (gn u a i k L v L.length),.box (qZ s L f b),.box [aew i],.box [aew k],.loop q .ready .normal],es,ro⟩):=by
 refine bm VN (mB (by simp[SV.refs.aJ,SV.refs])) ?_
 have hm:∀k,min ro (bl.length+k)=ro:=fun k=>ab2 (by omega)
 have hm2:∀k,decide (ro≤bl.length+k)=true:=fun k=>aaV (by omega)
 have hi:i<L.length:=(aaS.1 ha).1
 simp only[Mp,go_sem,simprocAttr,aF,aB,aE,aD,au,al,ao,aq,bg,aN,bb,aQ,aM,aP,aI,aO,aH,aG,an,ai,bA,bz,aaU,aaT,aa5,hm,hm2]
 refine aY (fun q'=>([(0,.fA (bl.length+6)),(1,.ptr (bl.length+3) 0 0 0),(2,.ptr (bl.length+4) 0 0 0),(3,.ptr (bl.length+5) 0 0 0),(8,.ay 4 (bK L) f),(9,aew L.length),(10,aew q')],
  ⟨bl++[X0,X1 (gn u a i k L v q'),X2 (gn u a i k L v q'),.box (qZ s L f b),.box [aew i],.box [aew k],.loop q .ready .normal],[],ro⟩)) (fun q'=>P q' (gn u a i k L v q')) L.length (by simp only[go_sem,simprocAttr,aF,aB,aE,aD,au,al,ao,aq,bg,aN,bb,aQ,aM,aP,aI,aO,aH,aG,an,ai,bA,bz,aaU,aaT,aa5,hm,hm2,Nat.reduceAdd];rfl) hP0 ?_
 intro q' hq hPq
 rcases aa4 q' L.length with hlt|hge
 ·obtain⟨x,hx⟩:=bF hlt
  have hw:=br hlt hL
  have h14:=fun H=>G6 n H a x
  have hyy:=fun X=>hy _ q' x X hPq hlt hx
  have hPn:=hPs _ _ hPq
  have no:jW a i k q' x=false→gn u a i k L v (q'+1)=gn u a i k L v q':=fun h=>by simp only[gn,hx,h,abc]
  cases k1:decide ((q':Int)=(i:Int))with
  |true=>
   have e1:=no (by simp only[jW,k1];rfl)
   simp only[go_sem,simprocAttr,aF,aB,aE,aD,au,al,ao,aq,bg,aN,bb,aQ,aM,aP,aI,aO,aH,aG,an,ai,bA,bz,aaU,aaT,aa5,hm,hm2,hlt,hi,ha,hx,k1,hw,e1]
   exact⟨trivial,by first|trivial|rfl,hPn⟩
  |false=>
   cases k2:decide (x.c=a.c)with
   |false=>
    have e1:=no (by simp only[jW,k1,k2];rfl)
    simp only[go_sem,simprocAttr,aF,aB,aE,aD,au,al,ao,aq,bg,aN,bb,aQ,aM,aP,aI,aO,aH,aG,an,ai,bA,bz,aaU,aaT,aa5,hm,hm2,hlt,hi,ha,hx,k1,k2,hw,e1]
    exact⟨trivial,by first|trivial|rfl,hPn⟩
   |true=>
    cases k3:decide (x.n=k)with
    |true=>
     have e1:=no (by simp only[jW,k1,k2,k3];rfl)
     simp only[go_sem,simprocAttr,aF,aB,aE,aD,au,al,ao,aq,bg,aN,bb,aQ,aM,aP,aI,aO,aH,aG,an,ai,bA,bz,aaU,aaT,aa5,hm,hm2,hlt,hi,ha,hx,k1,k2,k3,hw,e1]
     exact⟨trivial,by first|trivial|rfl,hPn⟩
    |false=>
     cases k4:qW a x with
     |false=>
      have e1:=no (by simp only[jW,k1,k2,k3,k4];rfl)
      simp only[go_sem,simprocAttr,aF,aB,aE,aD,au,al,ao,aq,bg,aN,bb,aQ,aM,aP,aI,aO,aH,aG,an,ai,bA,bz,aaU,aaT,aa5,hm,hm2,hlt,hi,ha,hx,k1,k2,k3,h14,k4,hw,e1]
      exact⟨trivial,by first|trivial|rfl,hPn⟩
     |true=>
      have e1:gn u a i k L v (q'+1)=u (gn u a i k L v q') q' x:=by
       have:jW a i k q' x=true:=by simp only[jW,k1,k2,k3,k4];rfl
       simp only[gn,hx,this,abb]
      have hPn:=hPu _ _ x hPq
      simp only[go_sem,simprocAttr,aF,aB,aE,aD,au,al,ao,aq,bg,aN,bb,aQ,aM,aP,aI,aO,aH,aG,an,ai,bA,bz,aaU,aaT,aa5,hm,hm2,hlt,hi,ha,hx,k1,k2,k3,h14,k4,hyy,hw,e1]
      exact⟨trivial,by first|trivial|rfl,hPn⟩
 ·obtain rfl:q'=L.length:=by omega
  simp only[go_sem,simprocAttr,aF,aB,aE,aD,au,al,ao,aq,bg,aN,bb,aQ,aM,aP,aI,aO,aH,aG,an,ai,bA,bz,aaU,aaT,aa5,hm,hm2,show decide ((L.length:Int)<(L.length:Int))=false from aaZ (by omega)]
def inter(s:Sn)(L:List Em)(i:Nat)(a:Em)(k:Int):Int:=gn (fun v _ x=>bj (v+sig s x k)) a i k L (ext s a k) L.length
theorem Te(n:Nat)(H:ae)(s:Sn)(L:List Em)(f:Bool)(b i:Nat)(a:Em)(k:Int)(hL:L.length≤maxLen)(ha:L[i]?=some a)(hb:b<H.bl.length) :
 aa T (n+16) (.fn 141) [.agg (qZ s L f b),aew i,aew k] H=some (aew (inter s L i a k),H):=by
 refine dW U5 rfl rfl (fun R kk bl ro r hbl hk=>?_)
 obtain rfl:bl=H.bl:=by
  rcases hbl with⟨_,h2⟩|h
  ·simp[SV.refs.aJ,SV.refs]at h2
  ·exact h
 generalize H.bl=bl at *
 clear hbl
 have hro:min ro bl.length≤bl.length:=Nat.min_le_right _ _
 generalize min ro bl.length=ro' at *
 have hm:∀k,min ro' (bl.length+k)=ro':=fun k=>ab2 (by omega)
 have hm2:∀k,decide (ro'≤bl.length+k)=true:=fun k=>aaV (by omega)
 have hm3:decide (ro'≤bl.length)=true:=aaV hro
 have h43:=fun l es ro=>So (n+2) ⟨bl++l,es,ro⟩ s L f b i a k ha (by simp;omega)
 have h44:=fun l es ro=>TI (n+14) (bl++l) es ro s L f b i k
 simp only[K9,go_sem,simprocAttr,aF,aB,aE,aD,au,al,ao,aq,bg,aN,bb,aQ,aM,aP,aI,aO,aH,aG,an,ai,bA,bz,aaU,aaT,aa5,hm,hm2,h43,h44]
 refine G.jh _ (Vp (n+13) _ _ bl ro' _ (fun _=>.box [aew k]) (fun v=>.box [aew v]) (fun v _ x=>bj (v+sig s x k)) s L f b i a k hL ha hb hro (fun _ _=>True) (fun _ _ h=>h) (fun _ _ _ h=>h) ?_ (ext s a k) trivial) ?_
 ·intro v j x X _ _ hx
  have h42:=fun l es ro=>KL n ⟨bl++l,es,ro⟩ s L f b x k (by simp;omega)
  refine nL (by simp only[bn];exact aB bl _ 6) rfl ?_
  simp only[go_sem,simprocAttr,aF,aB,aE,aD,au,al,ao,aq,bg,aN,bb,aQ,aM,aP,aI,aO,aH,aG,an,ai,bA,bz,aaU,aaT,aa5,hm,hm2,hm3,h42]
 ·simp only[go_sem,simprocAttr,aF,aB,aE,aD,au,al,ao,aq,bg,aN,bb,aQ,aM,aP,aI,aO,aH,aG,an,ai,bA,bz,aaU,aaT,aa5,hm,hm2,hm3]
  exact hk _
def fD(s:Sn)(L:List Em)(i:Nat)(a:Em)(k:Int):Bool:=gg L a k&&vP s (sig s a k) (inter s L i a k)
theorem Xu(n:Nat)(H:ae)(s:Sn)(L:List Em)(f:Bool)(b i:Nat)(a:Em)(k:Int)(hL:L.length≤maxLen)(ha:L[i]?=some a)(hb:H.bl[b]?=some (.box (lZ s))) :
 aa T (n+17) (.fn 85) [.agg (qZ s L f b),aew i,aew k] H=some (.bool (fD s L i a k),H):=by
 have hbl':=(aaS.1 hb).1
 refine dW e85 rfl rfl (fun R kk bl ro r hbl hk=>?_)
 obtain rfl:bl=H.bl:=by
  rcases hbl with⟨_,h2⟩|h
  ·simp[SV.refs.aJ,SV.refs]at h2
  ·exact h
 generalize H.bl=bl at *
 clear hbl
 have hro:min ro bl.length≤bl.length:=Nat.min_le_right _ _
 generalize min ro bl.length=ro' at *
 have hi:i<L.length:=(aaS.1 ha).1
 have h41:=fun l es ro=>Sv (n+14) ⟨bl++l,es,ro⟩ s L f b i a k hL ha (by simp;omega)
 have h42:=fun l es ro=>KL (n+3) ⟨bl++l,es,ro⟩ s L f b a k (by simp;omega)
 have h48:=fun l es ro=>Te n ⟨bl++l,es,ro⟩ s L f b i a k hL ha (by simp;omega)
 have h69:=fun p q l es ro=>Rr (n+13) ⟨bl++l,es,ro⟩ s b p q (gf hb)
 cases k1:gg L a k with
 |false=>
  rw[fD,k1,abk]at hk
  simp only[UK,go_sem,simprocAttr,aF,aB,aE,aD,au,al,ao,aq,bg,aN,bb,aQ,aM,aP,aI,aO,aH,aG,an,ai,bA,bz,aaU,aaT,aa5,h41,k1]
  exact hk _
 |true=>
  rw[fD,k1,abo]at hk
  simp only[UK,go_sem,simprocAttr,aF,aB,aE,aD,au,al,ao,aq,bg,aN,bb,aQ,aM,aP,aI,aO,aH,aG,an,ai,bA,bz,aaU,aaT,aa5,h41,k1,hi,ha,h42,h48,h69]
  exact hk _
theorem N5(n:Nat)(bl:List aK)(es:List (Nat×Nat))(ro:Nat)(s:Sn)(L:List Em)(f:Bool)(hL:L.length≤maxLen)(hro:ro≤bl.length):aa T (n+9) (.qX 136) [.agg (lZ s),.agg (ow s),.ay 4 (bK L) f] ⟨bl,es,ro⟩=
 some (.bk [.agg (qZ s L f bl.length),aew (mu (dP s) s.N.length L)],⟨bl++[.box (lZ s),.box (ow s),.box (qZ s L f bl.length)],es,ro⟩):=by
 refine eP Q6 ?_
 have hm0:min ro bl.length=ro:=ab2 hro
 have hm:∀k,min ro (bl.length+k)=ro:=fun k=>ab2 (by omega)
 have hm2:∀k,decide (ro≤bl.length+k)=true:=fun k=>aaV (by omega)
 have h11:=fun H=>RE n H s.N s.P s.W s.g1 s.g2 s.g3 s.ex s.no s.th 7 s.S s.f1 6 s.F s.f2 L f s.hN s.hP s.hW (.inl rfl) (.inl rfl) s.hS s.hF hL
 simp only[JP,go_sem,simprocAttr,aF,aB,aE,aD,au,al,ao,aq,bg,aN,bb,aQ,aM,aP,aI,aO,aH,aG,an,ai,bA,bz,aaU,aaT,aa5,hm0,hm,hm2,h11]
 rfl
def tH(s:Sn)(L:List Em)(i k:Int):Int:=bif decide (mu (dP s) s.N.length L=0)then(bif decide (i<0)||decide ((L.length:Int)≤i)||decide (k<0)||decide ((s.N.length:Int)≤k)then 7 else 0)else mu (dP s) s.N.length L
theorem VD(n:Nat)(bl:List aK)(es:List (Nat×Nat))(ro:Nat)(s:Sn)(L:List Em)(f:Bool)(i k:Int)(hL:L.length≤maxLen)(hro:ro≤bl.length):aa T (n+10) (.qX 84) [.agg (lZ s),.agg (ow s),.ay 4 (bK L) f,aew i,aew k] ⟨bl,es,ro⟩=
 some (.bk [.agg (qZ s L f (bl.length+3)),aew (tH s L i k)],⟨bl++[.box (lZ s),.box (ow s),.box (qZ s L f (bl.length+3)),.box (lZ s),.box (ow s),.box (qZ s L f (bl.length+3)),.box (qZ s L f (bl.length+3))],es++[(bl.length+2,bl.length+4)],ro⟩):=by
 refine eP YS ?_
 have hm0:min ro bl.length=ro:=ab2 hro
 have hm:∀k,min ro (bl.length+k)=ro:=fun k=>ab2 (by omega)
 have hm2:∀k,decide (ro≤bl.length+k)=true:=fun k=>aaV (by omega)
 have h38:=fun l es=>N5 n (bl++l) es ro s L f hL (by simp;omega)
 unfold tH
 cases k0:decide (mu (dP s) s.N.length L=0)with
 |false=>
  simp only[Hl,go_sem,simprocAttr,aF,aB,aE,aD,au,al,ao,aq,bg,aN,bb,aQ,aM,aP,aI,aO,aH,aG,an,ai,bA,bz,aaU,aaT,aa5,hm0,hm,hm2,h38,k0,adJ,ac9]
 |true=>
  have k0':=abC k0
  cases k1:decide (i<0)with
  |true=>simp only[Hl,go_sem,simprocAttr,aF,aB,aE,aD,au,al,ao,aq,bg,aN,bb,aQ,aM,aP,aI,aO,aH,aG,an,ai,bA,bz,aaU,aaT,aa5,hm0,hm,hm2,h38,k0,k0',k1,adJ,ac9]
  |false=>
   cases k2:decide ((L.length:Int)≤i)with
   |true=>simp only[Hl,go_sem,simprocAttr,aF,aB,aE,aD,au,al,ao,aq,bg,aN,bb,aQ,aM,aP,aI,aO,aH,aG,an,ai,bA,bz,aaU,aaT,aa5,hm0,hm,hm2,h38,k0,k0',k1,k2,adJ,ac9]
   |false=>
    cases k3:decide (k<0)with
    |true=>simp only[Hl,go_sem,simprocAttr,aF,aB,aE,aD,au,al,ao,aq,bg,aN,bb,aQ,aM,aP,aI,aO,aH,aG,an,ai,bA,bz,aaU,aaT,aa5,hm0,hm,hm2,h38,k0,k0',k1,k2,k3,adJ,ac9]
    |false=>
     cases k4:decide ((s.N.length:Int)≤k)with
     |true=>simp only[Hl,go_sem,simprocAttr,aF,aB,aE,aD,au,al,ao,aq,bg,aN,bb,aQ,aM,aP,aI,aO,aH,aG,an,ai,bA,bz,aaU,aaT,aa5,hm0,hm,hm2,h38,k0,k0',k1,k2,k3,G.aL,k4,adJ,ac9]
     |false=>simp only[Hl,go_sem,simprocAttr,aF,aB,aE,aD,au,al,ao,aq,bg,aN,bb,aQ,aM,aP,aI,aO,aH,aG,an,ai,bA,bz,aaU,aaT,aa5,hm0,hm,hm2,h38,k0,k0',k1,k2,k3,G.aL,k4,adJ,ac9]
theorem wW{s:Sn}{L:List Em}{i k:Int}(h:tH s L i k=0):mu (dP s) s.N.length L=0∧(0≤i∧i<L.length)∧0≤k∧k<s.N.length:=by
 unfold tH at h
 cases h0:decide (mu (dP s) s.N.length L=0)with
 |false=>rw[h0,abc]at h;exact absurd h (aco h0)
 |true=>
  rw[h0,abb]at h
  cases h1:decide (i<0)||decide ((L.length:Int)≤i)||decide (k<0)||decide ((s.N.length:Int)≤k)with
  |true=>rw[h1]at h;cases h
  |false=>
   simp only[acq,aa0]at h1
   exact⟨abC h0,by omega,by omega⟩
def HH(s:Sn)(L:List Em)(i k:Int):SV:=bif decide (tH s L i k=0)then .bk [.bool (match L[i.toNat]? with|some a=>fD s L i.toNat a k|none=>false),aex]else .bk [.bool false,aew (tH s L i k)]
theorem ZT(n:Nat)(H:ae)(s:Sn)(L:List Em)(f:Bool)(i k:Int)(hL:L.length≤maxLen):aa T (n+18) (.fn 47) [.agg (lZ s),.agg (ow s),.ay 4 (bK L) f,aew i,aew k] H=some (HH s L i k,H):=by
 refine ab Yq (by rfl) ?_
 have h40:=fun x y es=>VD (n+7) [x,y] es 0 s L f i k hL (by simp)
 unfold HH
 cases h0:decide (tH s L i k=0)with
 |false=>simp only[Ug,ah,go_sem,simprocAttr,h40,h0]
 |true=>
  have h0':=abC h0
  obtain⟨_,⟨hi0,hi1⟩,hk0,hk1⟩:=wW h0'
  obtain⟨q,rfl⟩:∃q:Nat,i=q:=⟨i.toNat,by omega⟩
  obtain⟨a,ha⟩:=bF (l:=L) (i:=q) (by omega)
  have h39:=fun x0 x1 x2 x3 x4 x6 x7 x8 x9 es ro=>Xu n ⟨[x0,x1,x2,x3,x4,.box (lZ s),x6,x7,x8,x9],es,ro⟩ s L f 5 q a k hL ha rfl
  simp only[Ug,ah,go_sem,simprocAttr,h40,h0,h0',h39,ha]
theorem NV{s:Sn}{L:List Em}(h:mu (dP s) s.N.length L=0):dP s=true∧L.length≤48∧zM s.N.length L=0:=by
 unfold mu at h
 cases h1:dP s with
 |false=>rw[h1]at h;cases h
 |true=>
  rw[h1,abb]at h
  cases h2:decide (48<L.length)with
  |true=>rw[h2]at h;cases h
  |false=>rw[h2,abc]at h;exact⟨rfl,by have:=aco h2;omega,h⟩
def tJ(L:List Em)(y:Em)(o:Option Nat)(x:Em):Bool:=decide (x.c=y.c)&&!decide (x.x<y.x)&&!decide (y.y<x.x)&&!(match o with|some b=>(match L[b]? with|some z=>decide (z.x≤x.x)|none=>false)|none=>false)
def gu(s:Sn)(L:List Em)(y:Em):Nat→Option Nat
 |0=>none
 |q+1=>match L[q]? with
  |some x=>bif tJ L y (gu s L y q) x&&fD s L q x y.n then some q else gu s L y q
  |none=>gu s L y q
def xV:Option Nat→Int
 |some b=>b
 |none=>0
theorem tj(s:Sn)(L:List Em)(y:Em):∀q b,gu s L y q=some b→b<q∧b<L.length
 |0,b,h=>by cases h
 |q+1,b,h=>by
  have ih:=tj s L y q
  simp only[gu]at h
  cases hx:L[q]? with
  |none=>rw[hx]at h;have:=ih b h;omega
  |some x=>
   rw[hx]at h
   cases hc:tJ L y (gu s L y q) x&&fD s L q x y.n with
   |true=>
    simp only[hc,abb,abd]at h
    have:=(aaS.1 hx).1
    omega
   |false=>simp only[hc,abc]at h;have:=ih b h;omega
def FQ(y:Em):Bool:=decide (y.c<0)||decide (16≤y.c)||decide (y.x<0)||decide (y.y<y.x)||decide (1099511627776<y.y)
def Fa(s:Sn)(L:List Em)(y:Em):SV:=bif decide (mu (dP s) s.N.length L=0)then(bif decide (y.n<0)||decide ((s.N.length:Int)≤y.n)then .bk [aex,.bool false,aew 7]else
 bif FQ y then .bk [aex,.bool false,aew 2]else .bk [aew (xV (gu s L y L.length)),.bool (gu s L y L.length).isSome,aex])else .bk [aex,.bool false,aew (mu (dP s) s.N.length L)]
@[go_sem] theorem zy (e H r s t):results1 e H [r,s,t]=(dN e H r).bind fun a=>(dN e H s).bind fun b=>(dN e H t).map fun c=>.bk [a,b,c]:=by
  unfold results1
  cases h:dN e H r<;>cases h':dN e H s<;>cases h'':dN e H t<;>simp[bQ,h,h',h'']
theorem Z1(n:Nat)(H:ae)(s:Sn)(L:List Em)(f:Bool)(y:Em)(hL:L.length≤maxLen):aa T (n+18) (.fn 82) [.agg (lZ s),.agg (ow s),.ay 4 (bK L) f,.agg (ra y)] H=some (Fa s L y,H):=by
 refine ab Tz (by rfl) ?_
 have h38:=fun x y z es=>N5 (n+8) [x,y,z] es 0 s L f hL (by simp)
 unfold Fa
 cases h0:decide (mu (dP s) s.N.length L=0)with
 |false=>simp only[C3,ah,go_sem,simprocAttr,h38,h0]
 |true=>
  have h0':=abC h0
  cases k1:decide (y.n<0)with
  |true=>simp only[C3,ah,go_sem,simprocAttr,h38,h0,k1]
  |false=>
  cases k2:decide ((s.N.length:Int)≤y.n)with
  |true=>simp only[C3,ah,go_sem,simprocAttr,h38,h0,k1,G.aL,k2]
  |false=>
  unfold FQ
  cases k3:decide (y.c<0)with
  |true=>simp only[C3,ah,go_sem,simprocAttr,h38,h0,k1,G.aL,k2,k3]
  |false=>
  cases k4:decide (16≤y.c)with
  |true=>simp only[C3,ah,go_sem,simprocAttr,h38,h0,k1,G.aL,k2,k3,k4]
  |false=>
  cases k5:decide (y.x<0)with
  |true=>simp only[C3,ah,go_sem,simprocAttr,h38,h0,k1,G.aL,k2,k3,k4,k5]
  |false=>
  cases k6:decide (y.y<y.x)with
  |true=>simp only[C3,ah,go_sem,simprocAttr,h38,h0,k1,G.aL,k2,k3,k4,k5,k6]
  |false=>
  cases k7:decide (1099511627776<y.y)with
  |true=>simp only[C3,ah,go_sem,simprocAttr,h38,h0,k1,G.aL,k2,k3,k4,k5,k6,k7]
  |false=>
   simp only[C3,ah,go_sem,simprocAttr,h38,h0,h0',k1,G.aL,k2,k3,k4,k5,k6,k7]
   refine aY (fun q=>([(2,.ay 4 (bK L) f),(7,.ptr 2 0 0 0),(11,.ptr 6 0 0 0),(13,aew (xV (gu s L y q))),(14,.bool (gu s L y q).isSome),(66,.ay 4 (bK L) f),(67,aew L.length),(68,aew q)],
    ⟨[.box (lZ s),.box (ow s),.box (ra y),.box (lZ s),.box (ow s),.box (qZ s L f 3),.box (qZ s L f 3)],[],0⟩)) (fun _=>True) L.length (by simp only[go_sem,simprocAttr];rfl) trivial ?_
   intro q hq _
   rcases aa4 q L.length with hlt|hge
   ·obtain⟨x,hx⟩:=bF hlt
    have hw:=br hlt hL
    have h39:=fun x0 x1 x2 x4 x5 x6 x7 es ro=>Xu n ⟨[x0,x1,x2,.box (lZ s),x4,x5,x6,x7],es,ro⟩ s L f 3 q x y.n hL hx rfl
    have no:(tJ L y (gu s L y q) x&&fD s L q x y.n)=false→gu s L y (q+1)=gu s L y q:=fun h=>by simp only[gu,hx,h,abc]
    cases j1:decide (x.c=y.c)with
    |false=>
     have e1:=no (by simp only[tJ,j1];rfl)
     simp only[go_sem,simprocAttr,hlt,hx,j1,hw,e1]
     exact⟨trivial,by first|trivial|rfl,trivial⟩
    |true=>
    cases j2:decide (x.x<y.x)with
    |true=>
     have e1:=no (by simp only[tJ,j1,j2];rfl)
     simp only[go_sem,simprocAttr,hlt,hx,j1,j2,hw,e1]
     exact⟨trivial,by first|trivial|rfl,trivial⟩
    |false=>
    cases j3:decide (y.y<x.x)with
    |true=>
     have e1:=no (by simp only[tJ,j1,j2,j3];rfl)
     simp only[go_sem,simprocAttr,hlt,hx,j1,j2,j3,hw,e1]
     exact⟨trivial,by first|trivial|rfl,trivial⟩
    |false=>
    have hcase:tJ L y (gu s L y q) x=!(match gu s L y q with|some b=>(match L[b]? with|some z=>decide (z.x≤x.x)|none=>false)|none=>false):=by simp only[tJ,j1,j2,j3];rfl
    cases ho:gu s L y q with
    |none=>
     rw[ho]at hcase no
     cases hr:fD s L q x y.n with
     |false=>
      have e1:=no (by rw[hr,abt])
      rw[hr]at h39
      simp only[go_sem,simprocAttr,hlt,hx,j1,j2,j3,ho,xV,adr,h39,hw,e1]
      exact⟨trivial,by first|trivial|rfl,trivial⟩
     |true=>
      have e1:gu s L y (q+1)=some q:=by simp only[gu,hx,ho,hcase,hr,acb,abn,abb]
      rw[hr]at h39
      simp only[go_sem,simprocAttr,hlt,hx,j1,j2,j3,ho,xV,adr,h39,hw,e1,ac4]
      exact⟨trivial,by first|trivial|rfl,trivial⟩
    |some b=>
     have hbl:=(tj s L y q b ho).2
     obtain⟨z,hz⟩:=bF hbl
     rw[ho]at hcase no
     simp only[hz]at hcase
     cases j4:decide (z.x≤x.x)with
     |true=>
      have e1:=no (by rw[hcase,j4];rfl)
      simp only[go_sem,simprocAttr,hlt,hx,j1,j2,j3,ho,xV,ac4,hbl,hz,j4,hw,e1]
      exact⟨trivial,by first|trivial|rfl,trivial⟩
     |false=>
      cases hr:fD s L q x y.n with
      |false=>
       have e1:=no (by rw[hr,abt])
       rw[hr]at h39
       simp only[go_sem,simprocAttr,hlt,hx,j1,j2,j3,ho,xV,ac4,hbl,hz,j4,h39,hw,e1]
       exact⟨trivial,by first|trivial|rfl,trivial⟩
      |true=>
       have e1:gu s L y (q+1)=some q:=by simp only[gu,hx,ho,hcase,hr,j4,acb,abn,abb]
       rw[hr]at h39
       simp only[go_sem,simprocAttr,hlt,hx,j1,j2,j3,ho,xV,ac4,hbl,hz,j4,h39,hw,e1]
       exact⟨trivial,by first|trivial|rfl,trivial⟩
   ·obtain rfl:q=L.length:=by omega
    simp only[go_sem,simprocAttr,show decide ((L.length:Int)<(L.length:Int))=false from aaZ (by omega)]
theorem KM{B f:Int}(hB:G.cO B=true)(h0:0≤f)(h1:f≤1000):U.CR B f=B*f/1000:=by
 rw[G.iw]at hB
 have hm:B*f≤B*1000:=acD h1 hB.1
 have hn:0≤B*f:=aeh hB.1 h0
 have e1:bj (B*f)=B*f:=ax (by omega) (by omega)
 have e2:(B*f).tdiv 1000=B*f/1000:=acJ hn
 unfold U.CR
 rw[e1,e2]
 exact ax (by omega) (by omega)
theorem Gn{B f:Int}(hB:G.cO B=true)(h0:0≤f)(h1:f≤1000):0≤U.CR B f∧U.CR B f≤68719476736:=by
 rw[KM hB h0 h1]
 rw[G.iw]at hB
 have hm:B*f≤B*1000:=acD h1 hB.1
 have hn:0≤B*f:=aeh hB.1 h0
 omega
theorem pr{s:Sn}(h:dP s=true)(a:Em)(k:Int):0≤sig s a k∧sig s a k≤68719476736:=by
 simp only[dP,aa1]at h
 unfold sig U.V3
 cases hc:dP s&&G.nZ s.N a.n k&&(U.bP a.c&&U.vT a.x)with
 |false=>simp only[abc];omega
 |true=>
  simp only[aa1]at hc
  simp only[abb]
  have hp:=(G.wK (W:=s.W) (ex:=s.ex) h.1 hc.1.2).2
  have hl:=U.BP (U.tG a.n k a.c a.x) (U.Be h.2)
  exact Gn hp hl.1 hl.2
theorem C8{N:List (Int×Int)}{P:List Int}{W:List G.Wl}{ex no th:Int}(hok:G.eJ N P W ex no th=true)(k:Nat)(s:U.Src):0≤U.zm N P W ex no th k s∧U.zm N P W ex no th k s≤68719476736:=by
 unfold U.zm
 cases ha:G.j0 s.a s.b s.p (G.nd N k).1 (G.nd N k).2 with
 |false=>simp only[G.mv,hok,abt,abc];omega
 |true=>
  have:=G.iw.1 (G.BI hok ha).2
  simp only[G.mv,hok,abn,abb];exact this
theorem pM{f:U.Src→Int}(h:∀s,0≤f s∧f s≤68719476736)(c x y:Int):∀(S:List U.Src) (v:Int),0≤v→v+S.length*68719476736≤4611686018427387904→
 0≤S.foldl (U.kg (fun v s=>bj (v+f s)) c x y) v∧S.foldl (U.kg (fun v s=>bj (v+f s)) c x y) v≤v+S.length*68719476736
 |[],v,h0,_=>by simp only[aev,abh];omega
 |s::S,v,h0,hb=>by
  have hs:=h s
  simp only[abg]at hb⊢
  simp only[ab1,U.kg]
  split
  ·have e:bj (v+f s)=v+f s:=ax (by omega) (by omega)
   rw[e]
   have:=pM h c x y S (v+f s) (by omega) (by omega)
   omega
  ·have:=pM h c x y S v h0 (by omega)
   omega
theorem s7{s:Sn}(h:dP s=true)(a:Em)(k:Int):0≤ext s a k∧ext s a k≤1099511627776:=by
 simp only[dP,aa1]at h
 unfold ext U.V3
 cases hc:dP s&&U.dQ s.N.length k&&(U.bP a.c&&U.mH a.x a.y)with
 |false=>simp only[abc];omega
 |true=>
  simp only[abb]
  have hS:s.S.length≤16:=by
   have:=h.2
   simp only[U.ji,aa1,aaX]at this
   omega
  have:=pM (f:=U.zm s.N s.P s.W s.ex s.no s.th k.toNat) (fun t=>C8 h.1 _ t) a.c a.x a.y s.S 0 (by omega) (by omega)
  unfold U.yS
  omega
def jF(g:Em→Int)(a:Em)(i:Nat)(k:Int)(L:List Em):Nat→Int
 |0=>0
 |q+1=>match L[q]? with
  |some x=>jF g a i k L q+bif jW a i k q x then g x else 0
  |none=>jF g a i k L q
theorem pC{g:Em→Int}(h:∀x,0≤g x∧g x≤68719476736)(a:Em)(i:Nat)(k:Int)(L:List Em):∀q,0≤jF g a i k L q∧jF g a i k L q≤q*68719476736
 |0=>by simp[jF]
 |q+1=>by
  have ih:=pC h a i k L q
  simp only[jF]
  cases L[q]? with
  |none=>simp only;omega
  |some x=>
   have:=h x
   simp only
   cases jW a i k q x<;>simp only[abb,abc]<;>omega
theorem uj{g:Em→Int}(h:∀x,0≤g x∧g x≤68719476736)(a:Em)(i:Nat)(k:Int)(L:List Em)(e:Int)(h0:0≤e)(h1:e≤1099511627776):∀q,q≤1000→gn (fun v _ x=>bj (v+g x)) a i k L e q=e+jF g a i k L q
 |0,_=>by simp[gn,jF]
 |q+1,hq=>by
  have ih:=uj h a i k L e h0 h1 q (by omega)
  have hr:=pC h a i k L q
  simp only[gn,jF]
  cases L[q]? with
  |none=>exact ih
  |some x=>
   have:=h x
   simp only
   cases jW a i k q x with
   |false=>simp only[abc];rw[ih];omega
   |true=>
    simp only[abb]
    rw[ih,ax (by omega) (by omega)]
    omega
theorem iA{s:Sn}(h:dP s=true){L:List Em}(hL:L.length≤1000)(i:Nat)(a:Em)(k:Int):inter s L i a k=ext s a k+jF (fun x=>sig s x k) a i k L L.length:=
 uj (fun x=>pr h x k) a i k L _ (s7 h a k).1 (s7 h a k).2 _ hL
theorem zT{s:Sn}(h:dP s=true){p q:Int}(hp:0≤p∧p≤68719476736)(hq:0≤q∧q≤4398046511104):decide (bj (s.th*bj (s.no+q))≤bj (1000*p))=vP s p q:=by
 have hr:1000≤s.th∧s.th≤100000∧1≤s.no∧s.no≤68719476736:=by
  simp only[dP,G.eJ,G.okB,G.mi,aa1,aaX]at h
  omega
 have hc:(G.cO p&&(decide (1000≤s.th)&&decide (s.th≤100000)&&decide (1≤s.no)&&decide (s.no≤68719476736)))=true:=by
  rw[aa1,G.iw]
  simp only[aa1,aaX]
  omega
 unfold vP PY
 rw[hc,abb]
 have e1:bj (1000*p)=1000*p:=ax (by omega) (by omega)
 have e2:(1000*p).tdiv s.th=1000*p/s.th:=acJ (by omega)
 have e3:1000*p/s.th≤p:=by
  refine Int.ediv_le_of_le_mul (by omega) ?_
  have:p*1000≤p*s.th:=acD hr.1 hp.1
  omega
 have e4:0≤1000*p/s.th:=Int.ediv_nonneg (by omega) (by omega)
 have e5:bj (s.no+q)=s.no+q:=ax (by omega) (by omega)
 have hm:s.th*(s.no+q)≤100000*(s.no+q):=Int.mul_le_mul_of_nonneg_right hr.2.1 (by omega)
 have hn:0≤s.th*(s.no+q):=aeh (by omega) (by omega)
 have e6:bj (s.th*(s.no+q))=s.th*(s.no+q):=ax (by omega) (by omega)
 have Tz:bj (1000*p/s.th)=1000*p/s.th:=ax (by omega) (by omega)
 have XW:bj (1000*p/s.th-s.no)=1000*p/s.th-s.no:=ax (by omega) (by omega)
 rw[e5,e6,e1,e2,Tz,XW,abG,aaX,aaX]
 have Ws:s.no+q≤1000*p/s.th↔(s.no+q)*s.th≤1000*p:=Int.le_ediv_iff_mul_le (by omega)
 rw[aeb s.th,←Ws]
 omega
theorem zC{s:Sn}(h:dP s=true){L:List Em}(hL:L.length≤48)(i:Nat)(a:Em)(k:Int):0≤inter s L i a k∧inter s L i a k≤4398046511104:=by
 rw[iA h (by omega)]
 have h1:=s7 h a k
 have h2:=pC (g:=fun x=>sig s x k) (fun x=>pr h x k) a i k L L.length
 omega
theorem Rb(n:Nat)(H:ae)(p th no q:Int):aa T (n+1) (.fn 104) [aew p,aew th,aew no,aew q] H=some (.bool (decide (bj (th*bj (no+q))≤bj (1000*p))),H):=by
 refine ab WA (by rfl) ?_
 simp only[JW,ah,go_sem,simprocAttr]
theorem Sy(n:Nat)(H:ae)(L:List Em)(f:Bool)(i j:Nat)(a x:Em)(k:Int)(ha:L[i]?=some a)(hx:L[j]?=some x):aa T (n+2) (.fn 150) [.ay 4 (bK L) f,aew i,aew j,aew k] H=some (.bool (jW a i k j x),H):=by
 refine ab Vn (by rfl) ?_
 have hi:i<L.length:=(aaS.1 ha).1
 have hj:j<L.length:=(aaS.1 hx).1
 have h45:=fun H=>GN n H x a
 rw[tO x a]at h45
 unfold jW
 cases k1:decide ((j:Int)=(i:Int))with
 |true=>simp only[CE,ah,go_sem,simprocAttr,hi,hj,ha,hx,h45,k1]
 |false=>
 cases k2:decide (x.n=k)with
 |true=>simp only[CE,ah,go_sem,simprocAttr,hi,hj,ha,hx,h45,k1,k2,abt,abk]
 |false=>
 cases k3:decide (x.c=a.c)with
 |false=>simp only[CE,ah,go_sem,simprocAttr,hi,hj,ha,hx,h45,k1,k2,k3,abt,abk]
 |true=>simp only[CE,ah,go_sem,simprocAttr,hi,hj,ha,hx,h45,k1,k2,k3]
theorem Tn(n:Nat)(H:ae)(L:List Em)(f:Bool)(i:Nat)(a:Em)(k:Int)(hL:L.length≤maxLen)(ha:L[i]?=some a):aa T (n+2) (.fn 103) [.ay 4 (bK L) f,aew i,aew k] H=some (.bool (!gg L a k),H):=by
 refine ab Vt (by rfl) ?_
 have hi:i<L.length:=(aaS.1 ha).1
 simp only[LL,ah,go_sem,simprocAttr]
 refine aY (fun q=>([(0,.ay 4 (bK L) f),(1,aew i),(2,aew k),(7,aew q)],⟨[],[],0⟩))
  (fun q=>∀(j:Nat) x,j<q→L[j]?=some x→(decide (x.n=k)&&qW x a)=false) L.length (by simp only[go_sem,simprocAttr]<;>rfl) (fun j x h=>by omega) ?_
 intro q hq hP
 rcases aa4 q L.length with hlt|hge
 ·obtain⟨x,hx⟩:=bF hlt
  have hw:=br hlt hL
  have h14:=fun H=>GN n H x a
  have go:(decide (x.n=k)&&qW x a)=false→∀(j:Nat) y,j<q+1→L[j]?=some y→(decide (y.n=k)&&qW y a)=false:=fun h j y hj hy=>by
   rcases aa4 j q with h3|h3
   ·exact hP j y h3 hy
   ·obtain rfl:j=q:=by omega
    rw[hx]at hy;cases hy;exact h
  cases k1:decide (x.n=k)with
  |false=>
   simp only[go_sem,simprocAttr,hlt,hx,hi,ha,h14,k1,hw]
   exact⟨trivial,by first|trivial|rfl,go (by rw[k1];rfl)⟩
  |true=>
   cases k2:qW x a with
   |false=>
    simp only[go_sem,simprocAttr,hlt,hx,k1,hi,ha,h14,k2,hw]
    exact⟨trivial,by first|trivial|rfl,go (by rw[k1,k2];rfl)⟩
   |true=>
    have hf:gg L a k=false:=by rw[gg,nN hx (by rw[k1,k2];rfl)];rfl
    simp only[go_sem,simprocAttr,hlt,hx,k1,hi,ha,h14,k2,hf]
 ·have hlt:¬q<L.length:=by omega
  have hf:gg L a k=true:=by rw[gg,any_none hge hP];rfl
  simp only[go_sem,simprocAttr,hlt,hf]
theorem U7(n:Nat)(H:ae)(s:Sn)(L:List Em)(f:Bool)(i k:Int)(hL:L.length≤maxLen):aa T (n+9) (.fn 148) [.agg (lZ s),.agg (ow s),.ay 4 (bK L) f,aew i,aew k] H=some (aew (tH s L i k),H):=by
 refine ab WB (by rfl) ?_
 have h23:=fun H=>Ye n H s.N s.P s.W s.g1 s.g2 s.g3 s.ex s.no s.th s.S s.f1 s.F s.f2 L f s.hN s.hW s.hS s.hF hL
 have h23:∀H,aa T (n+8) (.fn 97) [.agg (lZ s),.agg (ow s),.ay 4 (bK L) f] H=some (aew (mu (dP s) s.N.length L),H):=h23
 unfold tH
 cases k0:decide (mu (dP s) s.N.length L=0)with
 |false=>simp only[v8,ah,go_sem,simprocAttr,h23,k0]
 |true=>
  cases k1:decide (i<0)with
  |true=>simp only[v8,ah,go_sem,simprocAttr,h23,k0,k1]
  |false=>
  cases k2:decide ((L.length:Int)≤i)with
  |true=>simp only[v8,ah,go_sem,simprocAttr,h23,k0,k1,k2]
  |false=>
  cases k3:decide (k<0)with
  |true=>simp only[v8,ah,go_sem,simprocAttr,h23,k0,k1,k2,k3]
  |false=>
  cases k4:decide ((s.N.length:Int)≤k)with
  |true=>simp only[v8,ah,go_sem,simprocAttr,h23,k0,k1,k2,k3,G.aL,k4]
  |false=>simp only[v8,ah,go_sem,simprocAttr,h23,k0,k1,k2,k3,G.aL,k4]
def WE(s:Sn)(L:List Em)(i k:Int):SV:=bif decide (tH s L i k=0)then .bk [aew (match L[i.toNat]? with|some a=>inter s L i.toNat a k|none=>0),aex]else .bk [aex,aew (tH s L i k)]
theorem TQ(n:Nat)(H:ae)(s:Sn)(L:List Em)(f:Bool)(i k:Int)(hL:L.length≤maxLen):aa T (n+10) (.fn 101) [.agg (lZ s),.agg (ow s),.ay 4 (bK L) f,aew i,aew k] H=some (WE s L i k,H):=by
 refine ab Wt (by rfl) ?_
 have h31:=fun H=>U7 n H s L f i k hL
 unfold WE
 cases h0:decide (tH s L i k=0)with
 |false=>simp only[GP,ah,go_sem,simprocAttr,h31,h0]
 |true=>
  have h0':=abC h0
  obtain⟨_,⟨hi0,hi1⟩,hk0,hk1⟩:=wW h0'
  obtain⟨j,rfl⟩:∃q:Nat,i=q:=⟨i.toNat,by omega⟩
  obtain⟨a,ha⟩:=bF (l:=L) (i:=j) (by omega)
  have hj:j<L.length:=by omega
  have h32:=fun H=>U.QH (n+1) H s.N s.P s.W s.g1 s.g2 s.g3 s.ex s.no s.th s.S s.f1 s.F s.f2 k a.c a.x a.y s.hN s.hW s.hS s.hF
  have h32:∀H,aa T (n+9) (.fn 149) [.agg (lZ s),.agg (ow s),aew k,aew a.c,aew a.x,aew a.y] H=some (.bk [aew (ext s a k),aew (U.E3 (dP s) (U.dQ s.N.length k) (U.bP a.c&&U.mH a.x a.y))],H):=h32
  simp only[GP,ah,go_sem,simprocAttr,h31,h0,h0',hj,ha,h32,abD]
  refine aY (fun q=>([(2,.ay 4 (bK L) f),(3,aew j),(4,aew k),(5,.ptr 0 0 0 0),(6,.ptr 1 0 0 0),(13,aew (gn (fun v _ x=>bj (v+sig s x k)) a j k L (ext s a k) q)),(15,aew q)],
   ⟨[.box (lZ s),.box (ow s)],[],0⟩)) (fun _=>True) L.length (by simp only[go_sem,simprocAttr]<;>rfl) trivial ?_
  intro q hq _
  rcases aa4 q L.length with hlt|hge
  ·obtain⟨x,hx⟩:=bF hlt
   have hw:=br hlt hL
   have h36:=fun H=>Sy (n+7) H L f j q a x k ha hx
   have h33:=fun H=>U.Ni (n+1) H s.N s.P s.W s.g1 s.g2 s.g3 s.ex s.no s.th s.S s.f1 s.F s.f2 x.n k x.c x.x s.hN s.hW s.hS s.hF
   have h33:∀H,aa T (n+9) (.fn 102) [.agg (lZ s),.agg (ow s),aew x.n,aew k,aew x.c,aew x.x] H=some (.bk [aew (sig s x k),aew (U.E3 (dP s) (G.nZ s.N x.n k) (U.bP x.c&&U.vT x.x))],H):=h33
   cases hb:jW a j k q x with
   |false=>
    have e1:gn (fun v _ x=>bj (v+sig s x k)) a j k L (ext s a k) (q+1)=gn (fun v _ x=>bj (v+sig s x k)) a j k L (ext s a k) q:=by simp only[gn,hx,hb,abc]
    rw[hb]at h36
    simp only[go_sem,simprocAttr,hlt,h36,hw,e1]
    exact⟨trivial,by first|trivial|rfl,trivial⟩
   |true=>
    have e1:gn (fun v _ x=>bj (v+sig s x k)) a j k L (ext s a k) (q+1)=bj (gn (fun v _ x=>bj (v+sig s x k)) a j k L (ext s a k) q+sig s x k):=by simp only[gn,hx,hb,abb]
    rw[hb]at h36
    simp only[go_sem,simprocAttr,hlt,hx,h36,h33,hw,e1]
    exact⟨trivial,by first|trivial|rfl,trivial⟩
  ·obtain rfl:q=L.length:=by omega
   simp only[go_sem,simprocAttr,show decide ((L.length:Int)<(L.length:Int))=false from aaZ (by omega)]
   rfl
theorem Yf(n:Nat)(H:ae)(s:Sn)(L:List Em)(f:Bool)(i k:Int)(hL:L.length≤maxLen):aa T (n+11) (.fn 57) [.agg (lZ s),.agg (ow s),.ay 4 (bK L) f,aew i,aew k] H=some (HH s L i k,H):=by
 refine ab Z4 (by rfl) ?_
 have h14:=fun H=>TQ n H s L f i k hL
 unfold HH
 unfold WE at h14
 cases h0:decide (tH s L i k=0)with
 |false=>
  have h0':decide (tH s L i k=0)=false:=h0
  rw[h0]at h14
  simp only[Oy,ah,go_sem,simprocAttr,h14,h0]
 |true=>
  have h0':=abC h0
  obtain⟨hac,⟨hi0,hi1⟩,hk0,hk1⟩:=wW h0'
  obtain⟨hok,hL48,_⟩:=NV hac
  obtain⟨j,rfl⟩:∃q:Nat,i=q:=⟨i.toNat,by omega⟩
  obtain⟨a,ha⟩:=bF (l:=L) (i:=j) (by omega)
  have hj:j<L.length:=by omega
  rw[h0]at h14
  simp only[abD,ha,abb]at h14
  have h33:=fun H=>U.Ni (n+2) H s.N s.P s.W s.g1 s.g2 s.g3 s.ex s.no s.th s.S s.f1 s.F s.f2 a.n k a.c a.x s.hN s.hW s.hS s.hF
  have h33:∀H,aa T (n+10) (.fn 102) [.agg (lZ s),.agg (ow s),aew a.n,aew k,aew a.c,aew a.x] H=some (.bk [aew (sig s a k),aew (U.E3 (dP s) (G.nZ s.N a.n k) (U.bP a.c&&U.vT a.x))],H):=h33
  have h34:=fun H=>Tn (n+8) H L f j a k hL ha
  have h35:=fun H=>Rb (n+9) H (sig s a k) s.th s.no (inter s L j a k)
  rw[zT hok (pr hok a k) (zC hok hL48 j a k)]at h35
  cases b1:gg L a k with
  |false=>
   rw[b1]at h34
   simp only[Oy,ah,go_sem,simprocAttr,h14,h33,h34,hj,ha,fD,b1,abD]
  |true=>
   rw[b1]at h34
   simp only[Oy,ah,go_sem,simprocAttr,h14,h33,h34,h35,hj,ha,fD,b1,abD]
theorem K8(y:Em):FQ y=!(U.bP y.c&&U.mH y.x y.y):=by
 unfold FQ U.bP U.mH
 rw[abG]
 simp only[abS,abx,acH,aaX,aa0]
 omega
def Fv:Option Nat→Int
 |some b=>b
 |none=> -1
theorem s55(n:Nat)(H:ae)(s:Sn)(L:List Em)(f:Bool)(y:Em)(hL:L.length≤maxLen):aa T (n+12) (.fn 55) [.agg (lZ s),.agg (ow s),.ay 4 (bK L) f,.agg (ra y)] H=some (Fa s L y,H):=by
 refine ab Ws (by rfl) ?_
 have h23:=fun H=>Ye (n+3) H s.N s.P s.W s.g1 s.g2 s.g3 s.ex s.no s.th s.S s.f1 s.F s.f2 L f s.hN s.hW s.hS s.hF hL
 have h23:∀H,aa T (n+11) (.fn 97) [.agg (lZ s),.agg (ow s),.ay 4 (bK L) f] H=some (aew (mu (dP s) s.N.length L),H):=h23
 have h24:=fun H=>U.FW (n+10) H y.c
 have h25:=fun H=>U.FJ (n+10) H y.x y.y
 unfold Fa
 cases h0:decide (mu (dP s) s.N.length L=0)with
 |false=>simp only[HY,ah,go_sem,simprocAttr,h23,h0]
 |true=>
  have h0':=abC h0
  cases k1:decide (y.n<0)with
  |true=>simp only[HY,ah,go_sem,simprocAttr,h23,h0,k1]
  |false=>
  cases k2:decide ((s.N.length:Int)≤y.n)with
  |true=>simp only[HY,ah,go_sem,simprocAttr,h23,h0,k1,G.aL,k2]
  |false=>
  rw[K8]
  cases k3:U.bP y.c with
  |false=>simp only[HY,ah,go_sem,simprocAttr,h23,h0,k1,G.aL,k2,h24,h25,k3]
  |true=>
  cases k4:U.mH y.x y.y with
  |false=>simp only[HY,ah,go_sem,simprocAttr,h23,h0,k1,G.aL,k2,h24,h25,k3,k4]
  |true=>
   have hyn:0≤y.n∧y.n<s.N.length:=by have:=aco k1;have:=aco k2;omega
   simp only[HY,ah,go_sem,simprocAttr,h23,h0,k1,G.aL,k2,h24,h25,k3,k4]
   refine aY (fun q=>([(2,.ay 4 (bK L) f),(4,.ptr 0 0 0 0),(5,.ptr 1 0 0 0),(7,.ptr 2 0 0 0),(12,aew (Fv (gu s L y q))),(13,aew q)],
    ⟨[.box (lZ s),.box (ow s),.box (ra y)],[],0⟩)) (fun _=>True) L.length (by simp only[go_sem,simprocAttr]<;>rfl) trivial ?_
   intro q hq _
   rcases aa4 q L.length with hlt|hge
   ·obtain⟨x,hx⟩:=bF hlt
    have hw:=br hlt hL
    have h16:=fun H=>Yf n H s L f q y.n hL
    have hck:tH s L q y.n=0:=by
     unfold tH
     rw[aaV h0',abb,aaZ (show ¬(q:Int)<0 by omega),aaZ (show ¬(L.length:Int)≤q by omega),k1,k2]
     rfl
    simp only[HH,hck,ace,abb,abD,hx]at h16
    have no:(tJ L y (gu s L y q) x&&fD s L q x y.n)=false→gu s L y (q+1)=gu s L y q:=fun h=>by simp only[gu,hx,h,abc]
    cases j1:decide (x.c=y.c)with
    |false=>
     have e1:=no (by simp only[tJ,j1];rfl)
     simp only[go_sem,simprocAttr,hlt,hx,j1,hw,e1]
     exact⟨trivial,by first|trivial|rfl,trivial⟩
    |true=>
    cases j2:decide (x.x<y.x)with
    |true=>
     have e1:=no (by simp only[tJ,j1,j2];rfl)
     simp only[go_sem,simprocAttr,hlt,hx,j1,j2,hw,e1]
     exact⟨trivial,by first|trivial|rfl,trivial⟩
    |false=>
    cases j3:decide (y.y<x.x)with
    |true=>
     have e1:=no (by simp only[tJ,j1,j2,j3];rfl)
     simp only[go_sem,simprocAttr,hlt,hx,j1,j2,j3,hw,e1]
     exact⟨trivial,by first|trivial|rfl,trivial⟩
    |false=>
    have hcase:tJ L y (gu s L y q) x=!(match gu s L y q with|some b=>(match L[b]? with|some z=>decide (z.x≤x.x)|none=>false)|none=>false):=by simp only[tJ,j1,j2,j3];rfl
    cases ho:gu s L y q with
    |none=>
     rw[ho]at hcase no
     cases hr:fD s L q x y.n with
     |false=>
      have e1:=no (by rw[hr,abt])
      rw[hr]at h16
      simp only[go_sem,simprocAttr,hlt,hx,j1,j2,j3,ho,Fv,h16,hw,e1]
      exact⟨trivial,by first|trivial|rfl,trivial⟩
     |true=>
      have e1:gu s L y (q+1)=some q:=by simp only[gu,hx,ho,hcase,hr,acb,abn,abb]
      rw[hr]at h16
      simp only[go_sem,simprocAttr,hlt,hx,j1,j2,j3,ho,Fv,h16,hw,e1]
      exact⟨trivial,by first|trivial|rfl,trivial⟩
    |some b=>
     have hbl:=(tj s L y q b ho).2
     obtain⟨z,hz⟩:=bF hbl
     rw[ho]at hcase no
     simp only[hz]at hcase
     cases j4:decide (z.x≤x.x)with
     |true=>
      have e1:=no (by rw[hcase,j4];rfl)
      simp only[go_sem,simprocAttr,hlt,hx,j1,j2,j3,ho,Fv,hbl,hz,j4,hw,e1]
      exact⟨trivial,by first|trivial|rfl,trivial⟩
     |false=>
      cases hr:fD s L q x y.n with
      |false=>
       have e1:=no (by rw[hr,abt])
       rw[hr]at h16
       simp only[go_sem,simprocAttr,hlt,hx,j1,j2,j3,ho,Fv,hbl,hz,j4,h16,hw,e1]
       exact⟨trivial,by first|trivial|rfl,trivial⟩
      |true=>
       have e1:gu s L y (q+1)=some q:=by simp only[gu,hx,ho,hcase,hr,j4,acb,abn,abb]
       rw[hr]at h16
       simp only[go_sem,simprocAttr,hlt,hx,j1,j2,j3,ho,Fv,hbl,hz,j4,h16,hw,e1]
       exact⟨trivial,by first|trivial|rfl,trivial⟩
   ·obtain rfl:q=L.length:=by omega
    cases ho:gu s L y L.length with
    |none=>simp only[go_sem,simprocAttr,show decide ((L.length:Int)<(L.length:Int))=false from aaZ (by omega),ho,Fv,xV,adr,show max (-1:Int) 0=0 from by decide]
    |some b=>
     have hm:max (b:Int) 0=b:=by omega
     simp only[go_sem,simprocAttr,show decide ((L.length:Int)<(L.length:Int))=false from aaZ (by omega),ho,Fv,xV,ac4,hm]
end A
def bS(L:List Nat):List (List SV):=L.map fun(n:Nat)=>[.int .i64 (n:Int)]
@[go_sem] theorem Bb (L):(bS L).length=L.length:=by simp[bS]
@[go_sem] theorem TO (L)(i:Nat):(bS L)[i]?=(L[i]?).map (fun(n:Nat)=>[.int .i64 (n:Int)]):=by simp[bS]
theorem Oa(L):bS L=iS (L.map fun(n:Nat)=>(n:Int)):=by simp[bS,iS]
theorem Cf(L):Still (bS L):=by rw[Oa];exact Still.ints _
theorem tF(C:List Nat)(i c:Nat):(bS C).set i [.int .i64 (c:Int)]=bS (C.set i c):=by simp[bS,List.map_set]
theorem DZ(C:List Nat)(c:Nat):bS C++[[.int .i64 (c:Int)]]=bS (C++[c]):=by simp[bS]
end Go.Sh
