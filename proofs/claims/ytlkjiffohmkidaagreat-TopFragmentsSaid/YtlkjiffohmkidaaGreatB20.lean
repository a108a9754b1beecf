/- A part of the proof: texts Ktfo. -/
import Derived.Test.YtlkjiffohmkidaaGreatB19
namespace Go.Sh
set_option linter.unusedSectionVars false
set_option linter.unnecessarySimpa false
set_option linter.unusedSimpArgs false
set_option linter.unusedVariables false
set_option maxRecDepth 100000
set_option maxHeartbeats 4000000
namespace F
theorem tQ:∀{L:List (List SV)},(∀q∈L,c9 [.int .u8] q)→∃N:List Nat,L=wP N∧∀k∈N,k≤255
 |[],_=>⟨[],rfl,by simp⟩
 |r::L,h=>by
  obtain⟨N,rfl,hN⟩:=tQ (L:=L) (fun q hq=>h q (by simp[hq]))
  obtain⟨k,_,rfl,hk,hr⟩:=ir (h r (by simp))
  have hr:=ic hr;subst hr
  have hk':(0:Int)≤k∧k≤255:=by
   have h1:IntKind.u8.min=0:=rfl
   have h2:IntKind.u8.max=255:=rfl
   simp[Lit.wf,h1,h2]at hk
   omega
  refine⟨k.toNat::N,?_,fun x hx=>?_⟩
  ·have:((k.toNat:Nat):Int)=k:=by omega
   simp only[wP,Ov,this]
  ·rcases O9.1 hx with rfl|hx
   ·omega
   ·exact hN x hx
theorem o5:∀{L:List (List SV)},(∀q∈L,c9 [.aB [.int .u8]] q)→∃Y,L=FX Y∧∀y∈Y,∀x∈y.1,x≤255
 |[],_=>⟨[],rfl,by simp⟩
 |r::L,h=>by
  obtain⟨Y,rfl,hY⟩:=o5 (L:=L) (fun q hq=>h q (by simp[hq]))
  obtain⟨L2,f2,r2,rfl,_,h2,hr⟩:=zK (h r (by simp))
  have hr:=ic hr;subst hr
  obtain⟨N,rfl,hN⟩:=tQ h2
  refine⟨(N,f2)::Y,rfl,fun x hx=>?_⟩
  rcases O9.1 hx with rfl|hx
  ·exact hN
  ·exact hY x hx
theorem mC{es:List DT}{cs:List SV}(h:c9 (.str::es) cs):∃b r,cs=.str b::r∧b.size≤maxLen∧c9 es r:=by
 obtain⟨c,r,rfl,h1,h2⟩:=jY h
 obtain⟨n,rfl,hn⟩:=xe h1
 exact⟨n,r,rfl,hn,h2⟩
theorem oJ:∀{L:List (List SV)},(∀q∈L,c9 [.str] q)→∃P,L=fx P∧∀q∈P,q.size≤9223372036854775807
 |[],_=>⟨[],rfl,by simp⟩
 |r::L,h=>by
  obtain⟨P,rfl,hP⟩:=oJ (L:=L) (fun q hq=>h q (by simp[hq]))
  obtain⟨s,_,rfl,hs,hr⟩:=mC (h r (by simp))
  have hr:=ic hr;subst hr
  refine⟨s::P,rfl,fun x hx=>?_⟩
  rcases O9.1 hx with rfl|hx
  ·exact hs
  ·exact hP x hx
abbrev LW:Bool×List DT:=(true,[.int .i64,.int .i64,.str,.str,.int .i64,.int .i64,.int .i64,.str,.int .i64])
theorem HS(xs:List SV)(h:jv [(false,[.aB [.str]]),LW,(false,[.aB [.aB [.int .u8]]])] xs):∃m,ab T m (.fn 5) xs av=some (.bool true,av):=by
 obtain⟨x1,r1,rfl,h1,h⟩:=ia h
 obtain⟨x2,r2,rfl,h2,h⟩:=ia h
 obtain⟨x3,r3,rfl,h3,h⟩:=ia h
 cases rf h
 obtain⟨L1,f1,rfl,_,hL1⟩:=m7 (oC h1)
 obtain⟨P,rfl,hP⟩:=oJ hL1
 obtain⟨L3,f3,rfl,_,hL3⟩:=m7 (oC h3)
 obtain⟨Y,rfl,hY⟩:=o5 hL3
 obtain⟨cs,rfl,h4⟩:=ud h2
 obtain⟨c,_,rfl,_,h4⟩:=ir h4
 obtain⟨l,_,rfl,_,h4⟩:=ir h4
 obtain⟨a,_,rfl,_,h4⟩:=mC h4
 obtain⟨b,_,rfl,_,h4⟩:=mC h4
 obtain⟨p,_,rfl,_,h4⟩:=ir h4
 obtain⟨r,_,rfl,_,h4⟩:=ir h4
 obtain⟨m0,_,rfl,_,h4⟩:=ir h4
 obtain⟨X,_,rfl,_,h4⟩:=mC h4
 obtain⟨mo,_,rfl,_,h4⟩:=ir h4
 cases ic h4
 exact⟨61,s5 P f1 c l a b p r m0 X mo Y f3 hP hY⟩
end F
end Go.Sh
