/- A part of the proof: texts Ktgo. -/
import Derived.Test.YtlkjiffohmkidaaGreatB10
namespace Go.Sh
set_option linter.unusedSectionVars false
set_option linter.unnecessarySimpa false
set_option linter.unusedSimpArgs false
set_option linter.unusedVariables false
set_option maxRecDepth 100000
set_option maxHeartbeats 4000000
namespace K
theorem pj:∀{L:List (List SV)},(∀q∈L,cF [.int .i64] q)→∃N,L=iS N
 |[],_=>⟨[],rfl⟩
 |r::L,h=>by
  obtain⟨N,rfl⟩:=pj (L:=L) (fun q hq=>h q (by simp[hq]))
  have h0:=h r (by simp)
  obtain⟨a,_,rfl,_,h0⟩:=fx h0
  cases ft h0
  exact⟨a::N,rfl⟩
theorem rj:∀{L:List (List SV)},(∀q∈L,cF [.int .i64,.int .i64,.int .i64,.int .i64] q)→∃N,L=eb N
 |[],_=>⟨[],rfl⟩
 |r::L,h=>by
  obtain⟨N,rfl⟩:=rj (L:=L) (fun q hq=>h q (by simp[hq]))
  have h0:=h r (by simp)
  obtain⟨a,_,rfl,_,h0⟩:=fx h0
  obtain⟨b,_,rfl,_,h0⟩:=fx h0
  obtain⟨c,_,rfl,_,h0⟩:=fx h0
  obtain⟨d,_,rfl,_,h0⟩:=fx h0
  cases ft h0
  exact⟨⟨a,b,c,d⟩::N,rfl⟩
theorem rF:∀{L:List (List SV)},(∀q∈L,cF [.int .i64,.int .i64,.bool] q)→∃N,L=vj N
 |[],_=>⟨[],rfl⟩
 |r::L,h=>by
  obtain⟨N,rfl⟩:=rF (L:=L) (fun q hq=>h q (by simp[hq]))
  have h0:=h r (by simp)
  obtain⟨a,_,rfl,_,h0⟩:=fx h0
  obtain⟨b,_,rfl,_,h0⟩:=fx h0
  obtain⟨c,_,rfl,h1,h0⟩:=gW h0
  cases ft h0
  obtain⟨b1,rfl⟩:=fits_bool h1
  exact⟨(a,b,b1)::N,rfl⟩
abbrev Bz:Bool×List DT:=(true,[.aP [.int .i64,.int .i64,.int .i64,.int .i64],.aP [.int .i64]])
abbrev BB:Bool×List DT:=(false,[.aP [.int .i64,.int .i64,.bool]])
theorem Ao(xs:List SV)(h:fB [Bz,BB,(false,[.int .i64])] xs):∃m,aI T m (.fn 3) xs aB=some (.bool true,aB):=by
 obtain⟨x1,r1,rfl,h1,h⟩:=fE h
 obtain⟨x2,r2,rfl,h2,h⟩:=fE h
 obtain⟨x3,r3,rfl,h3,h⟩:=fE h
 cases mZ h
 obtain⟨cs,rfl,h4⟩:=pz h1
 obtain⟨L1,f1,_,rfl,_,hL1,h4⟩:=oK h4
 obtain⟨L2,f2,_,rfl,_,hL2,h4⟩:=oK h4
 cases ft h4
 obtain⟨N1,rfl⟩:=rj hL1
 obtain⟨N2,rfl⟩:=pj hL2
 obtain⟨L3,f3,rfl,_,hL3⟩:=mH (lI h2)
 obtain⟨N3,rfl⟩:=rF hL3
 obtain⟨k,rfl,_⟩:=fits_int (lI h3)
 exact⟨61,s3 N1 f1 N2 f2 N3 f3 k⟩
end K
end Go.Sh
