/- A part of the proof: texts ShFr. -/
import Derived.Test.YtlkjiffohmkidaaGreatB3
namespace Go.Sh
set_option linter.unusedSectionVars false
set_option linter.unnecessarySimpa false
set_option linter.unusedSimpArgs false
set_option linter.unusedVariables false
set_option maxRecDepth 100000
set_option maxHeartbeats 4000000
section
section
variable{A:Type}(bl l:List A)(x:A)(k j:Nat)
theorem ar:(bl++l)[bl.length]?=l[0]?:=by rw[Ek (De _),FI]
theorem ao:(bl++l)[bl.length+k]?=l[k]?:=by rw[Ek (by omega),Nat.add_sub_cancel_left]
theorem ax:(bl++l).set bl.length x=bl++l.set 0 x:=by rw[FB _ _ (De _),FI]
theorem av:(bl++l).set (bl.length+k) x=bl++l.set k x:=by rw[FB _ _ (by omega),Nat.add_sub_cancel_left]
theorem aj:(bl++l).take bl.length=bl:=by simp
theorem ai:(bl++l).take (bl.length+k)=bl++l.take k:=by rw[List.take_append,Eh (by omega)];simp
theorem al:(bl++l).drop bl.length=l:=by simp
theorem ah:(bl++l).drop (bl.length+k)=l.drop k:=by rw[List.drop_append,E3 (by omega)];simp
end
section
variable(a r k j:Nat)
theorem aO:decide (a+j≤a+k)=decide (j≤k):=by rw[decide_eq_decide];omega
theorem aF:decide (a≤a+k)=true:=Dj (by omega)
theorem aN:decide (a+j<a+k)=decide (j<k):=by rw[decide_eq_decide];omega
theorem aG:decide (a<a+(k+1))=true:=Dj (by omega)
theorem aE:decide (a+k<a)=false:=DR (by omega)
theorem aD:decide (min r a≤a)=true:=Dj (by omega)
theorem au:decide (min r a≤a+k)=true:=Dj (by omega)
theorem aH:(a+j==a+k)=(j==k):=by rw[FQ];simp
theorem af(x y z:Nat):decide (max x y≤z)=(decide (x≤z)&&decide (y≤z)):=by rw[FQ];simp;omega
theorem ay:decide (a≤a)=true:=Dj (De a)
theorem a9:decide (0≤a)=true:=Dj (EU a)
theorem ba:decide (a+(k+1)≤a)=false:=DR (by omega)
theorem aq:(a==a+(k+1))=false:=by simp
theorem aw:(a+(k+1)==a)=false:=by simp
end
theorem rT{A:Type}{bl l:List A}{b:Nat}{x:A}(h:bl[b]?=some x):(bl++l)[b]?=some x:=by
 rw[Dy (C7.1 h).1];exact h
theorem gf{T:FuncId→Option bp}{f:FuncId}{F:bp}{xs:List SV}{n:Nat}{H:ab}{v:SV}(hT:T f=some F)(hk:F.keep=false)(hs:iG v=true)
 (h:∀(R:Type) (k:SV→ab→Option R) (bl:List bb) (ro:Nat) (r:Option R),(bl=[]∧SV.refs.aK xs=0∨bl=H.bl)→(∀ext,k v ⟨bl++ext,[],min ro bl.length⟩=r)→
  runK (aI T n) (kM F.res k) F.body [] (cQ xs) ⟨bl,[],min ro bl.length⟩ ()=r) :
 aI T (n+1) (.fn f) xs H=some (v,H):=by
 have hfz:∀N H',cR N H' bI v=some v:=fun N H'=>by
  cases v<;>simp only[iG,Dp]at hs<;>simp[bI,cR,SV.refs]
 cases hp:dW F xs with
 |true=>
  refine aJ hT hp ?_
  have hr:SV.refs.aK xs=0:=by
   unfold dW at hp
   simp only[Db,D0]at hp
   exact hp.1
  exact h SV (fun v H'=>cR 0 H' bI v) [] 0 _ (.inl ⟨rfl,hr⟩) (fun ext=>hfz _ _)
 |false=>
  refine lP hT hp ?_
  refine h _ (fun v H'=>cc F.keep H v H') H.bl H.ro _ (.inr rfl) (fun ext=>?_)
  rw[hk,jh,hfz]
  obtain⟨bl,es,ro⟩:=H
  simp[Sh.cu]
end
end Go.Sh
