/- A part of the proof: texts ShJn. -/
import Derived.Shelf.Strings.OnBuilder
import Derived.Test.YtlkjiffohmkidaaGreatB7
namespace Go.Sh
set_option linter.unusedSectionVars false
set_option linter.unnecessarySimpa false
set_option linter.unusedSimpArgs false
set_option linter.unusedVariables false
set_option maxRecDepth 100000
set_option maxHeartbeats 4000000
section
open Go.Shelf Go.RowKit Go.Proofs
theorem nQ:∀(L:List SV) (l:List UInt8),fU L=some l→∃xs:List ByteArray,L=xs.map .str∧l=(xs.map (·.data.toList)).flatten
 |[],l,h=>by cases h;exact⟨[],rfl,rfl⟩
 |x::L,l,h=>by
  unfold fU at h
  split at h
  ·rename_i h0;cases h0
  ·rename_i s r h0
   cases h0
   simp only[NP]at h
   obtain⟨l',h1,rfl⟩:=h
   obtain⟨xs,rfl,rfl⟩:=nQ L l' h1
   exact⟨s::xs,rfl,rfl⟩
  ·cases h
theorem uY:∀xs:List (List UInt8),Lib.join xs []=xs.flatten
 |[]=>rfl
 |x::r=>by
  rw[Lib.join_cons,Qx]
  unfold Lib.joinTail
  congr 1
  simp
theorem yZ{C:Ctx}{ρ:Ren}(L:Lays.n156 C.P ρ)(X:Builder.Extra C.P ρ):wa C 1 (ρ.f 156):=by
 intro xs v args σ F H w h hr ha
 unfold iJ at h
 split at h
 ·rename_i b o n s hk
  split at h
  ·rename_i cs hg
   replace h:=af h
   obtain⟨hb,h⟩:=h
   simp only[NX,NY]at hb
   obtain⟨hs0,hn6,hon⟩:=hb
   simp only[NS]at h
   obtain⟨l,hj,h⟩:=h
   replace h:=af h
   obtain⟨hl,h⟩:=h
   simp only[NY]at hl
   cases h
   obtain⟨ys,hys,rfl⟩:=nQ _ _ hj
   have hlen:ys.length=n:=by
    have:=congrArg List.length hys
    rw[PW,List.length_drop,Oe]at this
    have:n≤cs.length-o:=by omega
    omega
   obtain⟨hn,hv⟩:=ha
   obtain⟨a0,a1,rfl⟩:∃a0 a1,args= #[a0,a1]:=by
    obtain⟨l⟩:=args
    match l,hn with
    |[a0,a1],_=>exact⟨a0,a1,rfl⟩
    |[],hn=>simp at hn
    |[_],hn=>simp at hn
    |_::_::_::_,hn=>simp at hn
   have h0:=hv 0 _ a0 rfl rfl
   have h1:=hv 1 _ a1 rfl rfl
   have e1:a1=.string s:=by cases h1;rfl
   subst e1
   have hse:s.data.toList=[]:=by
    have:s.data.size=0:=hs0
    exact Pe this
   obtain⟨lc,hlc,hvi,har,hbase,hver,hesz,vs,ty,fz,hw,hfz,hsz,hcells⟩:=hr.live b (.box cs) hg rfl
   cases h0 with
   |pU hb' harr hcap=>
    rename_i cap lo
    rw[hlc]at hb'
    cases hb'
    have hc:∀(j:Nat) x,ys[j]?=some x→w.cell? ⟨lc.bq,o+j,none⟩=some (.string x):=by
     intro j x hx
     have hjl:j<ys.length:=(NT.1 hx).1
     have h2:((cs.drop o).take n)[j]?=some (.str x):=by rw[hys,Py,hx];rfl
     rw[Ob,if_pos (by omega),Ou]at h2
     obtain⟨u,hu,hvr,_⟩:=hcells (o+j) _ h2
     rw[OY]at hu
     have:u=.string x:=by cases hvr;rfl
     subst this
     simp[World.cell?,hw,hu]
    have hJ:Lib.join (ys.map (·.data.toList)) s.data.toList=(ys.map (·.data.toList)).flatten:=by rw[hse,uY]
    have hcall:=Any.strings_Join L X lc.bq o cap ys s w hc (N8.1 hw).1 (by omega) (by omega) (by rw[hJ];omega)
    rw[hJ,hlen]at hcall
    refine⟨enters_of L.f156 (by kernel_rfl) rfl _ _,_,rfl,hcall.mono (fun e w' he=>⟨he.1,he.2.os,he.2.output,he.2.size,he.2.block⟩)⟩
  ·cases h
 ·exact absurd ‹(1:Nat)=0› (by decide)
 ·cases h
end
end Go.Sh
