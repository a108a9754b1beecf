/- A part of the proof: texts ShU, ShV, ShW, ShX, ShXw. -/
import Derived.LoopNIn
import Derived.RangeFuncNested
import Derived.OrdersIn
import Derived.Test.YtlkjiffohmkidaaGreatB3
namespace Go.Sh
set_option linter.unusedSectionVars false
set_option linter.unnecessarySimpa false
set_option linter.unusedSimpArgs false
set_option linter.unusedVariables false
set_option maxRecDepth 100000
set_option maxHeartbeats 4000000
section
def pj(ρ:Map)(F:Nat→Prop)(H:ae)(w:World)(lo D:Nat):Prop:=lo≤D∧w.heap[D]?=some (.deferred (some []))∧¬F D∧∀b l,Own ρ H b l→l.bq≠D
def Marks(ρ:Map)(F:Nat→Prop)(H:ae)(w:World)(lo:Nat)(ds:List Deferred):Prop:=lo≤w.heap.size∧∃Ds:List Nat,ds.map (·.target)=Ds.map Target.collected∧Ds.Nodup∧
 ∀D∈Ds,pj ρ F H w lo D
structure iL where
 ρ:Map
 F:Nat→Prop
 H:ae
 w:World
 lo:Nat
def Rel(C:Ctx)(nt:Nat)(B:iL)(e:Env)(H:ae)(a:Act)(w:World):Prop:=
 ∃ρ F,HR C ρ F H w∧ER w F ρ e a.tmps∧Ext C B.ρ B.F B.H B.w ρ F H w∧nt≤a.tmps.size∧Marks ρ F H w B.lo a.defers
section
variable{C:Ctx}{ρ ρ':Map}{F F':Nat→Prop}{H H':ae}{w w':World}{e:Env}{a:Act}{s c d:SV}{B:iL}{nt:Nat}
theorem pj.ext{lo D:Nat}(hx:Ext0 C ρ F H w ρ' F' H' w')(h:pj ρ F H w lo D):pj ρ' F' H' w' lo D:=by
 obtain⟨k1,k2,k3,k4⟩:=h
 have hlt:D<w.heap.size:=(N8.1 k2).1
 refine⟨k1,(hx.frame D hlt (fun b l ho _=>k4 b l ho)).trans k2,fun hF=>?_,fun b l ho=>?_⟩
 ·rcases hx.new D hF with h|h|⟨b,l,ho,_,e⟩
  ·exact k3 h
  ·omega
  ·exact k4 b l ho e
 ·rcases hx.old b l ho with h4|⟨l0,h4,h5⟩
  ·omega
  ·rw[←h5];exact k4 b l0 h4
theorem Marks.ext{lo:Nat}(hx:Ext0 C ρ F H w ρ' F' H' w'){ds:List Deferred}(h:Marks ρ F H w lo ds):Marks ρ' F' H' w' lo ds:=by
 obtain⟨h0,Ds,h1,h2,h3⟩:=h
 exact⟨O0 h0 hx.size,Ds,h1,h2,fun D hD=>(h3 D hD).ext hx⟩
theorem Marks.less{lo:Nat}(h:∀b l,Own ρ' H' b l→Own ρ H b l){ds:List Deferred}(hm:Marks ρ F H w lo ds):Marks ρ' F H' w lo ds:=by
 obtain⟨h0,Ds,h1,h2,h3⟩:=hm
 exact⟨h0,Ds,h1,h2,fun D hD=>let⟨k1,k2,k3,k4⟩:=h3 D hD;⟨k1,k2,k3,fun b l ho=>k4 b l (h b l ho)⟩⟩
theorem Marks.D3{lo:Nat}(h:∀b l,Own ρ' H' b l→∃b0 l0,Own ρ H b0 l0∧l0.bq=l.bq){ds:List Deferred}(hm:Marks ρ F H w lo ds):Marks ρ' F H' w lo ds:=by
 obtain⟨h0,Ds,h1,h2,h3⟩:=hm
 exact⟨h0,Ds,h1,h2,fun D hD=>let⟨k1,k2,k3,k4⟩:=h3 D hD;⟨k1,k2,k3,fun b l ho=>by obtain⟨b0,l0,o,e⟩:=h b l ho;exact e▸k4 b0 l0 o⟩⟩
theorem xc(he:ER w F ρ e a.tmps){d:Nat}{val:Value}(hd:d<a.tmps.size)(hv:VR w F ρ s val):ER w F ρ ((d,s)::e) (a.tmps.setIfInBounds d val):=by
 intro t
 simp only[get]
 by_cases h:t=d
 ·subst h
  simp[hd,hv]
 ·have h1:(t==d)=false:=by simp[h]
  rw[h1]
  simp only[Oa]
  have:(a.tmps.setIfInBounds d val).getD t undef=a.tmps.getD t undef:=by
   simp only[O4,Oz (Ne.symm h)]
  rw[this]
  exact he t
theorem Rel.step(h:Rel C nt B e H a w){P:Map→(Nat→Prop)→Prop}:∃ρ F,HR C ρ F H w∧ER w F ρ e a.tmps∧∀(dst:Option Nat) s H' val w',(∀d,dst=some d→d<nt)→cN C ρ F H w s H' val w'→Rel C nt B (bB e dst s) H' (a.put dst val) w':=by
 obtain⟨ρ,F,h1,h2,h3,h4,h5⟩:=h
 refine⟨ρ,F,h1,h2,fun dst s H' val w' hd ⟨ρ',F',k1,k2,k3⟩=>⟨ρ',F',k2,?_,h3.trans k3,?_,?_⟩⟩
 ·cases dst with
  |none=>exact k3.er h1 h2
  |some d=>exact xc (k3.er h1 h2) (OP (hd d rfl) h4) k1
 ·cases dst with
  |none=>exact h4
  |some d=>simpa[Act.put]using h4
 ·have:(a.put dst val).defers=a.defers:=by cases dst<;>rfl
  rw[this]
  exact h5.ext k3.toExt0
theorem sd{v:Value}(h:VR w F ρ .gJ v):v=undef:=by cases h;rfl
theorem jA{t:Array Value}{i:Nat}{b:Bool}(h:t.getD i undef=.bool b):t[i]?=some (.bool b):=by
 rw[O4]at h
 cases hi:t[i]? with
 |none=>rw[hi]at h;cases h
 |some v=>rw[hi]at h;simp at h;rw[h]
theorem ml{ops:Array Oper}{t:Array Value}{j i:Nat}(ht:ops[j]?.bind (·.dst)=some i)(htv:t.getD i undef=undef):yielded ops t j=none:=by
 rw[O4]at htv
 simp only[yielded,ht,OV]
 cases hi:t[i]? with
 |none=>rfl
 |some v=>rw[hi]at htv;simp only[O2]at htv;rw[htv];rfl
theorem lV{f:FuncId}{rec:Rec}(hrec:eP C rec){ops:Array Oper}{ro:Option Nat}{n:Nat}{Q:Exit→Act→World→Prop}{R:Type}{k:Env→ae→Option R}{r:R}
 {rest:List Nat} {m:Nat} (hm:m≤ops.size) (hk:∀e' H' a' w',k e' H'=some r→Rel C nt B e' H' a' w'→wpOpsIn (WF ro) n C.P ops Q rest a' w') :
 ∀(j i:Nat) (l:List ak),i+j=m→bc (((ops.toList.take m).drop i).map (fX C.P C.cU f nt ops))=some l→∀e H a w,bM rec l e H k ()=some r→Rel C nt B e H a w→wpOpsIn (WF ro) n C.P ops Q (List.range' i j++rest) a w:=by
 intro j
 induction j with
 |zero=>
  intro i l hi hl e H a w h hrel
  rw[Qg (by simp;omega)]at hl
  simp[bc]at hl
  subst hl
  exact hk e H a w h hrel
 |succ j ih=>
  intro i l hi hl e H a w h hrel
  have hlt:i<ops.size:=by omega
  rw[List.drop_eq_getElem_cons (by simp;omega),Ov]at hl
  rw[List.getElem_take]at hl
  cases hco:fX C.P C.cU f nt ops ops.toList[i]with
  |none=>rw[hco]at hl;simp[bc]at hl
  |some o1=>
   rw[hco]at hl
   simp only[bc,NP]at hl
   obtain⟨l',hl',rfl⟩:=hl
   have ih':=ih (i+1) l' (by omega) hl'
   have hoi:ops[i]?=some ops.toList[i]:=by simp[hlt]
   generalize ops.toList[i]=o at *
   simp only[List.range'_succ,Oy,wpOpsIn,hoi]
   unfold fX at hco
   replace hco:=dV hco
   obtain⟨hdst,hco⟩:=hco
   have hd:∀d,o.dst=some d→d<nt:=fun d hd=>by
    rw[hd]at hdst;simpa using hdst
   obtain⟨ρ,F,hr,he,hput⟩:=hrel.step (P:=fun _ _=>True)
   have hgo:∀op1,op1=pY (lk C.cU f o.dst) ((lQ C.P o.op).getD .bad)→ay (ai rec e H op1) (fun r=>bM rec l' (bB e o.dst r.1) r.2 k ()) ()=some r→o.wpIn (WF ro) n C.P a w (wpOpsIn (WF ro) n C.P ops Q (List.range' (i+1) j++rest)) Q:=by
    intro op1 c0 h
    cases hs:ai rec e H op1 with
    |none=>rw[hs]at h;cases h
    |some p=>
     rw[hs]at h
     obtain⟨s,H'⟩:=p
     simp only[ay]at h
     exact gF hrec c0 hs hr he (fun val w' hdn=>ih' _ _ _ _ h (hput o.dst s H' val w' hd hdn))
   split at hco
   ·rename_i hg
    cases hco
    simp only[bM]at h
    have hw:Region.wanted o (yielded ops a.tmps)=true:=by simp[Region.wanted,hg]
    rw[hw,if_pos rfl]
    exact hgo _ rfl h
   ·rename_i j' want hg
    split at hco
    ·rename_i t ht
     cases hco
     simp only[bM]at h
     unfold eE at h
     split at h
     ·rename_i b hb
      have htv:a.tmps.getD t undef=.bool b:=by
       have:=he t
       rw[hb]at this
       exact dC this
      have hy:yielded ops a.tmps j'=some b:=by
       simp only[yielded,ht,OV,jA htv]
      unfold fork at h
      dsimp only at h
      cases hbw:(b==want)with
      |true=>
       rw[hbw]at h
       have hw:Region.wanted o (yielded ops a.tmps)=true:=by
        simp only[Region.wanted,hg,hy];simpa using hbw
       rw[hw,if_pos rfl]
       exact hgo _ rfl h
      |false=>
       rw[hbw]at h
       have hw:¬Region.wanted o (yielded ops a.tmps)=true:=by
        simp only[Region.wanted,hg,hy];simpa using hbw
       rw[if_neg hw]
       exact⟨fun _ _=>trivial,ih' _ _ _ _ h (hput o.dst .gJ H undef w hd (cN.same hr .gJ))⟩
     ·rename_i hb
      have htv:a.tmps.getD t undef=undef:=by
       have:=he t
       rw[hb]at this
       exact sd this
      have hy:yielded ops a.tmps j'=none:=by
       rw[O4]at htv
       simp only[yielded,ht,OV]
       cases hi:a.tmps[t]? with
       |none=>rfl
       |some v=>rw[hi]at htv;simp only[O2]at htv;rw[htv];rfl
      have hw:¬Region.wanted o (yielded ops a.tmps)=true:=by
       simp only[Region.wanted,hg,hy];simp
      rw[if_neg hw]
      exact⟨fun _ _=>trivial,ih' _ _ _ _ h (hput o.dst .gJ H undef w hd (cN.same hr .gJ))⟩
     ·cases h
    ·cases hco
theorem uX{f:FuncId}{rec:Rec}(hrec:eP C rec){ops:Array Oper}{ro:Option Nat}{n:Nat}{Q:Exit→Act→World→Prop}{R:Type}{k:Env→ae→Option R}{r:R}
 (hk:∀e' H' a' w',k e' H'=some r→Rel C nt B e' H' a' w'→Q .normal a' w') :
 ∀(j i:Nat) (l:List ak),i+j=ops.size→bc ((ops.toList.drop i).map (fX C.P C.cU f nt ops))=some l→∀e H a w,bM rec l e H k ()=some r→Rel C nt B e H a w→wpOpsIn (WF ro) n C.P ops Q (List.range' i j) a w:=by
 intro j i l hi hl e H a w h hrel
 have:=lV hrec (f:=f) (ops:=ops) (ro:=ro) (n:=n) (Q:=Q) (rest:=[]) (m:=ops.size) (NV _) (k:=k) (r:=r) (fun e' H' a' w' h hr=>hk e' H' a' w' h hr) j i l hi (by
  rw[OR (by simp)];exact hl) e H a w h hrel
 simpa using this
end
end
section
def xQ:mJ→Exit
 | .normal=>.normal
 | .exit id=>.exit id
 | .ret=>.ret
section
variable{C:Ctx}{rec:Rec}{f:FuncId}{nt:Nat}
def fm(C:Ctx)(rec:Rec)(nt:Nat)(c:Code)(c1:bO):Prop:=
 ∀(ro:Option Nat) (n:Nat) (B:iL) (Q:Exit→Act→World→Prop) (R:Type) (k:mJ→Env→ae→Option R) (r:R) (e:Env) (H:ae) (a:Act) (w:World),
  (∀l,ro=some l→∃q,B.w.heap[l]?=some (.loop q))→run rec c1 e H k ()=some r→(∀x e' H' a' w',k x e' H'=some r→Rel C nt B e' H' a' w'→Q (xQ x) a' w')→Rel C nt B e H a w→c.wpIn (WF ro) n C.P Q a w
theorem u9{B:iL}{e:Env}{H H1:ae}{a:Act}{w:World}{t:Nat}{v:SV}(h:zy H (get e t)=some (v,H1))(hr:Rel C nt B e H a w):Rel C nt B ((t,v)::e) H1 a w:=by
 obtain⟨ρ,F,h1,h2,h3,h4,h5⟩:=hr
 have put:∀{w:World} {F:Nat→Prop} {ρ:Map},ER w F ρ e a.tmps→VR w F ρ v (a.tmps.getD t undef)→ER w F ρ ((t,v)::e) a.tmps:=fun he hv i=>by
  simp only[get]
  cases hi:(i==t)with
  |true=>
   have:i=t:=by simpa using hi
   subst this
   exact hv
  |false=>exact he i
 unfold zy at h
 split at h
 ·rename_i b bU off n hbe
  split at h
  ·rename_i ver' z L ex hb
   replace h:=af h
   obtain⟨hc,h⟩:=h
   simp only[NX,O1,NY]at hc
   obtain⟨⟨rfl,hle⟩,h0⟩:=hc
   simp only[NP,N3]at h
   obtain⟨H2,hH,rfl,rfl⟩:=h
   obtain⟨l,hl,hbr⟩:=h1.live b _ hb rfl
   obtain⟨p1,p2⟩:=h1.IB hH hb rfl hl (fun _ _ _ h=>by cases h)
   have hv:=h2 t
   rw[hbe]at hv
   exact⟨ρ,_,p1,put (p2.er h1 h2) (tY h1 hv hb hle h0 hl (fun _ h=>.inl h) (fun h=>.inr ⟨h,rfl⟩)),h3.trans p2,h4,h5.ext p2.toExt0⟩
  ·cases h
 ·rename_i z L f hbe
  cases h
  have hv:=h2 t
  rw[hbe]at hv
  exact⟨ρ,F,h1,put h2 hv,h3,h4,h5⟩
 ·cases h
theorem mY{c:Code}{c1:bO}(h:fm C rec nt c c1):∀ts,fm C rec nt c (mH c1 ts)
 |[]=>h
 |t::ts=>by
  intro ro n B Q R k r e H a w hro hrun hk hrel
  simp only[mH,run]at hrun
  unfold ay at hrun
  split at hrun
  ·rename_i p hp
   exact mY h ts ro n B Q R k r _ _ a w hro hrun hk (u9 hp hrel)
  ·cases hrun
end
end
section
section
variable{C:Ctx}{rec:Rec}{f:FuncId}{nt:Nat}
theorem sQ{f:Env×ae→Option Out}{s:Env×ae}{o:Out}(h:iG f s=some o):∃m,cJ f m s=some o:=by
 unfold iG at h
 split at h
 ·exact⟨_,h⟩
 ·cases h
theorem p7{B:iL}{e:Env}{H H1:ae}{a:Act}{w:World}{b z j:Nat}{cs:List SV}{z':Nat}(hg:az H b=some (.box cs))(hj:cs[j]?=some (.aB z' [] true))
 (hB:bT (aV H (.arr 0 z [] false)) b (.box (cs.set j (.bG H.bl.length 0 0 0))) (H.bl.length+1)=some H1) (hr:Rel C nt B e H a w):Rel C nt B e H1 a w:=by
 obtain⟨ρ,F,h1,h2,h3,h4,h5⟩:=hr
 obtain⟨p1,p2⟩:=h1.push (w':=w) (NV _) (fun _ _=>rfl) (.arr 0 z [] false) ⟨0,0,0,z,0,true,true⟩ (fun h=>by cases h) ⟨rfl,rfl,rfl,by simp,by simp,by simp,fun _=>rfl,fun h=>by cases h⟩
 have hb:H.bl[b]?=some (.box cs):=hg
 have hlt:=(NT.1 hb).1
 obtain⟨l,hl,_⟩:=h1.live b _ hb rfl
 have hb1:(aV H (.arr 0 z [] false)).bl[b]?=some (.box cs):=by
  simp only[aV];rw[On hlt];exact hb
 have hl1:(ρ.put H.bl.length ⟨0,0,0,z,0,true,true⟩) b=some l:=by rw[Map.aA _ _ (PB hlt)];exact hl
 have hps:(ρ.put H.bl.length ⟨0,0,0,z,0,true,true⟩).put b l=ρ.put H.bl.length ⟨0,0,0,z,0,true,true⟩:=ba hl1
 have key:∀ρ2:Map,ρ2 H.bl.length=some ⟨0,0,0,z,0,true,true⟩→BR C w F ρ2 l (.box cs)→BR C w F ρ2 l (.box (cs.set j (.bG H.bl.length 0 0 0))):=by
  intro ρ2 hρ ⟨g1,g2,g3,g4,g5,vs',ty,fz,g6,g7,g8,g9⟩
  refine⟨g1,g2,g3,g4,by rw[NZ];exact g5,vs',ty,fz,g6,g7,by rw[NZ];exact g8,fun i c hi=>?_⟩
  by_cases e:j=i
  ·subst e
   have hjl:=(NT.1 hj).1
   simp only[Pd hjl,N1]at hi
   subst hi
   obtain⟨val,k1,k2,k3⟩:=g9 _ _ hj
   refine⟨val,k1,?_,rfl⟩
   cases k2 with
   |aB V hcap hfull hz hat h1' hv'=>
    have hc:=hfull rfl
    simp only[Oc]at hc
    subst hc
    exact .bG hρ (NV _) rfl (fun _=>⟨fun _=>⟨_,rfl,rfl,rfl⟩,fun h=>by cases h⟩)
  ·rw[N7 e]at hi
   exact g9 i c hi
 obtain⟨q1,q2⟩:=p1.set (w':=w) (l':=l) hB hb1 rfl hl1 (NV _) (fun _ _ _=>rfl) (fun h=>.inl ⟨h,rfl⟩) (.inl rfl)
  (fun _=>by
   rw[hps]
   obtain⟨l2,k1,k2⟩:=p1.live b _ hb1 rfl
   rw[hl1]at k1;cases k1
   exact key _ (Map.aQ _ _ _) k2)
  (fun _ N hN hbN hbr=>by
   rw[hps]
   exact key _ (by unfold Map.cut;rw[if_pos (by omega)];exact Map.aQ _ _ _) hbr)
 rw[hps]at q1 q2
 have hE:=p2.trans q2
 exact⟨_,F,q1,hE.er h1 h2,h3.trans hE,h4,h5.ext hE.toExt0⟩
theorem kx{B:iL}{a:Act}{w:World}:∀(vs:List (Nat×Nat)) {e e':Env} {H H':ae},eC vs e H=some (e',H')→Rel C nt B e H a w→Rel C nt B e' H' a w
 |[],e,e',H,H',h,hr=>by cases h;exact hr
 |(t,z)::vs,e,e',H,H',h,hr=>by
  simp only[eC]at h
  split at h
  ·rename_i z' hbe
   refine kx vs h ?_
   obtain⟨ρ,F,h1,h2,h3,h4,h5⟩:=hr
   have hv:=h2 t
   rw[hbe]at hv
   obtain⟨p1,p2⟩:=h1.push (w':=w) (NV _) (fun _ _=>rfl) (.arr 0 z [] false) ⟨0,0,0,z,0,true,true⟩ (fun h=>by cases h) ⟨rfl,rfl,rfl,by simp,by simp,by simp,fun _=>rfl,fun h=>by cases h⟩
   refine⟨_,F,p1,?_,h3.trans p2,h4,h5.ext p2.toExt0⟩
   intro i
   simp only[get]
   cases hi:(i==t)with
   |true=>
    have:i=t:=by simpa using hi
    subst this
    simp only[N6]
    generalize a.tmps.getD i undef=val at hv
    cases hv with
    |aB V hcap hfull hz hat h1' hv'=>
     have hc:=hfull rfl
     simp only[Oc]at hc
     subst hc
     exact .bG (Map.aQ _ _ _) (NV _) rfl (fun _=>⟨fun _=>⟨_,rfl,rfl,rfl⟩,fun h=>by cases h⟩)
   |false=>exact p2.er h1 h2 i
  ·rename_i b v i o hbe
   simp only[NS]at h
   obtain⟨H1,hB,h⟩:=h
   refine kx vs h ?_
   unfold nO at hB
   split at hB
   ·rename_i z' hg
    exact p7 (j:=0) hg rfl (by simpa using hB) hr
   ·rename_i cs _ hg
    cases hj:cs[z/1000]? with
    |none=>rw[hj]at hB;cases hB
    |some y=>
     rw[hj]at hB
     unfold s3 at hB
     split at hB
     ·rename_i heq
      cases heq
      exact p7 hg hj hB hr
     ·cases hB
   ·cases hB
  ·rename_i z' x L' hbe
   refine kx vs h ?_
   obtain⟨ρ,F,h1,h2,h3,h4,h5⟩:=hr
   obtain⟨p1,p2⟩:=h1.push (w':=w) (NV _) (fun _ _=>rfl) (.arr 0 z [] false) ⟨0,0,0,z,0,true,true⟩ (fun h=>by cases h) ⟨rfl,rfl,rfl,by simp,by simp,by simp,fun _=>rfl,fun h=>by cases h⟩
   exact⟨_,F,p1,p2.er h1 h2,h3.trans p2,h4,h5.ext p2.toExt0⟩
  ·cases h
theorem za{B:iL}{N:Nat}{e e':Env}{H H':ae}{a:Act}{w:World}{t h z b v n:Nat}(hN:B.H.bl.length=N)(hr0:HR C B.ρ B.F B.H B.w)(hb:N≤b)(hh:h<N)(hg:get e t=.bG b v 0 n)
 (hm:nh H t h z b v n e (az H h) (az H b)=some (e',H')) (hr:Rel C nt B e H a w):Rel C nt B e' H' a w:=by
 unfold nh at hm
 split at hm
 ·rename_i o1 o2 z0 ex0 v' z' L ex k1 k2
  replace hm:=af hm
  obtain⟨hc,hm⟩:=hm
  simp only[N1,N3]at hm
  obtain⟨rfl,rfl⟩:=hm
  simp only[NX,O1,NY,Ot,Pr]at hc
  obtain⟨⟨⟨⟨⟨hz,hv⟩,hn⟩,hro⟩,hne⟩,hrf⟩:=hc
  subst hv
  subst hz
  have k1:H.bl[h]?=some (.arr 0 z0 [] ex0):=k1
  have k2:H.bl[b]?=some (.arr v z' L ex):=k2
  obtain⟨ρ,F,h1,h2,h3,h4,h5⟩:=hr
  obtain⟨lh,hlh,hbh⟩:=h1.live h _ k1 rfl
  obtain⟨lb,hlb,hbb⟩:=h1.live b _ k2 rfl
  obtain⟨b1,b2,b3,b4,b5,b6,b7,b8⟩:=hbb
  have hhv:lh.bU=0:=hbh.2.1
  have hha:lh.arr=true:=hbh.1
  have hhl:=(NT.1 k1).1
  have hbl:=(NT.1 k2).1
  let l':Loc:={lb with bU:=v+1}
  have hle:ρ.le (ρ.put h l'):=fun c l hl=>by
   by_cases e:c=h
   ·subst e
    rw[hlh]at hl;cases hl
    exact⟨l',Map.aQ _ _ _,.inr ⟨hha,by show lh.bU<v+1;omega⟩⟩
   ·exact⟨l,by rw[Map.aA _ _ e];exact hl,.inl rfl⟩
  have hgh:((H.bl.set h (.arr (v+1) z' L ex)).set b .dead)[h]?=some (.arr (v+1) z' L ex):=by
   rw[N7 (Ne.symm hne)];simp[hhl]
  have hgb:((H.bl.set h (.arr (v+1) z' L ex)).set b .dead)[b]?=some .dead:=by simp[hbl]
  have hgo:∀c,c≠h→c≠b→((H.bl.set h (.arr (v+1) z' L ex)).set b .dead)[c]?=H.bl[c]?:=fun c e1 e2=>by
   rw[N7 (Ne.symm e2),N7 (Ne.symm e1)]
  have hbr:∀ρ1 ρ2:Map,(∀c v,VR w F ρ1 c v→c.refs=0→VR w F ρ2 c v)→BR C w F ρ1 lb (.arr v z' L ex)→BR C w F ρ2 l' (.arr (v+1) z' L ex):=by
   intro ρ1 ρ2 hvr ⟨c1,c2,c3,c4,c5,c6,c7,c8⟩
   refine⟨c1,rfl,c3,c4,c5,c6,c7,fun hv=>?_⟩
   obtain⟨vs,ty,fz,d1,d2,d3,d4⟩:=c8 hv
   refine⟨vs,ty,fz,d1,d2,d3,fun i cs hi j c hj=>?_⟩
   obtain⟨val,e1,e2,e3⟩:=d4 i cs hi j c hj
   obtain⟨m,hm⟩:=OD (QD.2 ⟨cs,Ok hi,Ok hj⟩)
   have:=dT (PF hrf) m c hm
   exact⟨val,e1,hvr c val e2 (by omega),e3⟩
  have own':∀c l,Own (ρ.put h l') {H with bl:=(H.bl.set h (.arr (v+1) z' L ex)).set b .dead} c l→(c=h∧l=l'∧Own ρ H b lb)∨(c≠h∧c≠b∧Own ρ H c l):=by
   intro c l ⟨⟨x,g1,g2⟩,g3,g4⟩
   simp only at g1
   by_cases e1:c=h
   ·subst e1
    rw[Map.aQ]at g3;cases g3
    exact .inl ⟨rfl,rfl,⟨_,k2,rfl⟩,hlb,g4⟩
   ·by_cases e2:c=b
    ·subst e2
     rw[hgb]at g1;cases g1;cases g2
    ·rw[hgo c e1 e2]at g1
     rw[Map.aA _ _ e1]at g3
     exact .inr ⟨e1,e2,⟨x,g1,g2⟩,g3,g4⟩
  have bout:∀l,¬Own B.ρ B.H b l:=fun l ho=>by have:=hr0.gY b l ho.2.1;omega
  refine⟨ρ.put h l',F,⟨fun c l hc=>?_,fun c x hc hx=>?_,fun c c' l1 l2 o1 o2 he=>?_,fun c l o=>?_,h1.fO⟩,fun i=>?_,⟨⟨fun c l hl=>?_,h3.fO,h3.new,h3.frame,h3.size,fun c l o=>?_,h3.ro,h3.bC,fun M hM hcl h0 c x l hcM hx hxl hl=>?_,h3.lp,by
   simp only[NZ];exact h3.ln,h3.out⟩,fun c l hl=>?_⟩,h4,h5.D3 (fun c l o=>?_)⟩
  ·simp only[NZ]
   by_cases e:c=h
   ·subst e;exact hhl
   ·rw[Map.aA _ _ e]at hc;exact h1.gY c l hc
  ·simp only at hc
   by_cases e1:c=h
   ·subst e1
    rw[hgh]at hc;cases hc
    exact⟨l',Map.aQ _ _ _,hbr ρ _ (fun c v hv _=>hv.mono (fun _ _=>rfl) (fun _ h=>h) hle) ⟨b1,b2,b3,b4,b5,b6,b7,b8⟩⟩
   ·by_cases e2:c=b
    ·subst e2;rw[hgb]at hc;cases hc;cases hx
    ·rw[hgo c e1 e2]at hc
     obtain⟨l,g1,g2⟩:=h1.live c x hc hx
     exact⟨l,by rw[Map.aA _ _ e1];exact g1,g2.mono (fun _ _=>rfl) (fun _ h=>h) hle (fun _=>rfl)⟩
  ·rcases own' c l1 o1 with⟨e1,f1,p1⟩|⟨e1,e2,p1⟩<;>rcases own' c' l2 o2 with⟨e3,f3,p3⟩|⟨e3,e4,p3⟩
   ·rw[e1,e3]
   ·subst f1
    exact absurd (h1.apart c' b l2 lb p3 p1 he.symm) e4
   ·subst f3
    exact absurd (h1.apart c b l1 lb p1 p3 he) e2
   ·exact h1.apart c c' l1 l2 p1 p3 he
  ·rcases own' c l o with⟨e1,f1,p1⟩|⟨e1,e2,p1⟩
   ·subst f1;exact h1.own b lb p1
   ·exact h1.own c l p1
  ·simp only[get]
   cases hi:(i==t)with
   |true=>
    have:i=t:=by simpa using hi
    subst this
    have hv:=h2 i
    rw[hg]at hv
    simp only[N6]
    generalize a.tmps.getD i undef=val at hv
    cases hv with
    |bG h' hv' hc' ha'=>
     rw[hlb]at h';cases h'
     exact .bG (Map.aQ _ _ _) (NV _) hc' (fun _=>ha' b2.symm)
   |false=>exact(h2 i).mono (fun _ _=>rfl) (fun _ h=>h) hle
  ·obtain⟨l1,g1,g2⟩:=h3.map c l hl
   by_cases e:c=h
   ·subst e
    rw[hlh]at g1;cases g1
    refine⟨l',Map.aQ _ _ _,.inr ⟨h3.ro▸hro,?_,?_⟩⟩
    ·rcases g2 with rfl|⟨_,q,_⟩
     ·exact hha
     ·exact q
    ·rcases g2 with rfl|⟨_,_,q⟩
     ·show lh.bU<v+1;omega
     ·omega
   ·exact⟨l1,by rw[Map.aA _ _ e];exact g1,g2⟩
  ·rcases own' c l o with⟨e1,f1,p1⟩|⟨e1,e2,p1⟩
   ·subst f1
    rcases h3.old b lb p1 with q|⟨l0,q,_⟩
    ·exact .inl q
    ·exact absurd q (bout l0)
   ·exact h3.old c l p1
  ·simp only[NZ]at hM
   simp only at hx
   by_cases e1:c=h
   ·subst e1
    rw[hgh]at hx;cases hx
    rw[Map.aQ]at hl;cases hl
    exact hbr ρ _ (fun c v hv h0=>(hv.mono (fun _ _=>rfl) (fun _ h=>h) hle).cut M (by omega)) ⟨b1,b2,b3,b4,b5,b6,b7,b8⟩
   ·by_cases e2:c=b
    ·subst e2;rw[hgb]at hx;cases hx;cases hxl
    ·rw[hgo c e1 e2]at hx
     rw[Map.aA _ _ e1]at hl
     refine(h3.inv M hM hcl h0 c x l hcM hx hxl hl).mono (fun _ _=>rfl) (fun _ h=>h) (fun c1 l1 g=>?_) (fun _=>rfl)
     unfold Map.cut at g⊢
     split at g
     ·rename_i g2
      rw[if_pos g2]
      exact hle c1 l1 g
     ·cases g
  ·by_cases e:c=h
   ·subst e
    exact h3.nd c lh hlh
   ·rw[Map.aA _ _ e]at hl;exact h3.nd c l hl
  ·rcases own' c l o with⟨e1,f1,p1⟩|⟨e1,e2,p1⟩
   ·subst f1;exact⟨b,lb,p1,rfl⟩
   ·exact⟨c,l,p1,rfl⟩
 ·cases hm
theorem jl{B:iL}{N:Nat}{a:Act}{w:World}(hN:B.H.bl.length=N)(hr0:HR C B.ρ B.F B.H B.w):∀(vs:List (Nat×Nat)) (h:Nat) {e e':Env} {H H':ae},cV vs h N e H=some (e',H')→Rel C nt B e H a w→Rel C nt B e' H' a w
 |[],h,e,e',H,H',hm,hr=>by cases hm;exact hr
 |(t,z)::vs,h,e,e',H,H',hm,hr=>by
  simp only[cV]at hm
  split at hm
  ·rename_i b v n hg
   cases hc:(decide (N≤b)&&decide (h<N))with
   |true=>
    rw[hc]at hm
    simp only[N6,NS]at hm
    obtain⟨s,hs,hm⟩:=hm
    simp only[NX,NY]at hc
    exact jl hN hr0 vs (h+1) hm (za hN hr0 hc.1 hc.2 hg hs hr)
   |false=>
    rw[hc]at hm
    exact jl hN hr0 vs (h+1) hm hr
  ·exact jl hN hr0 vs (h+1) hm hr
theorem Ext.BF{ρ ρ':Map}{F F':Nat→Prop}{H H':ae}{w w':World}(h:Ext C ρ F {H with bC:=[]} w ρ' F' H' w'):Ext C ρ F H w ρ' F' {H' with bC:=H.bC++H'.bC} w':=
 ⟨⟨h.map,h.fO,h.new,h.frame,h.size,h.old,h.ro,fun p hp=>Pj _ hp,fun N hN hc h0=>h.inv N hN (fun p hp=>hc p (P6 _ hp)) h0,h.lp,h.ln,h.out⟩,h.nd⟩
theorem gO(e:Env)(t:Nat):∀l:List Nat,get (eo l e) t=bif l.contains t then get e t else .undef
 |[]=>rfl
 |i::l=>by
  have ih:=gO e t l
  unfold eo at ih⊢
  simp only[Ov,get,List.contains_cons,ih]
  cases h:(t==i)with
  |true=>
   have:t=i:=by simpa using h
   subst this;simp
  |false=>simp
theorem oA(e:Env)(N:Nat):∀l:List Nat,SV.refs.au ((eo l e).map (·.2))≤N→∀t∈l,(get e t).refs≤N
 |[],_,t,ht=>by cases ht
 |i::l,h,t,ht=>by
  unfold eo at h
  simp only[Ov,SV.refs.au]at h
  rcases O9.1 ht with rfl|ht
  ·omega
  ·exact oA e N l (by unfold eo;omega) t ht
theorem yJ{B:iL}{N:Nat}{p:dj}{e e':Env}{H H':ae}{a:Act}{w:World}(hN:B.H.bl.length=N)(hr0:HR C B.ρ B.F B.H B.w)(h:eF p N B.H (e,H)=some (e',H'))(hr:Rel C nt B e H a w) :
 Rel C nt B e' H' a w:=by
 unfold eF at h
 simp only[NS]at h
 obtain⟨⟨e2,H2⟩,hre,h⟩:=h
 replace hr:=jl hN hr0 _ _ hre hr
 unfold rb at h
 cases hk:qF p.live with
 |true=>
  rw[hk]at h
  simp only[N6,N1,N3]at h
  obtain⟨rfl,rfl⟩:=h
  obtain⟨ρ,F,h1,h2,h3,h4,h5⟩:=hr
  refine⟨ρ,F,h1,fun t=>?_,h3,h4,h5⟩
  rw[gO]
  cases hm:p.live.tail.contains t with
  |false=>exact .undef _
  |true=>exact h2 t
 |false=>
 rw[hk]at h
 simp only[Oa]at h
 replace h:=af h
 obtain⟨hc,h⟩:=h
 simp only[NP,N3]at h
 obtain⟨H1,ht,rfl,rfl⟩:=h
 obtain⟨ρ,F,h1,h2,h3,h4,h5⟩:=hr
 have hts:=jR ht
 obtain⟨p1,p2⟩:=hr0.du hN h1 h3 hts
 refine⟨_,F,p1,fun t=>?_,p2,h4,h5.less (s9 hts.bl)⟩
 rw[gO]
 cases hm:p.live.contains t with
 |false=>exact .undef _
 |true=>
  simp only[N6]
  exact(h2 t).cut N (oA e2 N p.live (by simpa using hc) t (by simpa using hm))
theorem y7{c:Code}{c1:bO}{p:dj}(h:fm C rec nt c c1):fm C rec nt (.loop c) (.loop p c1):=by
 intro ro n B Q R k r e H a w hro hrun hk hrel
 simp only[run]at hrun
 unfold ay at hrun
 split at hrun
 rotate_left
 ·cases hrun
 rename_i s hs
 dsimp only at hrun
 split at hrun
 rotate_left
 ·cases hrun
 rename_i o ho
 obtain⟨e1,H1⟩:=s
 obtain⟨ρ1,F1,q1,q2,q3,q4,q5⟩:=kx _ hs hrel
 obtain⟨m,hm⟩:=sQ ho
 let B1:iL:=⟨ρ1,F1,{H1 with bC:=[]},w,B.lo⟩
 have hB1:HR C B1.ρ B1.F B1.H B1.w:=⟨q1.gY,q1.live,q1.apart,q1.own,q1.fO⟩
 have hro1:∀l,ro=some l→∃q,B1.w.heap[l]?=some (.loop q):=fun l hl=>let⟨q,hq⟩:=hro l hl;q3.lp l q hq
 have back:∀e' H' a' w',Rel C nt B1 e' H' a' w'→Rel C nt B e' {H' with bC:=H1.bC++H'.bC} a' w':=by
  intro e' H' a' w' ⟨ρ',F',k1,k2,k3,k4,k5⟩
  exact⟨ρ',F',⟨k1.gY,k1.live,k1.apart,k1.own,k1.fO⟩,k2,q3.trans (Ext.BF k3),k4,k5⟩
 refine wpIn_loop_rounds m ?_
 have key:∀(m:Nat) (e:Env) (H:ae) (a:Act) (w:World),cJ (fun s'=>(eF p H1.bl.length {H1 with bC:=[]} s').bind fun s'=>run rec c1 s'.1 s'.2 (fun x e H=>some (x,e,H)) ()) m (e,H)=some o→
  Rel C nt B1 e H a w→Code.roundsIn (WF ro) n C.P c Q m a w:=by
  intro m
  induction m with
  |zero=>intro e H a w hi;cases hi
  |succ m ih=>
   intro e H a w hi hr
   simp only[cJ]at hi
   cases hh:eF p H1.bl.length {H1 with bC:=[]} (e,H)with
   |none=>rw[hh]at hi;simp at hi
   |some s2=>
    rw[hh]at hi
    obtain⟨e',H'⟩:=s2
    simp only[OV]at hi
    cases hrn:run rec c1 e' H' (fun x e H=>some (x,e,H)) ()with
    |none=>rw[hrn]at hi;simp at hi
    |some out=>
     rw[hrn]at hi
     have hr':Rel C nt B1 e' H' a w:=yJ (B:=B1) rfl hB1 hh hr
     refine h ro n B1 _ _ (fun x e H=>some (x,e,H)) out e' H' a w hro1 hrn (fun x e2 H2 a2 w2 hx hr2=>?_) hr'
     cases hx
     cases x with
     |normal=>exact ih e2 H2 a2 w2 hi hr2
     |exit id=>
      simp only[N1]at hi
      subst hi
      exact hk (.exit id) _ _ _ _ hrun (back _ _ _ _ hr2)
     |ret=>
      simp only[N1]at hi
      subst hi
      exact hk .ret _ _ _ _ hrun (back _ _ _ _ hr2)
 exact key m e1 {H1 with bC:=[]} a w hm ⟨ρ1,F1,hB1,q2,Ext.refl _ _ _ _,q4,q5⟩
theorem xw{P:Program}{w:World}{ro:Option Nat}(hro:∀l,ro=some l→∃q,w.heap[l]?=some (.loop q))(fn:FuncId)(tmps:Array Value)(ps:Array Tmp)(x y:Code) :
 ∃l mark w1 dn,(Instr.enterLoop fn tmps ps x y ro).run P w=.ok (l,mark) w1∧w.heap.size≤l∧l<w1.heap.size∧
  w1.heap[l]?=some (.loop {state:=.ready,pending:=none,fn,tmps,params:=ps,assign:=x,body:=y,defers:=dn})∧(∀B,B<w.heap.size→w1.heap[B]?=w.heap[B]?)∧w.heap.size≤w1.heap.size∧(w1.os=w.os∧w1.output=w.output)∧
  (mark=[]∨∃D,mark=[{target:=.collected D,args:= #[]}]∧w.heap.size≤D∧D≠l∧w1.heap[D]?=some (.deferred (some []))):=by
 have hal:∀(w:World) (o:Obj) (B:Nat),B<w.heap.size→(w.alloc o).heap[B]?=w.heap[B]?:=by
  intro w o B hB
  show(w.heap.push o)[B]?=_
  rw[Pp]
  split
  ·omega
  ·rfl
 cases ro with
 |none=>
  refine⟨_,_,_,w.heap.size,run_enterLoop_outer fn tmps ps x y,by omega,by simp,?_,fun B hB=>?_,by simp;omega,⟨rfl,rfl⟩,.inr ⟨w.heap.size,rfl,NV _,by omega,?_⟩⟩
  ·have:=World.alloc_heap_new (w.alloc (.deferred (some []))) (.loop {state:=.ready,pending:=none,fn,tmps,params:=ps,assign:=x,body:=y,defers:=w.heap.size})
   simpa using this
  ·rw[hal _ _ _ (by simp;omega),hal _ _ _ hB]
  ·rw[hal _ _ _ (by simp)]
   exact World.alloc_heap_new _ _
 |some l0=>
  obtain⟨q,hq⟩:=hro l0 rfl
  exact⟨_,_,_,q.defers,run_enterLoop_inner hq fn tmps ps x y,NV _,by simp,World.alloc_heap_new _ _,fun B hB=>hal _ _ _ hB,by simp,⟨rfl,rfl⟩,.inl rfl⟩
theorem vd{g:Operand}{g':bj}{ps:Array Tmp}{x y:Code}{x1 y1:bO}(hrec:eP C rec)(hg:aG g=some g')(hps:∀t∈ps.toList,t<nt)(hx:dw C.P C.cU f nt x=some x1)(hy:dw C.P C.cU f nt y=some y1) :
 fm C rec nt (.rangeFunc g ps x y) (.nB g' ps.toList x1 y1):=by
 intro ro n B Q R k r e H a w hro hrun hk hrel
 simp only[run]at hrun
 unfold ay at hrun
 split at hrun
 rotate_left
 ·cases hrun
 rename_i p hp
 obtain⟨s,H2⟩:=p
 dsimp only at hrun
 split at hrun
 rotate_left
 ·cases hrun
 rename_i q0 st pend hb2
 obtain⟨hst,H3,hH3,hrun⟩:st≠.busy∧∃H3,bT H2 H.bl.length (.loop q0 .exhausted pend) 0=some H3∧k pend e H3=some r:=by
  split at hrun
  ·cases hrun
  ·rename_i hne
   split at hrun
   ·rename_i H3 hH3
    exact⟨hne,H3,hH3,hrun⟩
   ·cases hrun
 obtain⟨ρ,F,q1,q2,q3,q4,q5⟩:=hrel
 have hgv:=ar hg q2
 unfold pb at hp
 split at hp
 rotate_left
 ·cases hp
 rename_i f' cs hfn
 rw[hfn]at hgv
 generalize hgval:a.eval g=gv at *
 cases hgv with
 |fn hn2 hv2=>
  rename_i vs
  refine wpIn_rangeFunc (fun fn _=>?_)
  obtain⟨l,mark,w1,dn,henter,hl0,hl1,hl2,hl3,hl4,hl5,hmark⟩:=xw (P:=C.P) (w:=w) (ro:=ro) (fun l hl=>let⟨q,hq⟩:=hro l hl;q3.lp l q hq) fn a.tmps ps x y
  have hkp:cK F w w1:=fun B hB=>hl3 B (q1.fO B hB)
  have hle:ρ.le (ρ.put H.bl.length ⟨l,0,0,0,0,false,false⟩):=fun b l' h=>⟨l',by rw[Map.aA _ _ (PB (q1.gY b l' h))];exact h,.inl rfl⟩
  obtain⟨p1,p2⟩:=q1.push hl4 hl3 (.loop ⟨e,ps.toList,x1,y1⟩ .ready .normal) ⟨l,0,0,0,0,false,false⟩ (fun _=>⟨hl0,hl1⟩)
   ⟨rfl,rfl,_,hl2,rfl,rfl,rfl,⟨f,nt,q4,hps,hx,hy⟩,fun t=>(q2 t).mono hkp (fun _ h=>h) hle⟩ hl5
  have hargs:fp w1 F (ρ.put H.bl.length ⟨l,0,0,0,0,false,false⟩) ([.lT H.bl.length]++cs) (#[.func (.yield l) #[] #[]]++vs):=by
   refine jg ⟨rfl,fun j c v hc hv=>?_⟩ ⟨hn2,fun j c v hc hv=>(hv2 j c v hc hv).mono hkp (fun _ h=>h) hle⟩
   cases j with
   |zero=>
    simp at hc hv
    subst hc;subst hv
    exact .lT (l:=⟨l,0,0,0,0,false,false⟩) (Map.aQ _ _ _) rfl
   |succ j=>simp at hc
  obtain⟨c1,c2⟩:=hrec.call _ _ _ _ _ hp _ F w1 _ p1 hargs
  refine⟨l,mark,w1,{target:=.fn (.func f') vs,args:= #[]++ #[.func (.yield l) #[] #[]]},w1,f',#[.func (.yield l) #[] #[]]++vs,w1,henter,?_,fun _ _=>trivial,?_,fun h=>by simp at h,?_⟩
  ·have hc:a.eval (.const (.func (.yield l) #[] #[]))=.func (.yield l) #[] #[]:=rfl
   unfold resolve
   simp only[rangeCall,hgval,Deferred.ofValue,QE,Ov,PG,hc]
   rfl
  ·simpa[invoke]using c1
  ·refine CallsIn.mono (c2 _) (fun e' w3 he'=>?_)
   obtain⟨val,rfl,ρ3,F3,_,d2,d3⟩:=he'
   obtain⟨l3,m1,m2⟩:=d3.map H.bl.length _ (Map.aQ _ _ _)
   have m3:l3=⟨l,0,0,0,0,false,false⟩:=by
    rcases m2 with h|⟨_,h,_⟩
    ·exact h
    ·cases h
   subst m3
   obtain⟨l4,m4,m5⟩:=d2.live _ _ hb2 rfl
   rw[m1]at m4;cases m4
   obtain⟨_,_,q,g1,g2,g3,g4,g5,g6⟩:=id m5
   have hlt:l<w3.heap.size:=(N8.1 g1).1
   have hown:Own ρ3 H2 H.bl.length ⟨l,0,0,0,0,false,false⟩:=⟨⟨_,hb2,rfl⟩,m1,rfl⟩
   have hkeep:∀Bk,Bk≠l→(w3.putObj l (.loop {q with state:=.exhausted})).heap[Bk]?=w3.heap[Bk]?:=fun Bk hne=>World.putObj_heap_other hne
   have hkk:cK F3 w3 (w3.putObj l (.loop {q with state:=.exhausted})):=fun Bk hB=>hkeep Bk (fun e=>(d2.own _ _ hown).1 (e▸hB))
   obtain⟨z1,z2⟩:=d2.set (w':=w3.putObj l (.loop {q with state:=.exhausted})) (l':=⟨l,0,0,0,0,false,false⟩) hH3 hb2 rfl m1 (by simp) (fun Bk _ h=>hkeep Bk (h rfl)) (fun h=>.inl ⟨h,rfl⟩) (.inl rfl)
    (fun _=>by
     rw[ba m1]
     exact⟨rfl,rfl,{q with state:=.exhausted},World.putObj_heap_same hlt,rfl,g3,g4,g5,fun t=>(g6 t).mono hkk (fun _ h=>h) (Map.le_refl _)⟩)
    (fun _ N _ _ hbr=>by
     rw[ba m1]
     obtain⟨_,_,q',b1,b2,b3,b4,b5,b6⟩:=hbr
     rw[g1]at b1;cases b1
     exact⟨rfl,rfl,{q with state:=.exhausted},World.putObj_heap_same hlt,rfl,b3,b4,b5,fun t=>(b6 t).mono hkk (fun _ h=>h) (Map.le_refl _)⟩)
    (fun _=>⟨_,_,_,rfl⟩)
   rw[ba m1]at z1 z2
   have hxt:=p2.trans (d3.trans z2)
   have hm1:Marks (ρ.put H.bl.length ⟨l,0,0,0,0,false,false⟩) F (aV H (.loop ⟨e,ps.toList,x1,y1⟩ .ready .normal)) w1 B.lo (mark++a.defers):=by
    have hm0:=q5.ext p2.toExt0
    rcases hmark with rfl|⟨D,rfl,h1,h2,h3⟩
    ·exact hm0
    ·obtain⟨k0,Ds',k1',k2',k3'⟩:=q5
     refine⟨O0 k0 hl4,D::Ds',by simp[k1'],PS.2 ⟨fun hD=>?_,k2'⟩,fun D' hD'=>?_⟩
     ·have:=(N8.1 (k3' D hD).2.1).1
      omega
     ·rcases O9.1 hD' with rfl|hD'
      ·refine⟨by omega,h3,fun hF=>?_,fun b l' ho=>?_⟩
       ·have:=q1.fO _ hF;omega
       ·rcases p2.old b l' ho with h4|⟨l0,h4,h5⟩
        ·obtain⟨⟨xx,hxx,hxl⟩,hm,hv⟩:=ho
         by_cases hbl:b=H.bl.length
         ·subst hbl
          rw[Map.aQ]at hm;cases hm
          exact fun e=>h2 e.symm
         ·rw[Map.aA _ _ hbl]at hm
          have hlt:=q1.gY b l' hm
          have ho':Own ρ H b l':=⟨⟨xx,by simpa[aV,On hlt]using hxx,hxl⟩,hm,hv⟩
          have:=(q1.own b l' ho').2
          omega
        ·have:=(q1.own b l0 h4).2
         omega
      ·exact(k3' D' hD').ext p2.toExt0
   have hrel':Rel C nt B e H3 {a with defers:=mark++a.defers} (w3.putObj l (.loop {q with state:=.exhausted})):=
    ⟨ρ3,F3,z1,hxt.er q1 q2,q3.trans hxt,q4,(hm1.ext (d3.trans z2).toExt0)⟩
   have hend:=run_endLoop (P:=C.P) g1 (by rw[g2];exact hst)
   refine⟨_,_,hend,?_⟩
   rw[g3]at hrel'⊢
   cases pend with
   |normal=>exact hk .normal _ _ _ _ hrun hrel'
   |exit id=>exact wpIn_exit (hk (.exit id) _ _ _ _ hrun hrel')
   |ret=>exact wpIn_ret (hk .ret _ _ _ _ hrun hrel')
end
end
section
section
variable{C:Ctx}{rec:Rec}{e e':Env}{H H':ae}{s:SV}
theorem map_pure{v:Option SV}(h:v.map (·,H)=some (s,H')):H'=H∧∀H2:ae,v.map (·,H2)=some (s,H2):=by
 cases v with
 |none=>cases h
 |some v=>cases h;exact⟨rfl,fun _=>rfl⟩
theorem kK{op:jH}(hp:fh op=true)(h:ai rec e H op=some (s,H')):H'=H∧∀H2,ai rec e H2 op=some (s,H2):=by
 cases op<;>try (exfalso;simp only[fh,Pc]at hp;done)
 case cp x=>simp only[ai,bu]at h ⊢;cases h;exact⟨rfl,fun _=>rfl⟩
 case pick=>exact map_pure h
 case build=>
  simp only[ai,bu,NP,N3]at h⊢
  obtain⟨v,h1,rfl,rfl⟩:=h
  exact⟨rfl,fun H2=>⟨v,h1,by simp⟩⟩
 case dO=>exact map_pure h
 case bin=>exact map_pure h
 case mP=>exact map_pure h
 case fN neg n x y=>
  simp only[ai,bu]at h⊢
  split at h
  ·rename_i a b h1 h2
   simp only[NP,N3]at h⊢
   obtain⟨v,h1,rfl,rfl⟩:=h
   exact⟨rfl,fun H2=>⟨v,h1,by simp⟩⟩
  ·cases h
 case jT x=>simp only[ai,bu]at h ⊢;split at h<;>first|(cases h;done)|(rename_i b hb;cases h;first|exact⟨rfl,fun _=>rfl⟩|(rw[hb];exact⟨rfl,fun _=>rfl⟩))
 case ue x=>simp only[ai,bu]at h ⊢;split at h<;>first|(cases h;done)|(rename_i k b hb;cases h;first|exact⟨rfl,fun _=>rfl⟩|(rw[hb];exact⟨rfl,fun _=>rfl⟩))
 case cF k x=>simp only[ai,bu]at h ⊢;split at h<;>first|(cases h;done)|(rename_i k b hb;cases h;first|exact⟨rfl,fun _=>rfl⟩|(rw[hb];exact⟨rfl,fun _=>rfl⟩))
 case oB x=>simp only[ai,bu]at h ⊢;split at h<;>first|(cases h;done)|(rename_i b hb;cases h;first|exact⟨rfl,fun _=>rfl⟩|(rw[hb];exact⟨rfl,fun _=>rfl⟩))
 case mb=>simp only[ai,bu]at h ⊢;cases h;exact⟨rfl,fun _=>rfl⟩
 case jF=>simp only[ai,bu]at h ⊢;cases h;exact⟨rfl,fun _=>rfl⟩
 case field ag n off x=>simp only[ai,bu]at h ⊢;split at h<;>first|(cases h;done)|(rename_i b hb;exact map_pure h)
 case lB ag n len x ix=>
  simp only[ai,bu]at h⊢
  split at h
  ·rename_i b hb
   try rw[hb]
   simp only[NS]at h⊢
   obtain⟨i,h1,h2⟩:=h
   obtain⟨h3,h4⟩:=map_pure h2
   exact⟨h3,fun H2=>⟨i,h1,h4 H2⟩⟩
  ·cases h
 case dY x ix=>
  simp only[ai,bu]at h⊢
  split at h
  ·rename_i b hb
   try rw[hb]
   simp only[NS,NP,N3]at h⊢
   obtain⟨i,h1,v,h2,rfl,rfl⟩:=h
   exact⟨rfl,fun H2=>⟨i,h1,v,h2,by simp⟩⟩
  ·cases h
 case extract x i=>simp only[ai,bu]at h ⊢;split at h<;>first|(cases h;done)|(rename_i b hb;exact map_pure h)
 case ct x=>simp only[ai,bu]at h ⊢;split at h<;>first|(cases h;done)|(rename_i b hb;cases h;first|exact⟨rfl,fun _=>rfl⟩|(rw[hb];exact⟨rfl,fun _=>rfl⟩))
 case uk=>simp only[ai,bu]at h ⊢;cases h;exact⟨rfl,fun _=>rfl⟩
 case nU=>exact map_pure h
 case qd=>exact map_pure h
 case ec x lo hi=>simp only[ai,bu]at h ⊢;split at h<;>first|(cases h;done)|(rename_i b hb;exact map_pure h)
theorem al{x:bj}{xs:List bj}(hx:x∈xs)(h:∀t∈br.f xs,get e t=get e' t):ev e x=ev e' x:=by
 cases x with
 |c v=>rfl
 |t n=>exact h n (by unfold br.f;exact List.mem_filterMap.2 ⟨.t n,hx,rfl⟩)
theorem eY{xs ys:List bj}(hx:∀x∈xs,x∈ys)(h:∀t∈br.f ys,get e t=get e' t):xs.map (ev e)=xs.map (ev e'):=
 Qd (fun x hm=>al (hx x hm) h)
theorem gq{x:Option bj}{ys:List bj}(hx:∀y∈x,y∈ys)(h:∀t∈br.f ys,get e t=get e' t):x.map (ev e)=x.map (ev e'):=by
 cases x with
 |none=>rfl
 |some x=>simp only[Oo];rw[al (hx x rfl) h]
theorem mj{f g:bj→SV}:∀(ps:List (Nat×Nat×bj)) (z:List SV),(∀p∈ps,f p.2.2=g p.2.2)→fM f z ps=fM g z ps
 |[],_,_=>rfl
 |(off,n,x)::ps,z,h=>by
  simp only[fM]
  rw[show f x=g x from h (off,n,x) (Oi ..)]
  congr 1
  funext cs
  cases(cs.length==n&&decide (off+n≤z.length))with
  |true=>exact mj ps _ (fun p hp=>h p (OW _ hp))
  |false=>rfl
theorem iP{f g:bj→SV}{bg:Nat}:∀(ps:List (Nat×bj)) (z:List (List SV)),(∀p∈ps,f p.2=g p.2)→dU f bg z ps=dU g bg z ps
 |[],_,_=>rfl
 |(i,x)::ps,z,h=>by
  simp only[dU]
  rw[show f x=g x from h (i,x) (Oi ..)]
  congr 1
  funext cs
  cases(cs.length==bg&&decide (i<z.length))with
  |true=>exact iP ps _ (fun p hp=>h p (OW _ hp))
  |false=>rfl
theorem lX{o:ak}(h:∀t∈br o,get e t=get e' t):ai rec e H o.op=ai rec e' H o.op:=by
 obtain⟨dst,op,g⟩:=o
 unfold br at h
 replace h:=fun t ht=>h t (Pj _ ht)
 dsimp only at h⊢
 cases op
 case cp x=>dsimp only at h;simp only[ai,bu,al (x:=x) (by simp) h]
 case pick c a b=>dsimp only at h;simp only[ai,bu,al (x:=c) (by simp) h,al (x:=a) (by simp) h,al (x:=b) (by simp) h]
 case box x=>dsimp only at h;simp only[ai,bu,al (x:=x) (by simp) h]
 case alloc z=>rfl
 case lg z=>rfl
 case build z ps=>
  dsimp only at h
  simp only[ai,bu]
  rw[mj ps z (fun p hp=>al (PM.2 ⟨p,hp,rfl⟩) h)]
 case eR bg z n ps=>
  dsimp only at h
  simp only[ai,bu]
  rw[iP ps _ (fun p hp=>al (PM.2 ⟨p,hp,rfl⟩) h)]
 case dO bg z n ps=>
  dsimp only at h
  simp only[ai,bu]
  rw[iP ps _ (fun p hp=>al (PM.2 ⟨p,hp,rfl⟩) h)]
 case load ag n a=>dsimp only at h;simp only[ai,bu,al (x:=a) (by simp) h]
 case store n a x=>dsimp only at h;simp only[ai,bu,al (x:=a) (by simp) h,al (x:=x) (by simp) h]
 case cQ x=>dsimp only at h;simp only[ai,bu,al (x:=x) (by simp) h]
 case bin op x y=>dsimp only at h;simp only[ai,bu,al (x:=x) (by simp) h,al (x:=y) (by simp) h]
 case mP op x y=>dsimp only at h;simp only[ai,bu,al (x:=x) (by simp) h,al (x:=y) (by simp) h]
 case fN neg n x y=>dsimp only at h;simp only[ai,bu,al (x:=x) (by simp) h,al (x:=y) (by simp) h]
 case jT x=>dsimp only at h;simp only[ai,bu,al (x:=x) (by simp) h]
 case isNil k neg x=>dsimp only at h;simp only[ai,bu,al (x:=x) (by simp) h]
 case ue x=>dsimp only at h;simp only[ai,bu,al (x:=x) (by simp) h]
 case cF k x=>dsimp only at h;simp only[ai,bu,al (x:=x) (by simp) h]
 case oB x=>dsimp only at h;simp only[ai,bu,al (x:=x) (by simp) h]
 case iy x=>dsimp only at h;simp only[ai,bu,al (x:=x) (by simp) h]
 case nu x=>dsimp only at h;simp only[ai,bu,al (x:=x) (by simp) h]
 case jF f cs=>dsimp only at h;simp only[ai,bu,eY (xs:=cs) (fun _ h=>h) h]
 case ub x=>dsimp only at h;simp only[ai,bu,al (x:=x) (by simp) h]
 case kg x=>dsimp only at h;simp only[ai,bu,al (x:=x) (by simp) h]
 case oU x=>dsimp only at h;simp only[ai,bu,al (x:=x) (by simp) h]
 case lM x=>dsimp only at h;simp only[ai,bu,al (x:=x) (by simp) h]
 case sliceB len x y=>dsimp only at h;simp only[ai,bu,al (x:=x) (by simp) h,al (x:=y) (by simp) h]
 case mb f cs=>dsimp only at h;simp only[ai,bu,eY (xs:=cs) (fun _ h=>h) h]
 case fB bg z bytes l c=>dsimp only at h;simp only[ai,bu,al (x:=l) (by simp) h,al (x:=c) (by simp) h]
 case iU bg x lo hi mx=>
  dsimp only at h
  simp only[ai,bu,al (x:=x) (by simp) h,gq (x:=lo) (by simp +contextual) h,gq (x:=hi) (by simp +contextual) h,gq (x:=mx) (by simp +contextual) h]
 case ec x lo hi=>
  dsimp only at h
  simp only[ai,bu,al (x:=x) (by simp) h,gq (x:=lo) (by simp +contextual) h,gq (x:=hi) (by simp +contextual) h]
 case aH off x=>dsimp only at h;simp only[ai,bu,al (x:=x) (by simp) h]
 case field ag n off x=>dsimp only at h;simp only[ai,bu,al (x:=x) (by simp) h]
 case dJ bg x ix=>dsimp only at h;simp only[ai,bu,al (x:=x) (by simp) h,al (x:=ix) (by simp) h]
 case dI len bg x ix=>dsimp only at h;simp only[ai,bu,al (x:=x) (by simp) h,al (x:=ix) (by simp) h]
 case lB ag n len x ix=>dsimp only at h;simp only[ai,bu,al (x:=x) (by simp) h,al (x:=ix) (by simp) h]
 case dY x ix=>dsimp only at h;simp only[ai,bu,al (x:=x) (by simp) h,al (x:=ix) (by simp) h]
 case extract x i=>dsimp only at h;simp only[ai,bu,al (x:=x) (by simp) h]
 case len x=>dsimp only at h;simp only[ai,bu,al (x:=x) (by simp) h]
 case ct x=>dsimp only at h;simp only[ai,bu,al (x:=x) (by simp) h]
 case uk n=>rfl
 case nU xs=>dsimp only at h;simp only[ai,bu,eY (xs:=xs) (fun _ h=>h) h]
 case qd xs=>dsimp only at h;simp only[ai,bu,eY (xs:=xs) (fun _ h=>h) h]
 case append bg bytes s x=>dsimp only at h;simp only[ai,bu,al (x:=s) (by simp) h,al (x:=x) (by simp) h]
 case mN s x=>dsimp only at h;simp only[ai,bu,al (x:=s) (by simp) h,al (x:=x) (by simp) h]
 case copy bg d x=>dsimp only at h;simp only[ai,bu,al (x:=d) (by simp) h,al (x:=x) (by simp) h]
 case clear bg z x=>dsimp only at h;simp only[ai,bu,al (x:=x) (by simp) h]
 case lY=>rfl
 case m6 t x k v=>dsimp only at h;simp only[ai,bu,al (x:=x) (by simp) h,al (x:=k) (by simp) h,al (x:=v) (by simp) h]
 case l9 t ok z x k=>dsimp only at h;simp only[ai,bu,al (x:=x) (by simp) h,al (x:=k) (by simp) h]
 case call f xs=>
  dsimp only at h
  simp only[ai]
  rw[al (x:=f) (Oi ..) h,eY (xs:=xs) (fun x hx=>OW _ hx) h]
 case dL f m xs=>
  dsimp only at h
  simp only[ai]
  rw[eY (xs:=xs) (fun x hx=>hx) h]
 case l7 f xs=>
  dsimp only at h
  simp only[ai]
  rw[eY (xs:=xs) (fun x hx=>hx) h]
 case bad=>rfl
def zF(acc:List Nat)(o:Oper):Nat:=o.after.toList.foldl (fun s e=>bif Region.binds .any e then s|||2 ^ e.on|||acc.getD e.on 0 else s) 0
theorem iB(l:List Oper)(o:Oper):aW (l++[o])=aW l++[zF (aW l) o]:=by
 simp[aW,zF,List.foldl_append]
theorem tR{A:Type}{P:List A→Prop}(h0:P [])(h1:∀l a,P l→P (l++[a]))(l:List A):P l:=by
 rw[←List.reverse_reverse l]
 induction l.reverse with
 |nil=>exact h0
 |cons a r ih=>rw[QO];exact h1 _ _ ih
theorem dz(l:List Oper):(aW l).length=l.length:=by
 refine tR (P:=fun l=>(aW l).length=l.length) rfl (fun l o ih=>?_) l
 rw[iB];simp[ih]
theorem fG(l m:List Oper){j:Nat}(hj:j<l.length):(aW (l++m))[j]?=(aW l)[j]?:=by
 refine tR (P:=fun m=>(aW (l++m))[j]?=(aW l)[j]?) (by simp) (fun m o ih=>?_) m
 rw[←NR,iB,On (by rw[dz];simp;omega)]
 exact ih
theorem oG{acc:List Nat}{i:Nat}:∀(es:List Edge) (s:Nat),(es.foldl (fun s e=>bif Region.binds .any e then s|||2 ^ e.on|||acc.getD e.on 0 else s) s).testBit i=true→
 s.testBit i=true∨∃e∈es,Region.binds .any e=true∧(e.on=i∨(acc.getD e.on 0).testBit i=true)
 |[],s,h=>.inl h
 |d::es,s,h=>by
  simp only[Q7]at h
  rcases oG es _ h with h1|⟨d',h1,h2⟩
  ·cases hb:Region.binds .any d with
   |false=>rw[hb]at h1;exact .inl h1
   |true=>
    rw[hb]at h1
    simp only[N6,Nat.testBit_or,O3,Nat.testBit_two_pow,NY]at h1
    rcases h1 with(h1|h1)|h1
    ·exact .inl h1
    ·exact .inr ⟨d,Oi ..,hb,.inl h1⟩
    ·exact .inr ⟨d,Oi ..,hb,.inr h1⟩
  ·exact .inr ⟨d',OW _ h1,h2⟩
theorem kW{ops:List Oper}{j i:Nat}(h:((aW ops).getD j 0).testBit i=true) :
 ∃o,ops[j]?=some o∧∃e∈o.after,Region.binds .any e=true∧(e.on=i∨(e.on<j∧((aW ops).getD e.on 0).testBit i=true)):=by
 by_cases hj:j<ops.length
 ·have hsp:ops=ops.take (j+1)++ops.drop (j+1):=(QS _ _).symm
  have hsn:ops.take (j+1)=ops.take j++[ops[j]]:=List.take_succ_eq_append_getElem hj
  have hlt:(ops.take j).length=j:=by simp;omega
  have hval:(aW ops)[j]?=some (zF (aW (ops.take j)) ops[j]):=by
   conv=>lhs;rw[hsp]
   rw[fG _ _ (by simp;omega),hsn,iB,Ol (by rw[dz];omega),dz,hlt]
   simp
  rw[PN,hval]at h
  simp only[O2]at h
  refine⟨ops[j],by simp[hj],?_⟩
  unfold zF at h
  rcases oG _ _ h with h|⟨d,h1,h2,h3⟩
  ·simp at h
  ·refine⟨d,by simpa using h1,h2,h3.imp id (fun h3=>?_)⟩
   by_cases hd:d.on<j
   ·refine⟨hd,?_⟩
    have:(aW ops)[d.on]?=(aW (ops.take j))[d.on]?:=by
     conv=>lhs;rw[hsp]
     rw[fG _ _ (by simp;omega),hsn,fG _ _ (by omega)]
    rw[PN,this,←PN]
    exact h3
   ·rw[PN,Oq (by rw[dz];omega)]at h3
    simp at h3
 ·rw[PN,Oq (by rw[dz];omega)]at h
  simp at h
theorem sq{ops:List Oper}(hedge:∀(i:Nat) o,ops[i]?=some o→∀e∈o.after,Region.binds .any e=true→e.on<i):∀(j i:Nat),((aW ops).getD j 0).testBit i=true→i<j:=by
 intro j
 induction j using Nat.strongRecOn with
 |_ j ih=>
  intro i h
  obtain⟨o,h1,d,h2,h3,h4⟩:=kW h
  rcases h4 with h4|⟨h4,h5⟩
  ·subst h4;exact hedge j o h1 d h2 h3
  ·have:=ih d.on h4 i h5;omega
theorem iw{ops:List Oper}{S:Nat→Prop}(hS:∀(k:Nat) o,S k→ops[k]?=some o→∀e∈o.after,Region.binds .any e=true→S e.on) :
 ∀(j i:Nat),(∀o,ops[j]?=some o→∀e∈o.after,Region.binds .any e=true→S e.on)→((aW ops).getD j 0).testBit i=true→S i:=by
 intro j
 induction j using Nat.strongRecOn with
 |_ j ih=>
  intro i hj h
  obtain⟨o,h1,d,h2,h3,h4⟩:=kW h
  have hd:=hj o h1 d h2 h3
  rcases h4 with h4|⟨h4,h5⟩
  ·subst h4;exact hd
  ·exact ih d.on h4 i (fun o' ho'=>hS d.on o' hd ho') h5
def dr(pl:List (ak×aU))(i:Nat):aU:=((pl[i]?).map (·.2)).getD ⟨.pure,[],0,0⟩
theorem cb{pl:List (ak×aU)}{i:Nat}{o:ak}{d:aU}(h:pl[i]?=some (o,d)):dr pl i=d:=by simp[dr,h]
structure Lj(bs:List Nat)(ops:List Oper)(pl:List (ak×aU)):Prop where
 yY:∀(i:Nat) o,ops[i]?=some o→∀e∈o.after,Region.binds .any e=true→e.on<i
 tmp:∀(i j:Nat) a b,i<j→pl[i]?=some a→pl[j]?=some b→(bs.getD j 0).testBit i=true∨(∀d,a.1.dst=some d→d∉br b.1∧b.1.dst≠some d)∧(∀d,b.1.dst=some d→d∉br a.1)
 zT:∀(i:Nat) o d,pl[i]?=some (o,d)→d.kind=.pure→fh o.op=true∧d.sy=0
 fC:∀i j,i<pl.length→j<pl.length→(dr pl i).kind=.fC→(dr pl j).kind≠.pure→i=j∨(bs.getD j 0).testBit i=true∨(bs.getD i 0).testBit j=true
 Ge:0<pl.length→(dr pl 0).jf=0
 Az:∀k,k+1<pl.length→(dr pl (k+1)).jf=bif nL (dr pl k)then 0 else(dr pl k).jf+(dr pl k).sy
 La:∀k,k<pl.length→cH (dr pl k)=true→(dr pl k).sy=0
 JC:∀k m,k<pl.length→m<pl.length→cH (dr pl k)=true→k<m→(dr pl m).kind≠.pure→(bs.getD m 0).testBit k=true
 ind:∀i k a,k<pl.length→i<k→cH (dr pl k)=true→(dr pl i).kind=.kn→pl[i]?=some a→(∃m,i<m∧m<k∧(dr pl m).kind=.fC)∨(bs.getD k 0).testBit i=true∨lD a.1.op=true∨lJ pl i k a.1.op (dr pl k)=true
 ep:∀i,i<pl.length→((dr pl i).kind=.kn∨cH (dr pl i)=true)→∀k,k<i→(dr pl k).kind=.kn→(∃m,k<m∧m<i∧(dr pl m).kind=.fC)∨(bs.getD i 0).testBit k=true∨∀m,m<(dr pl k).sy→(dr pl k).jf+m∈(dr pl i).ep
theorem gE{d:aU}:nL d=true↔d.kind=.fC:=by unfold nL;cases d.kind<;>simp
theorem lN{d:aU}:o0 d=true↔d.kind=.kn:=by unfold o0;cases d.kind<;>simp
theorem jS{d:aU}:nf d=true↔d.kind=.pure:=by unfold nf;cases d.kind<;>simp
theorem pt{bs:List Nat}{ops:List Oper}{pl:List (ak×aU)}(h:jC bs ops pl=true):Lj bs ops pl:=by
 unfold jC at h
 simp only[NX]at h
 obtain⟨⟨⟨⟨⟨⟨⟨h1,h2⟩,h3⟩,h4⟩,h5⟩,h6⟩,h7⟩,h8⟩:=h
 refine⟨fun i o ho e he hb=>?_,fun i j a b hij ha hb=>?_,fun i o d hi hk=>?_,fun i j hi hj hk hp=>?_,fun h0=>?_,fun k hk=>?_,fun k hk hw=>?_,fun k m hk hm hw hkm hp=>?_,fun i k a hk hik hw hs ha=>?_,fun i hi hk k hki hkk=>?_⟩
 ·have:=N5.1 h1 (o,i) (by rw[List.mem_iff_getElem?];exact⟨i,by simp[List.getElem?_zipIdx,ho]⟩)
  have:=N5.1 this e (by simpa using he)
  simpa[hb]using this
 ·have hj:=(NT.1 hb).1
  have:=N5.1 h2 j (Of.2 hj)
  have:=N5.1 this i (Of.2 hij)
  rw[ha,hb]at this
  simp only[O3,Ot,Bool.or_eq_false_iff]at this
  refine this.imp id (fun⟨g1,g2⟩=>⟨fun d hd=>?_,fun d hd=>?_⟩)
  ·rw[hd]at g1
   simp only[Bool.or_eq_false_iff,List.contains_eq_mem,Ow,Pr]at g1
   exact g1
  ·rw[hd]at g2
   simpa using g2
 ·have:=N5.1 h3 (o,d) (Ok hi)
  simpa[jS.2 hk]using this
 ·have:=N5.1 h4 i (Of.2 hi)
  have hb:nL (((pl[i]?).map (·.2)).getD ⟨.pure,[],0,0⟩)=true:=gE.2 hk
  rw[hb]at this
  simp only[Px,Pz]at this
  have:=N5.1 this j (Of.2 hj)
  simp only[O3]at this
  rcases this with h|h
  ·exact absurd (jS.1 h) hp
  ·unfold vX at h
   simp only[O3,O1]at h
   rcases h with(h|h)|h
   ·exact .inl h
   ·exact .inr (.inl h)
   ·exact .inr (.inr h)
 ·have:=N5.1 h5 0 (Of.2 h0)
  simpa[dr]using this
 ·have:=N5.1 h5 (k+1) (Of.2 hk)
  simpa[dr]using this
 ·have:=N5.1 h7 k (Of.2 hk)
  have hw':cH (((pl[k]?).map (·.2)).getD ⟨.pure,[],0,0⟩)=true:=hw
  rw[hw']at this
  simp only[Px,Pz,NX]at this
  exact O1.1 this.1
 ·have:=N5.1 h7 k (Of.2 hk)
  have hw':cH (((pl[k]?).map (·.2)).getD ⟨.pure,[],0,0⟩)=true:=hw
  rw[hw']at this
  simp only[Px,Pz,NX]at this
  have:=N5.1 this.2 m (Of.2 hm)
  simp only[O3,Ot,Ow]at this
  rcases this with(h|h)|h
  ·exact absurd hkm h
  ·exact absurd (jS.1 h) hp
  ·exact h
 ·have:=N5.1 h8 k (Of.2 hk)
  have hw':cH (((pl[k]?).map (·.2)).getD ⟨.pure,[],0,0⟩)=true:=hw
  rw[hw']at this
  simp only[Px,Pz]at this
  have:=N5.1 this i (Of.2 hik)
  have hs':o0 (((pl[i]?).map (·.2)).getD ⟨.pure,[],0,0⟩)=true:=lN.2 hs
  rw[hs',ha]at this
  simp only[Px,Pz,O3]at this
  rcases this with(h|h)|h
  ·obtain⟨m,hm,h⟩:=QF.1 h
   simp only[NX,NY]at h
   exact .inl ⟨m,h.1,Of.1 hm,gE.1 h.2⟩
  ·exact .inr (.inl h)
  ·exact .inr (.inr h)
 ·have:=N5.1 h6 i (Of.2 hi)
  have hs:(o0 (((pl[i]?).map (·.2)).getD ⟨.pure,[],0,0⟩)||cH (((pl[i]?).map (·.2)).getD ⟨.pure,[],0,0⟩))=true:=by
   rw[O3]
   exact hk.imp (fun h=>lN.2 h) (fun h=>h)
  rw[hs]at this
  simp only[Px,Pz]at this
  have:=N5.1 this k (Of.2 hki)
  have hs':o0 (((pl[k]?).map (·.2)).getD ⟨.pure,[],0,0⟩)=true:=lN.2 hkk
  rw[hs']at this
  simp only[Px,Pz,O3]at this
  rcases this with(h|h)|h
  ·obtain⟨m,hm,h⟩:=QF.1 h
   simp only[NX,NY]at h
   exact .inl ⟨m,h.1,Of.1 hm,gE.1 h.2⟩
  ·exact .inr (.inl h)
  ·refine .inr (.inr (fun m hm=>?_))
   have:=N5.1 h m (Of.2 hm)
   rw[List.contains_iff_mem]at this
   exact this
def mG(e:Env)(g:Option (Nat×Bool)):Prop:=g=none∨∃t w,g=some (t,w)∧get e t=.bool w
def pV(e:Env)(g:Option (Nat×Bool)):Prop:=∃t w,g=some (t,w)∧(get e t=.bool (!w)∨get e t=.gJ)
structure Tr(rec:Rec)(pl:List (ak×aU))(es:Nat→Env)(hs:Nat→ae)(out:Nat→SV)(Ns:Nat→Nat):Prop where
 env:∀(i:Nat) o d,pl[i]?=some (o,d)→es (i+1)=bB (es i) o.dst (out i)
 nx:∀(i:Nat) o d,pl[i]?=some (o,d)→Ns (i+1)=eQ d (Ns i) (hs (i+1))
 st:∀(i:Nat) o d,pl[i]?=some (o,d)→(mG (es i) o.g∧bR rec (Ns i) d (es i) (hs i) o.op=some (out i,hs (i+1)))∨(pV (es i) o.g∧gP d=true∧out i=.gJ∧hs (i+1)=hs i)
theorem trace{R:Type}{k:Env→ae→Option R}{r:R}:∀(pl:List (ak×aU)) (N:Nat) (e:Env) (H:ae),bw rec pl N e H k ()=some r→
 ∃es hs out Ns,es 0=e∧hs 0=H∧Ns 0=N∧Tr rec pl es hs out Ns∧k (es pl.length) (hs pl.length)=some r
 |[],N,e,H,h=>⟨fun _=>e,fun _=>H,fun _=>.undef,fun _=>N,rfl,rfl,rfl,⟨by simp,by simp,by simp⟩,h⟩
 |(o,d)::pl,N,e,H,h=>by
  have key:∀s H',((mG e o.g∧bR rec N d e H o.op=some (s,H'))∨(pV e o.g∧gP d=true∧s=.gJ∧H'=H))→
   bw rec pl (eQ d N H') (bB e o.dst s) H' k ()=some r→∃es hs out Ns,es 0=e∧hs 0=H∧Ns 0=N∧Tr rec ((o,d)::pl) es hs out Ns∧k (es (pl.length+1)) (hs (pl.length+1))=some r:=by
   intro s H' hst hrun
   obtain⟨es,hs,out,Ns,h1,h2,h3,h4,h5⟩:=trace pl _ _ _ hrun
   refine⟨fun|0=>e|i+1=>es i,fun|0=>H|i+1=>hs i,fun|0=>s|i+1=>out i,fun|0=>N|i+1=>Ns i,rfl,rfl,rfl,⟨?_,?_,?_⟩,h5⟩
   ·intro i o' d' hi
    cases i with
    |zero=>simp at hi;obtain⟨rfl,rfl⟩:=hi;exact h1
    |succ i=>exact h4.env i o' d' (by simpa using hi)
   ·intro i o' d' hi
    cases i with
    |zero=>simp at hi;obtain⟨rfl,rfl⟩:=hi;simp only;rw[h3,h2]
    |succ i=>exact h4.nx i o' d' (by simpa using hi)
   ·intro i o' d' hi
    cases i with
    |zero=>simp at hi;obtain⟨rfl,rfl⟩:=hi;simp only;rw[h2];exact hst
    |succ i=>exact h4.st i o' d' (by simpa using hi)
  simp only[bw]at h
  split at h
  ·rename_i hg
   unfold ay at h
   split at h
   ·rename_i p hp
    exact key p.1 p.2 (.inl ⟨.inl hg,hp⟩) h
   ·cases h
  ·rename_i t w hg
   unfold eE at h
   split at h
   ·rename_i b hb
    unfold fork at h
    dsimp only at h
    cases hbw:(b==w)with
    |true=>
     have:b=w:=by simpa using hbw
     subst this
     rw[hbw]at h
     simp only[N6]at h
     unfold ay at h
     split at h
     ·rename_i p hp
      exact key p.1 p.2 (.inl ⟨.inr ⟨t,b,hg,hb⟩,hp⟩) h
     ·cases h
    |false=>
     have:b=!w:=by cases b<;>cases w<;>simp_all
     subst this
     rw[hbw]at h
     simp only[Oa]at h
     replace h:=af h
     exact key .gJ H (.inr ⟨⟨t,w,hg,.inl hb⟩,h.1,rfl,rfl⟩) h.2
   ·rename_i hb
    unfold fork at h
    dsimp only at h
    simp only[Oa]at h
    replace h:=af h
    exact key .gJ H (.inr ⟨⟨t,w,hg,.inr hb⟩,h.1,rfl,rfl⟩) h.2
   ·cases h
end
end
section
def dB:aj→aj→Prop
 | .dead,.dead=>True
 | .box cs,.box cs'=>cs.length=cs'.length
 | .arr v z L e,.arr v' z' L' e'=>v=v'∧z=z'∧L.length=L'.length∧e=e'
 | .loop r s p,.loop r' s' p'=>r=r'∧s=s'∧p=p'
 | .map es,.map es'=>es=es'
 | .iter b n k,.iter b' n' k'=>b=b'∧n=n'∧k=k'
 |_,_=>False
theorem jh(x:aj):dB x x:=by cases x<;>simp[dB]
theorem pC{x y z:aj}(h:dB x y)(h':dB y z):dB x z:=by
 cases x<;>cases y<;>simp only[dB]at h<;>cases z<;>simp only[dB]at h'⊢ <;>simp_all
theorem qh{x y:aj}(h:dB x y):x.live=y.live:=by
 cases x<;>cases y<;>simp only[dB]at h<;>rfl
structure bL(l l':List aj):Prop where
 len:l.length=l'.length
 at_:∀(b:Nat) x y,l[b]?=some x→l'[b]?=some y→dB x y
theorem bL.refl(l:List aj):bL l l:=⟨rfl,fun b x y h h'=>by rw[h]at h';cases h';exact jh x⟩
theorem bL.get{l l':List aj}(h:bL l l')(b:Nat):(l[b]?=none∧l'[b]?=none)∨∃x y,l[b]?=some x∧l'[b]?=some y∧dB x y:=by
 cases hx:l[b]? with
 |none=>
  left
  refine⟨rfl,?_⟩
  rw[List.getElem?_eq_none_iff]at hx⊢
  rw[←h.len];exact hx
 |some x=>
  have hb:=(NT.1 hx).1
  have hy:l'[b]?=some (l'[b]'(by rw[←h.len];exact hb)):=N4 _
  exact .inr ⟨x,_,rfl,hy,h.at_ b _ _ hx hy⟩
theorem bL.trans{l l' l'':List aj}(h:bL l l')(h':bL l' l''):bL l l'':=by
 refine⟨h.len.trans h'.len,fun b x z hx hz=>?_⟩
 rcases h.get b with⟨h1,_⟩|⟨x',y,h1,h2,h3⟩
 ·rw[h1]at hx;cases hx
 ·rw[hx]at h1;cases h1
  exact pC h3 (h'.at_ b _ _ h2 hz)
theorem bL.set{l:List aj}{b:Nat}{x y:aj}(hx:l[b]?=some x)(h:dB x y):bL l (l.set b y):=by
 refine⟨by simp,fun b' u v hu hv=>?_⟩
 by_cases e:b'=b
 ·subst e
  rw[hx]at hu;cases hu
  have hlt:=(NT.1 hx).1
  simp[hlt]at hv
  subst hv;exact h
 ·rw[N7 (Ne.symm e),hu]at hv
  cases hv;exact jh u
theorem bL.take{l l':List aj}(h:bL l l')(n:Nat):bL (l.take n) (l'.take n):=by
 refine⟨by simp[h.len],fun b x y hx hy=>?_⟩
 rw[Ob]at hx hy
 split at hx
 ·rename_i hlt
  rw[if_pos hlt]at hy
  exact h.at_ b x y hx hy
 ·cases hx
theorem bL.both{l l':List aj}(h:bL l l')(b:Nat)(x:aj):bL (l.set b x) (l'.set b x):=by
 refine⟨by simp[h.len],fun b' u v hu hv=>?_⟩
 by_cases e:b'=b
 ·subst e
  have h1:=(NT.1 hu).1
  have h2:=(NT.1 hv).1
  rw[NZ]at h1 h2
  simp[h1]at hu
  simp[h2]at hv
  subst hu;subst hv;exact jh _
 ·rw[N7 (Ne.symm e)]at hu hv
  exact h.at_ b' u v hu hv
theorem bL.ep{l l':List aj}(h:bL l l')(N:Nat):∀ds:List Nat,bL (cy N ds l) (cy N ds l'):=by
 intro ds
 induction ds generalizing l l' with
 |nil=>exact h
 |cons d ds ih=>
  have:=ih (h.both (N+d) .dead)
  unfold cy at this⊢
  simpa using this
section
variable{rec:Rec}{e:Env}{H H' V0 V1 V0':ae}{s:SV}
theorem gN(h:bL H.bl H'.bl)(v:SV):cur H v=cur H' v:=by
 cases v<;>try rfl
 ·rename_i b bU i o
  unfold cur az
  dsimp only
  rcases h.get b with⟨h1,h2⟩|⟨x,y,h1,h2,h3⟩
  ·rw[h1,h2]
  ·rw[h1,h2]
   cases x<;>cases y<;>simp only[dB]at h3<;>first|rfl|(simp[h3.1])
 ·rename_i b bU i o
  unfold cur az
  dsimp only
  rcases h.get b with⟨h1,h2⟩|⟨x,y,h1,h2,h3⟩
  ·rw[h1,h2]
  ·rw[h1,h2]
   cases x<;>cases y<;>simp only[dB]at h3<;>first|rfl|(simp[h3.1])
theorem nF(h:bL H.bl H'.bl)(z:Nat)(v:SV):de H z v=de H' z v:=by
 cases v<;>try rfl
 rename_i b bU i o
 unfold de az
 dsimp only
 rcases h.get b with⟨h1,h2⟩|⟨x,y,h1,h2,h3⟩
 ·rw[h1,h2]
 ·rw[h1,h2]
  cases x<;>cases y<;>simp only[dB]at h3<;>first|rfl|(simp[h3.1,h3.2.1])
theorem oa(h:bL H.bl H'.bl)(x:SV)(lo hi mx:Option SV):hU H x lo hi mx=hU H' x lo hi mx:=by
 unfold hU
 split
 ·rename_i b v off n hv
  rcases h.get b with⟨h1,h2⟩|⟨y,z,h1,h2,h3⟩
  ·simp only[az,h1,h2]
  ·simp only[az,h1,h2]
   cases y<;>cases z<;>simp only[dB]at h3<;>try rfl
   simp only[h3.2.2.1]
 ·rfl
theorem qS(h:bL H.bl H'.bl)(k:NK)(v:SV):eA H k v=eA H' k v:=by
 cases k<;>cases v<;>first|rfl|(simp only[eA,gN h])
theorem nY{v:Option SV}(h:v.map (·,V0)=some (s,V0')):∃X,V0'={V0 with bl:=V0.bl++X}∧v.map (·,V1)=some (s,{V1 with bl:=V1.bl++X}):=by
 cases v with
 |none=>cases h
 |some v=>cases h;exact⟨[],by simp,by simp⟩
theorem wv{op:jH}(hb:lD op=true)(hsh:bL V0.bl V1.bl)(h:ai rec e V0 op=some (s,V0')) :
 ∃X,V0'={V0 with bl:=V0.bl++X}∧ai rec e V1 op=some (s,{V1 with bl:=V1.bl++X}):=by
 cases op<;>try (exfalso;simp only[lD,Pc]at hb;done)
 case box x=>
  simp only[ai,bu,NP,N3]at h⊢
  obtain⟨cs,h1,rfl,rfl⟩:=h
  exact⟨[.box cs],rfl,cs,h1,by rw[hsh.len],rfl⟩
 case alloc z=>
  simp only[ai,bu]at h⊢
  cases h
  exact⟨[.box z],rfl,by rw[hsh.len];rfl⟩
 case eR bg z n ps=>
  simp only[ai,bu,NP,N3]at h⊢
  obtain⟨L,h1,rfl,rfl⟩:=h
  exact⟨[.arr 0 bg L true],rfl,L,h1,by rw[hsh.len],rfl⟩
 case cQ x=>
  simp only[ai,bu]at h⊢
  rw[←gN hsh]
  replace h:=af h
  rw[h.1];exact nY h.2
 case isNil k neg x=>
  simp only[ai,bu]at h⊢
  rw[←qS hsh]
  simp only[NP,N3]at h⊢
  obtain⟨b,h1,rfl,rfl⟩:=h
  exact⟨[],by simp,b,h1,by simp⟩
 case fB bg z bytes l c=>
  simp only[ai,bu]at h⊢
  unfold nm at h⊢
  split at h
  ·rename_i l' c' h1 h2
   replace h:=af h
   obtain⟨h3,h⟩:=h
   cases h
   rw[h3]
   exact⟨[.arr 0 bg (List.replicate c'.toNat z) true],rfl,by simp[hsh.len,aV]⟩
  ·cases h
 case iU bg x lo hi mx=>
  simp only[ai,bu]at h⊢
  rw[←nF hsh,←oa hsh]
  replace h:=af h
  rw[h.1];exact nY h.2
 case aH off x=>
  simp only[ai,bu]at h⊢
  rw[←gN hsh]
  replace h:=af h
  rw[h.1];exact nY h.2
 case dJ bg x ix=>
  simp only[ai,bu]at h⊢
  rw[←nF hsh]
  replace h:=af h
  rw[h.1];exact nY h.2
 case dI len bg x ix=>
  simp only[ai,bu]at h⊢
  rw[←gN hsh]
  replace h:=af h
  rw[h.1]
  simp only[NS,N6]at h⊢
  obtain⟨_,i,h1,h2⟩:=h
  obtain⟨X,h3,h4⟩:=nY (V1:=V1) h2
  exact⟨X,h3,i,h1,h4⟩
 case len x=>
  simp only[ai,bu]at h⊢
  rw[←gN hsh]
  replace h:=af h
  rw[h.1]
  simp only[NP,N6,N3]at h⊢
  obtain⟨_,i,h1,rfl,rfl⟩:=h
  exact⟨[],by simp,i,h1,rfl,by simp⟩
theorem qA{cs xs:List SV}{o n:Nat}(hn:xs.length=n)(hle:o+n≤cs.length):(eL cs o n xs).length=cs.length:=by
 unfold eL;simp;omega
theorem gA{b:Nat}{y:aj}{r:Nat}(h:bT H b y r=some H'):H.ro≤b∧b<H.bl.length∧H'.bl=H.bl.set b y∧H'.ro=H.ro:=by
 unfold bT at h
 replace h:=af h
 obtain⟨h1,h2⟩:=h
 simp only[NX,NY]at h1
 cases h2
 exact⟨h1.1,h1.2,rfl,rfl⟩
theorem e8{n:Nat}{x p:SV}(h:df n H x p=some H'):∃b v i o xs y0 y1,p=.ptr b v i o∧bV x=some xs∧xs.length=n∧H.bl[b]?=some y0∧y0.live=true∧y1.live=true∧dB y0 y1∧bT H b y1 x.refs=some H'∧
 ((∃cs,y0=.box cs∧i=0∧o+n≤cs.length∧y1=.box (eL cs o n xs))∨(∃z L ex cs,y0=.arr v z L ex∧L[i]?=some cs∧o+n≤cs.length∧y1=.arr v z (L.set i (eL cs o n xs)) ex)):=by
 unfold df at h
 split at h
 ·rename_i b v i o
  simp only[NS]at h
  obtain⟨xs,hxs,h⟩:=h
  replace h:=af h
  obtain⟨hn,h⟩:=h
  have hn:xs.length=n:=by simpa using hn
  split at h
  ·rename_i cs hb
   replace h:=af h
   obtain⟨hi,h⟩:=h
   simp only[NX,O1,NY]at hi
   exact⟨b,v,i,o,xs,_,.box (eL cs o n xs),rfl,hxs,hn,hb,rfl,rfl,(qA hn hi.2).symm,h,.inl ⟨cs,rfl,hi.1,hi.2,rfl⟩⟩
  ·rename_i v' z L ex hb
   replace h:=af h
   obtain⟨hv,h⟩:=h
   have hv:v=v':=by simpa using hv
   subst hv
   split at h
   ·rename_i cs hcs
    replace h:=af h
    obtain⟨hle,h⟩:=h
    have hle:o+n≤cs.length:=by simpa using hle
    exact⟨b,v,i,o,xs,_,.arr v z (L.set i (eL cs o n xs)) ex,rfl,hxs,hn,hb,rfl,rfl,⟨rfl,rfl,by simp,rfl⟩,h,.inr ⟨z,L,ex,cs,rfl,hcs,hle,rfl⟩⟩
   ·cases h
  ·cases h
 ·cases h
theorem qp{cs xs:List SV}{o n j:Nat}(hn:xs.length=n)(hle:o+n≤cs.length)(hj:j<o∨o+n≤j):(eL cs o n xs)[j]?=cs[j]?:=by
 unfold eL
 rw[NR,Pa]
 have ht:(cs.take o).length=o:=by simp;omega
 rw[ht]
 split
 ·rename_i h;rw[Ob,if_pos h]
 ·rename_i h
  rw[Pa,if_neg (by omega),Ou]
  congr 1;omega
theorem ng{ag:Bool}{m o o' n:Nat}{cs xs:List SV}(h:cG ag m cs o=some s)(hn:xs.length=n)(hle:o'+n≤cs.length)(hd:o+(bif ag then m else 1)≤o'∨o'+n≤o) :
 cG ag m (eL cs o' n xs) o=some s:=by
 unfold cG at h⊢
 cases ag with
 |false=>
  simp only[Oa]at h hd⊢
  rw[qp hn hle (by omega)];exact h
 |true=>
  simp only[N6]at h hd⊢
  replace h:=af h
  obtain⟨h1,h⟩:=h
  rw[qA hn hle,h1]
  simp only[N6]
  have h1:o+m≤cs.length:=by simpa using h1
  rw[←h]
  congr 2
  apply Pk
  intro j
  rw[Ob,Ob]
  split
  ·rw[Ou,Ou,qp hn hle (by omega)]
  ·rfl
theorem uP{ag:Bool}{m n:Nat}{p q x:SV}(h:cw ag m H p=some s)(h':df n H x q=some H')(hd:qy p (bif ag then m else 1) q n=true):cw ag m H' p=some s:=by
 obtain⟨b',v',i',o',xs,y0,y1,rfl,hxs,hn,hb',_,_,_,bT,hcase⟩:=e8 h'
 obtain⟨_,hlt,hbl,_⟩:=gA bT
 unfold cw at h⊢
 split at h
 ·rename_i b v i o
  by_cases e:b=b'
  ·subst e
   have hg:az H b=some y0:=hb'
   have hg':az H' b=some y1:=by unfold az;rw[hbl];simp[hlt]
   rw[hg]at h
   rw[hg']
   simp only[qy,O8,Px,Pz,O3,Ot,Pr,NY]at hd
   rcases hcase with⟨cs,rfl,hi,hle,rfl⟩|⟨z,L,ex,cs,rfl,hcs,hle,rfl⟩
   ·simp only at h⊢
    replace h:=af h
    obtain⟨h1,h⟩:=h
    rw[h1]
    have h1:i=0:=by simpa using h1
    exact ng h hn hle (by omega)
   ·simp only at h⊢
    replace h:=af h
    obtain⟨h1,h⟩:=h
    rw[h1]
    simp only[N6]
    by_cases ei:i=i'
    ·subst ei
     have hli:=(NT.1 hcs).1
     rw[hcs]at h
     simp only[PY,hli,if_true]at h⊢
     exact ng h hn hle (by omega)
    ·rw[N7 (Ne.symm ei)];exact h
  ·have:az H' b=az H b:=by unfold az;rw[hbl,N7 (Ne.symm e)]
   rw[this];exact h
 ·exact h
 ·cases h
theorem jU{ag:Bool}{m:Nat}{p:SV}(h:cw ag m H p=some s)(hb:∀b v i o,p=.ptr b v i o→H.bl[b]?=H'.bl[b]?):cw ag m H' p=some s:=by
 unfold cw at h⊢
 split at h
 ·rename_i b v i o
  have:az H' b=az H b:=(hb b v i o rfl).symm
  rw[this];exact h
 ·exact h
 ·cases h
theorem oW{ag:Bool}{m:Nat}{b v i o:Nat}(h:cw ag m H (.ptr b v i o)=some s):∃x,H.bl[b]?=some x∧x.live=true:=by
 unfold cw az at h
 simp only at h
 split at h
 ·rename_i cs hb;exact⟨_,hb,rfl⟩
 ·rename_i v' z L ex hb;exact⟨_,hb,rfl⟩
 ·cases h
theorem cA{d:aU}:cH d=true↔∃rd,d.kind=.wr rd:=by unfold cH;cases d.kind<;>simp
theorem xp{a b:bj}(h:vH a b=true):a=b:=by
 cases a<;>cases b<;>simp only[vH,Pc]at h
 rw[O1]at h;rw[h]
theorem mr{pl:List (ak×aU)}{i k:Nat}{o:jH}{d:aU}(h:lJ pl i k o d=true) :
 ∃ag n u rd,o=.load ag n (.t u)∧d.kind=.wr rd∧(.t u,bif ag then n else 1)∈rd∧∀m,i≤m→m<k→∀p,pl[m]?=some p→p.1.dst≠some u:=by
 unfold lJ at h
 split at h
 ·rename_i ag n a rd hk
  rw[NX]at h
  obtain⟨h1,h2⟩:=h
  obtain⟨q,hq,h1⟩:=QF.1 h1
  rw[NX]at h1
  have e1:=xp h1.1
  have e2:q.2=_:=O1.1 h1.2
  cases a with
  |c v=>cases h2
  |t u=>
   refine⟨ag,n,u,rd,rfl,hk,?_,fun m hm hk' p hp=>?_⟩
   ·rw[←e1,←e2];exact hq
   ·have:=N5.1 h2 m (Of.2 hk')
    rw[hp]at this
    simp only[O3,NY,Ot,Pr]at this
    rcases this with h|h
    ·omega
    ·exact h
 ·cases h
end
section
variable{C:Ctx}{ρ:Map}{F:Nat→Prop}{H H':ae}{w:World}
theorem ux{P:Program}{o:Op}{n:Nat}{x y:bj}(h:lQ P o=some (.store n x y)):∃t x' y',o=.store t x' y'∧eO P t=some n∧aG x'=some x∧aG y'=some y:=by
 unfold lQ at h
 split at h
 case h_9 t x' y'=>
  split at h
  ·rename_i n' u v h1 h2 h3
   cases h
   exact⟨t,x',y',rfl,h1,h2,h3⟩
  ·cases h
 case h_23 c=>
  unfold lZ at h
  repeat' split at h
  all_goals (first|(cases h;done)|(simp[NP,cond_eq_ite]at h;done)|(repeat' split at h) )
  all_goals (first|(cases h;done)|(simp[NP,cond_eq_ite]at h;done)|skip)
 all_goals (repeat' split at h)
 all_goals (first|(cases h;done)|(obtain⟨_,_,h2⟩:=kz h;cases h2;done)|(simp[NP,cond_eq_ite]at h;done)|(simp only[cond_eq_ite]at h;repeat' split at h;all_goals (first|(cases h;done)|(simp[NP]at h;done))))
theorem vl{e:Env}{a:Act}{o:Oper}{op:jH}{b:zo}{n:Nat}{x y:bj}(c0:op=pY b ((lQ C.P o.op).getD .bad))(hopo:op=.store n x y)(hs:df n H (ev e y) (ev e x)=some H')(hr:HR C ρ F H w)(he:ER w F ρ e a.tmps)
 {ro:Option Nat} {m:Nat} {K:Act→World→Prop} {Q:Exit→Act→World→Prop} (hK:∀w',HR C ρ F H' w'→Ext C ρ F H w ρ F H' w'→tO C ρ F H H' w w' (ev e y).refs→K (a.put o.dst undef) w'):o.wpIn (WF ro) m C.P a w K Q:=by
 have hc:lQ C.P o.op=some (.store n x y):=by
  rw[hopo]at c0
  cases hc:lQ C.P o.op with
  |none=>rw[hc]at c0;simp only[Option.getD_none]at c0;cases b<;>cases c0
  |some op0=>
   rw[hc]at c0
   simp only[O2]at c0
   unfold pY at c0
   split at c0
   ·cases c0
   ·cases c0
   ·cases c0
   ·cases c0
   ·cases c0
   ·rw[c0]
 obtain⟨t,x',y',ho,h1,h2,h3⟩:=ux hc
 refine⟨fun _ _=>trivial,?_⟩
 rw[Oper.semAt_eq _ _ _ (eU hc)]
 obtain⟨w',k1,k2,k3,k4⟩:=qN h1 hr (ar h2 he) (ar h3 he) hs
 have hx:(execOp a.eval o).run C.P w=.ok .skip w':=by
  simp only[execOp,ho]
  simp[k1,pure,Sem.run]
 rw[hx]
 exact hK w' k2 k3 k4
end
end
end Go.Sh
