/- A part of the proof: texts ShTa, ShU, ShV, ShW, ShX, ShXw, ShX1, ShXp, ShY, ShZ, ShEv. -/
import Derived.LoopNIn
import Derived.RangeFuncNested
import Derived.OrdersIn
import Derived.Test.YtcfgikdpokjhpaaGreatB1
namespace Go.Sh
set_option linter.unusedSectionVars false
set_option linter.unnecessarySimpa false
set_option linter.unusedSimpArgs false
set_option linter.unusedVariables false
set_option maxRecDepth 100000
set_option maxHeartbeats 4000000
section
section
variable{C:Ctx}
theorem HR.U9{ρ:Map}{F:Nat→Prop}{H H1:ab}{w:World}(hr:HR C ρ F H w){b:Nat}{x:aC}{l:Loc}{refs:Nat}(hH:ca H b .dead refs=some H1)(hb:H.bl[b]?=some x)(hx:x.live=true)(hl:ρ b=some l)(hnl:∀r st p,x≠.loop r st p) :
 HR C ρ (fun B=>F B∨(l.bC=false∧B=l.cm)) H1 w∧Ext C ρ F H w ρ (fun B=>F B∨(l.bC=false∧B=l.cm)) H1 w:=by
 obtain⟨p1,p2⟩:=hr.set (w':=w) (l':=l) (y:=.dead) hH hb hx hl (acH _) (fun _ _ _=>rfl) (fun h=>.inl ⟨h,rfl⟩) (.inl rfl) (fun h=>by cases h) (fun h=>by cases h) (fun⟨r,st,p,h⟩=>absurd h (hnl r st p))
 rw[bY hl]at p1 p2
 have hro:H.ro≤b∧b<H.bl.length∧H1.bl=H.bl.set b .dead:=by
  unfold ca at hH
  replace hH:=aj hH
  obtain⟨h1,h2⟩:=hH
  simp at h1
  cases h2
  exact⟨h1.1,h1.2,rfl⟩
 have hown:∀b' l1,Own ρ H1 b' l1→b'≠b∧Own ρ H b' l1:=by
  intro b' l1 ⟨⟨y,hy,hyl⟩,hm,hv⟩
  have hne:b'≠b:=by
   intro e
   subst e
   rw[hro.2.2]at hy
   simp[hro.2.1]at hy
   subst hy;cases hyl
  rw[hro.2.2,acv (Ne.symm hne)]at hy
  exact⟨hne,⟨y,hy,hyl⟩,hm,hv⟩
 refine⟨⟨p1.jT,fun b' y hy hyl=>?_,p1.apart,fun b' l1 ho=>⟨fun h=>?_,(p1.own b' l1 ho).2⟩,fun B hB=>?_⟩,?_⟩
 ·obtain⟨l1,h1,h2⟩:=p1.live b' y hy hyl
  exact⟨l1,h1,h2.mono (fun _ _=>rfl) (fun _ h=>.inl h) (Map.le_refl _) (fun _=>rfl)⟩
 ·rcases h with h|⟨hv,h⟩
  ·exact(p1.own b' l1 ho).1 h
  ·obtain⟨h1,h2⟩:=hown b' l1 ho
   exact h1 (hr.apart b' b l1 l h2 ⟨⟨x,hb,hx⟩,hl,hv⟩ h)
 ·rcases hB with h|⟨hv,h⟩
  ·exact p1.iM B h
  ·rw[h];exact(hr.own b l ⟨⟨x,hb,hx⟩,hl,hv⟩).2
 ·refine⟨⟨p2.map,fun _ h=>.inl h,fun B hB=>?_,p2.frame,p2.size,p2.old,p2.ro,p2.bT,fun N hN hc h0 b' y l1 hb1 hy hyl hm=>(p2.inv N hN hc h0 b' y l1 hb1 hy hyl hm).mono (fun _ _=>rfl) (fun _ h=>.inl h) (Map.le_refl _) (fun _=>rfl),p2.lp,p2.ln,p2.out⟩,p2.nd⟩
  rcases hB with h|⟨hv,h⟩
  ·exact .inl h
  ·exact .inr (.inr ⟨b,l,⟨⟨x,hb,hx⟩,hl,hv⟩,hro.1,h.symm⟩)
theorem BG{ρ ρ':Map}{F F':Nat→Prop}{H:ab}{w:World}(hr:HR C ρ F H w){b cC off n z:Nat}{L:List (List SV)}{ex:Bool}{val:Value}{l:Loc}(hv:VR w F ρ (.bn b cC off n) val)(hb:bk H b=some (.arr cC z L ex))(hle:off+n≤L.length)
 (h0:SV.refs.av ((L.drop off).take n).flatten=0) (hl:ρ b=some l) (hFF:∀B,F B→F' B) (hF:l.bC=false→F' l.cm):VR w F' ρ' (.ao z ((L.drop off).take n) false) val:=by
 obtain⟨l',z',L',ex',hl',hb',hbr,g1,g2⟩:=ep hr (by unfold cur;simp[hb]) hv
 rw[hb]at hb';cases hb'
 rw[hl]at hl';cases hl'
 obtain⟨b1,b2,b3,b4,b5,b6,b7,b8⟩:=hbr
 have hlen:((L.drop off).take n).length=n:=by simp;omega
 have bk:∀(i:Nat) cs,((L.drop off).take n)[i]?=some cs→i<n∧L[off+i]?=some cs:=by
  intro i cs hi
  rw[acX]at hi
  split at hi
  ·rw[ado]at hi;exact⟨by assumption,hi⟩
  ·cases hi
 cases hvi:l.bC with
 |true=>
  obtain⟨q,rfl,rfl,rfl⟩:=g1 hvi
  have:VR w F' ρ' (.ao z [] false) (.slice q ([]:List (List SV)).length 0):=.ao (fun _ _=>undef) (acH _) (fun _=>rfl) (by simp) (.inl rfl) (by simp) (by simp)
  simpa using this
 |false=>
  obtain⟨g3,q,rfl,g4⟩:=g2 hvi
  obtain⟨vs,ty,fz,k1,k2,k3,k4⟩:=b8 hvi
  have hcell:∀(i j:Nat) cs c,((L.drop off).take n)[i]?=some cs→cs[j]?=some c→∃v,vs[l.base+(off+i)*z+j]?=some v∧VR w F ρ c v∧c.je=true:=fun i j cs c hi hj=>k4 _ cs (bk i cs hi).2 j c hj
  have hq:VR w F' ρ' (.ao z ((L.drop off).take n) false) (.slice q ((L.drop off).take n).length (l.cap-off)):=by
   refine .ao (fun i j=>vs.getD (l.base+(off+i)*z+j) undef) (by omega) (fun h=>by cases h) (fun i cs hi=>b4 _ cs (bk i cs hi).2) ?_ (fun i j cs c hi hj=>?_) (fun i j cs c hi hj=>?_)
   ·by_cases hn:n=0
    ·left;subst hn;simp
    ·right
     refine⟨l.cm,l.base+off*z,?_,hF hvi,fun i j cs c hi hj=>?_⟩
     ·rw[g4 (by omega),b3]
     ·obtain⟨v,h1,_⟩:=hcell i j cs c hi hj
      rw[oh k1,show l.base+off*z+i*z+j=l.base+(off+i)*z+j by rw[adI];omega,h1]
      rw[adN,h1];rfl
   ·obtain⟨v,h1,h2,h3⟩:=hcell i j cs c hi hj
    exact h3
   ·obtain⟨v,h1,h2,h3⟩:=hcell i j cs c hi hj
    rw[adN,h1]
    have hm:c∈((L.drop off).take n).flatten:=afc.2 ⟨cs,acy hi,acy hj⟩
    obtain⟨m,hm⟩:=ac4 hm
    have h5:=fh (aes h0) m c hm
    have h6:=h2.cut 0 h5
    have:ρ.cut 0=dH:=by funext b;simp[Map.cut]
    rw[this]at h6
    exact h6.mono (fun _ _=>rfl) hFF (Map.le_refl _)
  rw[hlen]at hq
  exact hq
theorem Hi{ρ:Map}{F:Nat→Prop}{w:World}{N:Nat}(hdom:∀b l,ρ b=some l→b<N):ρ.cut N=ρ:=by
 funext b
 unfold Map.cut
 split
 ·rfl
 ·rename_i h
  cases hb:ρ b with
  |none=>rfl
  |some l=>exact absurd (hdom b l hb) h
theorem GO(ρ:Map){N M:Nat}(h:M≤N):(ρ.cut N).cut M=ρ.cut M:=by
 funext b
 unfold Map.cut
 by_cases hb:b<M
 ·simp[hb,show b<N by omega]
 ·simp[hb]
structure D8(N:Nat)(H0 H H1:ab):Prop where
 le:N≤H.bl.length
 clean:Clean N H.bT
 bl:H1.bl=H.bl.take N
 Tp:∀p∈H0.bT,p∈H1.bT
 XI:∀p∈H.bT,p.1<N→p∈H1.bT
 ro:H1.ro=H0.ro
theorem m9{N:Nat}{H0 H H1:ab}(h:di N H0 H=some H1):D8 N H0 H H1:=by
 unfold di at h
 replace h:=aj h
 obtain⟨hc,h⟩:=h
 cases h
 simp only[acw,acr]at hc
 refine⟨hc.1,fun p hp=>?_,rfl,fun p hp=>adW _ hp,fun p hp hl=>aex _ (adO.2 ⟨hp,by simpa using hl⟩),rfl⟩
 have:=acZ.1 hc.2 p hp
 simp only[ac8,aec,acx]at this
 omega
theorem HR.di{ρ0 ρ:Map}{F0 F:Nat→Prop}{H0 H H1:ab}{w0 w:World}{N:Nat}(hr0:HR C ρ0 F0 H0 w0)(hN:H0.bl.length=N)(hr:HR C ρ F H w)(hx:Ext C ρ0 F0 H0 w0 ρ F H w)(ht:D8 N H0 H H1) :
 HR C (ρ.cut N) F H1 w∧Ext C ρ0 F0 H0 w0 (ρ.cut N) F H1 w:=by
 have hlen:H1.bl.length=N:=by rw[ht.bl,adA];exact adM ht.le
 have bk:∀(b:Nat) x,H1.bl[b]?=some x→b<N∧H.bl[b]?=some x:=by
  intro b x hb
  rw[ht.bl,acX]at hb
  split at hb
  ·exact⟨by assumption,hb⟩
  ·cases hb
 have hcut:∀b l,ρ.cut N b=some l→b<N∧ρ b=some l:=by
  intro b l hb
  unfold Map.cut at hb
  split at hb
  ·exact⟨by assumption,hb⟩
  ·cases hb
 have hown:∀b l,Own (ρ.cut N) H1 b l→Own ρ H b l:=by
  intro b l ⟨⟨x,hx,hxl⟩,hm,hv⟩
  exact⟨⟨x,(bk b x hx).2,hxl⟩,(hcut b l hm).2,hv⟩
 have hinv:Cm C N ρ F H w:=hx.inv N ht.le ht.clean (fun _ b x l hb hbx hxl hl=>by
  rw[Hi (F:=F0) (w:=w0) (fun b l h=>hN▸hr0.jT b l h)]
  obtain⟨l',h1,h2⟩:=hr0.live b x hbx hxl
  rw[hl]at h1;cases h1
  exact h2)
 refine⟨⟨fun b l hb=>by rw[hlen];exact(hcut b l hb).1,fun b x hb hxl=>?_,fun b b' l l' h h' e=>hr.apart b b' l l' (hown b l h) (hown b' l' h') e,fun b l ho=>hr.own b l (hown b l ho),hr.iM⟩,?_⟩
 ·obtain⟨h1,h2⟩:=bk b x hb
  obtain⟨l,h3,_⟩:=hr.live b x h2 hxl
  exact⟨l,by unfold Map.cut;rw[if_pos h1];exact h3,hinv b x l h1 h2 hxl h3⟩
 ·refine⟨⟨fun b l hb=>?_,hx.iM,hx.new,hx.frame,hx.size,fun b l ho=>hx.old b l (hown b l ho),ht.ro,ht.Tp,fun M hM hc h0 b x l hb hbx hxl hl=>?_,hx.lp,by rw[hlen];omega,hx.out⟩,fun b l hb=>hx.nd b l (hcut b l hb).2⟩
  ·obtain⟨l',h1,h2⟩:=hx.map b l hb
   have:=hr0.jT b l hb
   exact⟨l',by unfold Map.cut;rw[if_pos (by omega)];exact h1,h2⟩
  ·rw[hlen]at hM
   rw[GO ρ hM]
   refine hx.inv M (ac7 hM ht.le) (fun p hp hpc=>?_) h0 b x l hb (bk b x hbx).2 hxl (hcut b l hl).2
   exact hc p (ht.XI p hp (by omega)) hpc
end
section
variable{C:Ctx}{ρ ρ0 ρ':Map}{F F0 F':Nat→Prop}{H H0 H' H1:ab}{w w0 w':World}
theorem Ext.enter(hr:HR C ρ F H w)(h:Ext C ρ F {bl:=H.bl,bT:=[],ro:=min H.ro H.bl.length} w ρ' F' H' w')(e1:H1.bl=H'.bl)(e2:H1.bT=H.bT++H'.bT)(e3:H1.ro=H.ro):Ext C ρ F H w ρ' F' H1 w':=by
 have hlt:∀b l,Own ρ {bl:=H.bl,bT:=[],ro:=min H.ro H.bl.length} b l→Own ρ H b l∧b<H.bl.length:=fun b l ho=>⟨ho,hr.jT b l ho.2.1⟩
 have hown:∀b l,Own ρ' H1 b l→Own ρ' H' b l:=fun b l ⟨⟨x,hx,hxl⟩,hm,hv⟩=>⟨⟨x,e1▸hx,hxl⟩,hm,hv⟩
 refine⟨⟨fun b l hb=>?_,h.iM,fun B hB=>?_,fun B hB hno=>h.frame B hB (fun b l ho hm=>hno b l ho (by have:=(hlt b l ho).2;simp only at hm;omega)),h.size,fun b l ho=>h.old b l (hown b l ho),e3,fun p hp=>?_,fun N hN hc h0 b x l hb hx hxl hl=>?_,h.lp,e1▸h.ln,h.out⟩,h.nd⟩
 ·obtain⟨l',h1,h2⟩:=h.map b l hb
  refine⟨l',h1,h2.imp id (fun⟨a,c⟩=>⟨?_,c⟩)⟩
  have:=hr.jT b l hb
  simp only at a
  omega
 ·rcases h.new B hB with h1|h1|⟨b,l,h1,h2,h3⟩
  ·exact .inl h1
  ·exact .inr (.inl h1)
  ·have:=(hlt b l h1).2
   exact .inr (.inr ⟨b,l,h1,by simp only at h2;omega,h3⟩)
 ·rw[e2];exact adW _ hp
 ·rw[e1]at hx hN
  exact h.inv N hN (fun p hp=>hc p (by rw[e2];exact aex _ hp)) h0 b x l hb hx hxl hl
theorem HR.bl(hr:HR C ρ F H w)(e1:H1.bl=H.bl):HR C ρ F H1 w:=
 ⟨fun b l h=>e1▸hr.jT b l h,fun b x hb hx=>hr.live b x (e1▸hb) hx,fun b b' l l' h h' e=>hr.apart b b' l l' (by obtain⟨⟨x,h1,h2⟩,h3⟩:=h;exact⟨⟨x,e1▸h1,h2⟩,h3⟩) (by obtain⟨⟨x,h1,h2⟩,h3⟩:=h';exact⟨⟨x,e1▸h1,h2⟩,h3⟩) e,
  fun b l h=>hr.own b l (by obtain⟨⟨x,h1,h2⟩,h3⟩:=h;exact⟨⟨x,e1▸h1,h2⟩,h3⟩),hr.iM⟩
theorem pQ(hr0:HR C ρ0 F0 H0 w0)(hr:HR C ρ F H w)(hx:Ext C ρ0 F0 {bl:=H0.bl,bT:=[],ro:=min H0.ro H0.bl.length} w0 ρ F H w)(ht:di H0.bl.length H0 H=some H1) :
 HR C (ρ.cut H0.bl.length) F H1 w∧Ext C ρ0 F0 H0 w0 (ρ.cut H0.bl.length) F H1 w:=by
 have hts:=m9 ht
 unfold Go.Sh.di at ht
 replace ht:=aj ht
 obtain⟨hc,ht⟩:=ht
 cases ht
 have hT:D8 H0.bl.length {bl:=H0.bl,bT:=[],ro:=min H0.ro H0.bl.length} H {bl:=H.bl.take H0.bl.length,bT:=H.bT.filter (fun p=>decide (p.1<H0.bl.length)),ro:=min H0.ro H0.bl.length}:=
  ⟨hts.le,hts.clean,rfl,(fun _ h=>by cases h),fun p hp hl=>adO.2 ⟨hp,by simpa using hl⟩,rfl⟩
 obtain⟨p1,p2⟩:=HR.di (H0:={bl:=H0.bl,bT:=[],ro:=min H0.ro H0.bl.length}) (hr0.bl rfl) rfl hr hx hT
 exact⟨p1.bl rfl,p2.enter hr0 rfl rfl rfl⟩
theorem HR.more(hr:HR C ρ F H w)(hFF:∀B,F B→F' B)(h:∀B,F' B→F B∨(B<w.heap.size∧∀b l,Own ρ H b l→l.cm≠B)):HR C ρ F' H w:=
 ⟨hr.jT,fun b x hb hx=>let⟨l,h1,h2⟩:=hr.live b x hb hx;⟨l,h1,h2.mono (fun _ _=>rfl) hFF (Map.le_refl _) (fun _=>rfl)⟩,hr.apart,
  fun b l ho=>⟨fun hF=>(h _ hF).elim (hr.own b l ho).1 (fun h1=>h1.2 b l ho rfl),(hr.own b l ho).2⟩,fun B hB=>(h B hB).elim (hr.iM B) (·.1)⟩
theorem Ext.more(hx:Ext C ρ0 F0 H0 w0 ρ F H w)(hFF:∀B,F B→F' B)(h:∀B,F' B→F B∨w0.heap.size≤B):Ext C ρ0 F0 H0 w0 ρ F' H w:=
 ⟨⟨hx.map,fun B hB=>hFF B (hx.iM B hB),fun B hB=>(h B hB).elim (hx.new B) (fun h=>.inr (.inl h)),hx.frame,hx.size,hx.old,hx.ro,hx.bT,
   fun N hN hc h0 b x l hb hxx hxl hl=>(hx.inv N hN hc h0 b x l hb hxx hxl hl).mono (fun _ _=>rfl) hFF (Map.le_refl _) (fun _=>rfl),hx.lp,hx.ln,hx.out⟩,hx.nd⟩
theorem HR.other(hr:HR C ρ F H w)(hx:Ext C ρ0 F0 H0 w0 ρ F H w)(hs:w'.heap.size=w.heap.size)(ho':w'.os=w.os∧w'.output=w.output)
 (hh:∀B,(F B∨(∃b l,Own ρ H b l∧l.cm=B)∨B<w0.heap.size)→w'.heap[B]?=w.heap[B]?):HR C ρ F H w'∧Ext C ρ0 F0 H0 w0 ρ F H w':=by
 have hk:dO F w w':=fun B hB=>hh B (.inl hB)
 have ho:∀b l x,H.bl[b]?=some x→x.live=true→ρ b=some l→l.bC=false→w'.heap[l.cm]?=w.heap[l.cm]?:=fun b l x h1 h2 h3 h4=>hh _ (.inr (.inl ⟨b,l,⟨⟨x,h1,h2⟩,h3,h4⟩,rfl⟩))
 refine⟨⟨hr.jT,fun b x hb hxl=>?_,hr.apart,fun b l h=>⟨(hr.own b l h).1,hs▸(hr.own b l h).2⟩,fun B hB=>hs▸hr.iM B hB⟩,?_⟩
 ·obtain⟨l,h1,h2⟩:=hr.live b x hb hxl
  exact⟨l,h1,h2.mono hk (fun _ h=>h) (Map.le_refl _) (fun hv=>ho b l x hb hxl h1 hv)⟩
 ·refine⟨⟨hx.map,hx.iM,hx.new,fun B hB hno=>(hh B (.inr (.inr hB))).trans (hx.frame B hB hno),hs▸hx.size,hx.old,hx.ro,hx.bT,fun N hN hc h0 b x l hb hxx hxl hl=>?_,fun B q hq=>?_,hx.ln,⟨ho'.1.trans hx.out.1,ho'.2.trans hx.out.2⟩⟩,hx.nd⟩
  ·exact(hx.inv N hN hc h0 b x l hb hxx hxl hl).mono hk (fun _ h=>h) (Map.le_refl _) (fun hv=>ho b l x hxx hxl hl hv)
  ·obtain⟨q',h1⟩:=hx.lp B q hq
   exact⟨q',(hh B (.inr (.inr (ac6.1 hq).1))).trans h1⟩
theorem AD{N:Nat}:∀(d:Nat) {v v':SV},ez N H d v=some v'→v.je=true→v'.je=true
 |0,v,v',h,_=>by simp[ez]at h
 |d+1,v,v',h,h1=>by
  unfold ez at h
  split at h
  ·cases h1
  ·cases h1
  ·rename_i b cC off n
   cases hb:decide (b<N)with
   |true=>rw[hb]at h;cases h;rfl
   |false=>
    rw[hb]at h
    simp only[acJ]at h
    split at h
    ·replace h:=aj h
     obtain⟨_,h⟩:=h
     simp only[acu]at h
     obtain⟨L',_,h⟩:=h
     replace h:=aj h
     cases h.2;rfl
    ·cases h
  ·cases h;rfl
  ·cases h;rfl
  ·cases h;rfl
  ·replace h:=aj h
   cases h.2;exact h1
theorem yK{N:Nat}(hr:HR C ρ F H w)(hFF:∀B,F B→F' B)(hF:∀b l,Own ρ H b l→N≤b→F' l.cm):∀(d:Nat) {v v':SV} {val:Value},ez N H d v=some v'→VR w F ρ v val→VR w F' (ρ.cut N) v' val
 |0,v,v',val,h,_=>by simp[ez]at h
 |d+1,v,v',val,h,hv=>by
  have ih:=fun{v v' val}=>yK hr hFF hF d (v:=v) (v':=v') (val:=val)
  have small:∀{v:SV} {val:Value},v.refs≤N→VR w F ρ v val→VR w F' (ρ.cut N) v val:=fun h1 h2=>(h2.cut N h1).mono (fun _ _=>rfl) hFF (Map.le_refl _)
  unfold ez at h
  split at h
  ·rename_i cs
   simp only[acq]at h
   obtain⟨cs',h1,rfl⟩:=h
   obtain⟨hl,hp⟩:=eb h1
   cases hv with
   |agg hn h1' hv'=>
    have hj:∀(j:Nat) c',cs'[j]?=some c'→∃c,cs[j]?=some c∧ez N H d c=some c':=fun j c' hj=>by
     have hlt:=(acm.1 hj).1
     have hc:cs[j]?=some cs[j]:=acK (by omega)
     exact⟨_,hc,hp j _ _ hc hj⟩
    refine .agg (by omega) (fun j c' hjc=>?_) (fun j c' v hjc hjv=>?_)
    ·obtain⟨c,k1,k2⟩:=hj j c' hjc
     exact AD d k2 (h1' j c k1)
    ·obtain⟨c,k1,k2⟩:=hj j c' hjc
     exact ih k2 (hv' j c v k1 hjv)
  ·rename_i cs
   simp only[acq]at h
   obtain⟨cs',h1,rfl⟩:=h
   obtain⟨hl,hp⟩:=eb h1
   cases hv with
   |bc hn hv'=>
    refine .bc (by omega) (fun j c' v hjc hjv=>?_)
    have hlt:=(acm.1 hjc).1
    have hc:cs[j]?=some cs[j]:=acK (by omega)
    exact ih (hp j _ _ hc hjc) (hv' j _ v hc hjv)
  ·rename_i b cC off n
   cases hb:decide (b<N)with
   |true=>
    rw[hb]at h;cases h
    exact small (by simp only[SV.refs];simp at hb;omega) hv
   |false=>
    rw[hb]at h
    simp only[acx,Nat.not_lt]at hb
    simp only[acJ]at h
    split at h
    ·rename_i ver' z L ex hbl
     replace h:=aj h
     obtain⟨hc,h⟩:=h
     simp only[acw,adK,acr]at hc
     obtain⟨rfl,hle⟩:=hc
     simp only[acu]at h
     obtain⟨L',hL',h⟩:=h
     replace h:=aj h
     obtain⟨h0,h⟩:=h
     cases h
     have h0:SV.refs.av L'.flatten=0:=by simpa using h0
     obtain⟨hl1,hp⟩:=eb hL'
     obtain⟨l,z',L2,ex',hl',hb',hbr,g1,g2⟩:=ep hr (by unfold cur;simp[hbl]) hv
     rw[hbl]at hb';cases hb'
     obtain⟨b1,b2,b3,b4,b5,b6,b7,b8⟩:=hbr
     have hlen:L'.length=n:=by rw[hl1];simp;omega
     have bk:∀(i:Nat) cs',L'[i]?=some cs'→∃cs,L[off+i]?=some cs∧cs'.length=cs.length∧∀(j:Nat) c',cs'[j]?=some c'→∃c,cs[j]?=some c∧ez N H d c=some c':=by
      intro i cs' hi
      have hlt:=(acm.1 hi).1
      have hsrc:((L.drop off).take n)[i]?=some ((L.drop off).take n)[i]:=acK (by omega)
      obtain⟨k1,k2⟩:=eb (hp i _ _ hsrc hi)
      refine⟨((L.drop off).take n)[i],?_,k1,fun j c' hj=>?_⟩
      ·rw[←hsrc,acX,if_pos (by omega),ado]
      ·have hlt':=(acm.1 hj).1
       have hcj:(((L.drop off).take n)[i])[j]?=some _:=acK (by omega)
       exact⟨_,hcj,k2 j _ _ hcj hj⟩
     cases hvi:l.bC with
     |true=>
      obtain⟨q,rfl,rfl,rfl⟩:=g1 hvi
      have:L'=[]:=adR hlen
      subst this
      have:VR w F' (ρ.cut N) (.ao z [] (ex&&0+0==L.length)) (.slice q ([]:List (List SV)).length 0):=.ao (fun _ _=>undef) (acH _) (fun _=>rfl) (by simp) (.inl rfl) (by simp) (by simp)
      simpa using this
     |false=>
      obtain⟨g3,q,rfl,g4⟩:=g2 hvi
      obtain⟨vs,ty,fz,k1,k2,k3,k4⟩:=b8 hvi
      have hcell:∀(i j:Nat) cs' c',L'[i]?=some cs'→cs'[j]?=some c'→∃v,vs[l.base+(off+i)*z+j]?=some v∧VR w F' (ρ.cut N) c' v∧c'.je=true:=by
       intro i j cs' c' hi hj
       obtain⟨cs,h1,_,h3⟩:=bk i cs' hi
       obtain⟨c,h4,h5⟩:=h3 j c' hj
       obtain⟨v,h6,h7,h8⟩:=k4 _ cs h1 j c h4
       exact⟨v,h6,ih h5 h7,AD d h5 h8⟩
      have hFl:F' l.cm:=hF b l ⟨⟨_,hbl,rfl⟩,hl',hvi⟩ hb
      have hq:VR w F' (ρ.cut N) (.ao z L' (ex&&off+n==L.length)) (.slice q L'.length (l.cap-off)):=by
       refine .ao (fun i j=>vs.getD (l.base+(off+i)*z+j) undef) (by omega) (fun h=>by
        simp only[acw,adK]at h
        have:=b6 h.1
        omega) (fun i cs' hi=>?_) ?_ (fun i j cs' c' hi hj=>?_) (fun i j cs' c' hi hj=>?_)
       ·obtain⟨cs,h1,h2,_⟩:=bk i cs' hi
        rw[h2];exact b4 _ cs h1
       ·by_cases hn:n=0
        ·left;exact adR (by omega)
        ·right
         refine⟨l.cm,l.base+off*z,?_,hFl,fun i j cs' c' hi hj=>?_⟩
         ·rw[g4 (by omega),b3]
         ·obtain⟨v,h1,_⟩:=hcell i j cs' c' hi hj
          rw[oh k1,show l.base+off*z+i*z+j=l.base+(off+i)*z+j by rw[adI];omega,h1]
          rw[adN,h1];rfl
       ·obtain⟨v,h1,h2,h3⟩:=hcell i j cs' c' hi hj
        exact h3
       ·obtain⟨v,h1,h2,h3⟩:=hcell i j cs' c' hi hj
        rw[adN,h1]
        have hm:c'∈L'.flatten:=afc.2 ⟨cs',acy hi,acy hj⟩
        obtain⟨m,hm⟩:=ac4 hm
        have h6:=h2.cut 0 (fh (aes h0) m c' hm)
        have:(ρ.cut N).cut 0=dH:=by funext b;simp[Map.cut]
        rw[this]at h6
        exact h6
      rw[hlen]at hq
      exact hq
    ·cases h
  ·cases h;exact small (aei _) hv
  ·cases h;exact small (aei _) hv
  ·cases h;exact small (aei _) hv
  ·replace h:=aj h
   obtain⟨h1,h⟩:=h
   cases h
   exact small (by simpa using h1) hv
theorem z8{ρ:Map}{N:Nat}{H H1:ab}(hb:H1.bl=H.bl.take N):∀b l,Own (ρ.cut N) H1 b l→Own ρ H b l:=by
 intro b l ⟨⟨x,hx,hxl⟩,hm,hv⟩
 rw[hb,acX]at hx
 unfold Map.cut at hm
 split at hx
 ·rename_i hlt
  rw[if_pos hlt]at hm
  exact⟨⟨x,hx,hxl⟩,hm,hv⟩
 ·cases hx
theorem nR{keep:Bool}{v v1:SV}{val:Value}(hr0:HR C ρ0 F0 H0 w0)(hr:HR C ρ F H w)(hx:Ext C ρ0 F0 {bl:=H0.bl,bT:=[],ro:=min H0.ro H0.bl.length} w0 ρ F H w)(hv:VR w F ρ v val)
 (h:da keep H0 v H=some (v1,H1)):dJ C ρ0 F0 H0 w0 v1 H1 val w:=by
 unfold da at h
 cases keep with
 |true=>
  cases h
  exact⟨ρ,F,hv,hr.bl rfl,hx.enter hr0 rfl rfl rfl⟩
 |false=>
  simp only[acJ,acu,acq,acY]at h
  obtain⟨v2,hf,H2,ht,rfl,rfl⟩:=h
  obtain⟨p1,p2⟩:=pQ hr0 hr hx ht
  have hts:=m9 ht
  refine⟨_,fun B=>F B∨∃b l,Own ρ H b l∧H0.bl.length≤b∧l.cm=B,yK hr (fun _ h=>.inl h) (fun b l ho hb=>.inr ⟨b,l,ho,hb,rfl⟩) _ hf hv,p1.more (fun _ h=>.inl h) (fun B hB=>?_),p2.more (fun _ h=>.inl h) (fun B hB=>?_)⟩
  ·rcases hB with h|⟨b,l,ho,hb,rfl⟩
   ·exact .inl h
   ·refine .inr ⟨(hr.own b l ho).2,fun b' l' ho' e=>?_⟩
    have h1:=hr.apart b' b l' l (z8 hts.bl b' l' ho') ho e
    have h2:=ho'.2.1
    unfold Map.cut at h2
    split at h2
    ·omega
    ·cases h2
  ·rcases hB with h|⟨b,l,ho,hb,rfl⟩
   ·exact .inl h
   ·rcases hx.old b l ho with h1|⟨l0,h1,_⟩
    ·exact .inr h1
    ·have:=hr0.jT b l0 h1.2.1
     omega
theorem EG{N:Nat}{d:Nat}{v:SV}(h1:v.je=true)(h0:v.refs=0):ez N H (d+1) v=some v:=by
 cases v<;>simp_all [ez,SV.je,SV.refs]
theorem pn{A:Type}{f:A→Option A}:∀(l:List A),(∀x∈l,f x=some x)→bR (l.map f)=some l
 |[],_=>rfl
 |x::l,h=>by
  simp only[ada,h x (ac5 ..),bR,pn l (fun y hy=>h y (ade _ hy)),adm]
theorem Dv{e:Env}{a:Act}{s:SV}{o:Oper}{bP n:Nat}{z:List SV}{ps:List (Nat×bX)}(ed:oW C.P o.op=some (.gl bP z n ps))
 (hs:cb e H (.dT bP z n ps)=some (s,H')) (hr:HR C ρ F H w) (he:ER w F ρ e a.tmps):bL C (execOp a.eval o) ρ F H w s H':=by
 simp only[cb,acq,acu,acY]at hs
 obtain⟨s',⟨L,hL,h0⟩,rfl,rfl⟩:=hs
 replace h0:=aj h0
 obtain⟨h0,h1⟩:=h0
 cases h1
 have h0:SV.refs.av L.flatten=0:=by simpa using h0
 have hlen:L.length=n:=by
  have:∀(ps:List (Nat×bX)) (l r:List (List SV)),fc (ev e) bP l ps=some r→r.length=l.length:=by
   intro ps
   induction ps with
   |nil=>intro l r h;simp[fc]at h;rw[h]
   |cons p ps ih=>
    intro l r h
    obtain⟨i,x⟩:=p
    simp only[fc,acu]at h
    obtain⟨cs,_,h⟩:=h
    replace h:=aj h
    have:=ih _ _ h.2
    simpa using this
  simpa using this ps _ _ hL
 let Hc:ab:={bl:=H.bl,bT:=[],ro:=min H.ro H.bl.length}
 have hsop:cb e Hc (.gl bP z n ps)=some (.bn H.bl.length 0 0 n,bJ Hc (.arr 0 bP L true)):=by simp only[cb,hL,adm,Hc]
 obtain⟨val,w',hy,ρ1,F1,d1,d2,d3⟩:=z6 ed (hr.bl (H1:=Hc) rfl) he hsop
 have hg:bk (bJ Hc (.arr 0 bP L true)) H.bl.length=some (.arr 0 bP L true):=by simp[bk,bJ,Hc]
 obtain⟨l,hl,hbr⟩:=d2.live _ _ hg rfl
 obtain⟨b1,b2,b3,b4,b5,b6,b7,b8⟩:=hbr
 have hok:∀r∈L,∀c∈r,c.je=true:=by
  intro r hr' c hc
  obtain⟨i,hi⟩:=ac4 hr'
  obtain⟨j,hj⟩:=ac4 hc
  cases hv:l.bC with
  |true=>
   have:=b7 hv
   have:=(acm.1 hi).1
   omega
  |false=>
   obtain⟨vs,ty,fz,k1,k2,k3,k4⟩:=b8 hv
   obtain⟨v,_,_,h⟩:=k4 i r hi j c hj
   exact h
 have hrf:∀r∈L,∀c∈r,c.refs=0:=by
  intro r hr' c hc
  obtain⟨m,hm⟩:=ac4 (afc.2 ⟨r,hr',hc⟩)
  have:=fh (aes h0) m c hm
  omega
 have hfz:bR (((L.drop 0).take n).map fun cs=>bR (cs.map (ez H.bl.length (bJ Hc (.arr 0 bP L true)) 7)))=some L:=by
  rw[aev,ac1 (by omega)]
  exact pn L (fun r hr'=>pn r (fun c hc=>EG (d:=6) (hok r hr' c hc) (hrf r hr' c hc)))
 have hleave:da false H (.bn H.bl.length 0 0 n) (bJ Hc (.arr 0 bP L true))=some (.ao bP L true,H):=by
  have h1:ez H.bl.length (bJ Hc (.arr 0 bP L true)) 8 (.bn H.bl.length 0 0 n)=some (.ao bP L true):=by
   unfold ez
   simp only[aeL,aeS,acJ,hg]
   rw[hfz]
   simp[h0,hlen]
  have h2:di H.bl.length H (bJ Hc (.arr 0 bP L true))=some H:=by
   simp[di,bJ,Hc]
  unfold da
  simp only[acJ,cG,h1,adq,h2,adm]
 exact⟨val,w',hy,nR hr d2 d3 d1 hleave⟩
theorem C4(h1:HR C ρ F H w){n b z z':Nat}(hn:ρ n=some ⟨0,0,0,z,0,true,true⟩)(hb:H.bl[b]?=some (.box [.ao z' [] true]))(hB:ca H b (.box [.bn n 0 0 0]) (n+1)=some H') :
 HR C ρ F H' w∧Ext C ρ F H w ρ F H' w:=by
 obtain⟨l,hl,hbr⟩:=h1.live b _ hb rfl
 have key:∀ρ1 ρ2:Map,ρ2 n=some ⟨0,0,0,z,0,true,true⟩→BR C w F ρ1 l (.box [.ao z' [] true])→BR C w F ρ2 l (.box [.bn n 0 0 0]):=by
  intro ρ1 ρ2 hρ ⟨g1,g2,g3,g4,g5,vs',ty,fz,g6,g7,g8,g9⟩
  refine⟨g1,g2,g3,g4,g5,vs',ty,fz,g6,g7,g8,fun j c hj=>?_⟩
  cases j with
  |succ j=>simp at hj
  |zero=>
   simp only[List.getElem?_cons_zero,acN]at hj
   subst hj
   obtain⟨val,k1,k2,k3⟩:=g9 0 _ rfl
   refine⟨val,k1,?_,rfl⟩
   cases k2 with
   |ao V hcap hfull hz hat h1' hv'=>
    have hc:=hfull rfl
    simp only[acV]at hc
    subst hc
    exact .bn hρ (acH _) rfl (fun _=>⟨fun _=>⟨_,rfl,rfl,rfl⟩,fun h=>by cases h⟩)
 have:=h1.set (w':=w) (l':=l) hB hb rfl hl (acH _) (fun _ _ _=>rfl) (fun h=>.inl ⟨h,rfl⟩) (.inl rfl)
  (fun _=>by rw[bY hl];exact key _ _ hn hbr)
  (fun _ N hN hbN hbr=>by rw[bY hl];exact key _ _ (by unfold Map.cut;rw[if_pos (by omega)];exact hn) hbr)
 rwa [bY hl]at this
theorem Bl{e:Env}{a:Act}{s:SV}{o:Oper}{z:Nat}(ed:oW C.P o.op=some (.alloc [.ao 0 [] true]))(hs:cb e H (.o7 z)=some (s,H'))(hr:HR C ρ F H w)(he:ER w F ρ e a.tmps):bL C (execOp a.eval o) ρ F H w s H':=by
 simp only[cb,acq,acY]at hs
 obtain⟨H2,hB,rfl,rfl⟩:=hs
 obtain⟨p1,p2⟩:=hr.push (w':=w) (acH _) (fun _ _=>rfl) (.arr 0 z [] false) ⟨0,0,0,z,0,true,true⟩ (fun h=>by cases h) ⟨rfl,rfl,rfl,by simp,by simp,by simp,fun _=>rfl,fun h=>by cases h⟩
 have hlen:(bJ H (.arr 0 z [] false)).bl.length=H.bl.length+1:=by simp[bJ]
 obtain⟨val,w',hy,ρ2,F2,d1,d2,d3⟩:=z6 ed p1 (p2.er hr he) (s:=.ptr (H.bl.length+1) 0 0 0) (H':=bJ (bJ H (.arr 0 z [] false)) (.box [.ao 0 [] true])) (by simp only[cb,hlen])
 have hg:(bJ (bJ H (.arr 0 z [] false)) (.box [.ao 0 [] true])).bl[H.bl.length]?=some (.arr 0 z [] false):=by simp[bJ]
 have hgb:(bJ (bJ H (.arr 0 z [] false)) (.box [.ao 0 [] true])).bl[H.bl.length+1]?=some (.box [.ao 0 [] true]):=by simp[bJ]
 have hn:ρ2 H.bl.length=some ⟨0,0,0,z,0,true,true⟩:=by
  obtain⟨l',k1,k2⟩:=d3.map H.bl.length _ (Map.bG _ _ _)
  rcases k2 with rfl|⟨_,_,k3⟩
  ·exact k1
  ·obtain⟨l2,j1,j2⟩:=d2.live _ _ hg rfl
   rw[k1]at j1;cases j1
   have:=j2.2.1
   omega
 obtain⟨q1,q2⟩:=C4 d2 hn hgb hB
 exact⟨val,w',hy,ρ2,F2,d1,q1,p2.trans (d3.trans q2)⟩
theorem VR.Pb{w:World}{F:Nat→Prop}{ρ:Map}{v:Value}{z z':Nat}(h:VR w F ρ (.ao z [] true) v):VR w F ρ (.ao z' [] true) v:=by
 cases h with
 |ao V hcap hfull hz hat h1 hv=>exact .ao (L:=[]) V hcap hfull (fun i cs h=>by simp at h) (.inl rfl) (fun i j cs c h=>by simp at h) (fun i j cs c h=>by simp at h)
theorem GF{e:Env}{a:Act}{s:SV}{o:Oper}{z z':Nat}(ed:oW C.P o.op=some (.build [.ao 0 [] true,.ao 0 [] true] []))(hs:cb e H (.build [.ao z [] true,.ao z' [] true] [])=some (s,H'))(hr:HR C ρ F H w)(he:ER w F ρ e a.tmps):bL C (execOp a.eval o) ρ F H w s H':=by
 have hs0:cb e H (.build [.ao 0 [] true,.ao 0 [] true] [])=some (.agg [.ao 0 [] true,.ao 0 [] true],H):=by rfl
 obtain⟨val,w',hy,ρ2,F2,d1,d2,d3⟩:=z6 ed hr he hs0
 have hs1:cb e H (.build [.ao z [] true,.ao z' [] true] [])=some (.agg [.ao z [] true,.ao z' [] true],H):=by rfl
 rw[hs1]at hs
 cases hs
 refine⟨val,w',hy,ρ2,F2,?_,d2,d3⟩
 cases d1 with
 |agg hn h1 hv=>
  refine .agg hn (fun j c hj=>?_) (fun j c v hj hv'=>?_)
  ·match j,hj with
   |0,hj=>cases hj;rfl
   |1,hj=>cases hj;rfl
  ·match j,hj with
   |0,hj=>cases hj;exact(hv 0 _ v rfl hv').Pb
   |1,hj=>cases hj;exact(hv 1 _ v rfl hv').Pb
theorem rr{ρ ρ':Map}{F F':Nat→Prop}{w w':World}{c:SV}{v:Value}(h:kg c=true)(hv:VR w F ρ c v):VR w' F' ρ' c v:=by
 cases c<;>simp only[kg,adh]at h
 ·cases hv;exact .bool _
 ·cases hv;exact .int _ _
 ·cases hv;exact .str _
theorem GH{ρ ρ':Map}{F F':Nat→Prop}{w w':World}{c:SV}{v:Value}(h:zn c=true)(hv:VR w F ρ c v):VR w' F' ρ' c v:=by
 unfold zn at h
 split at h
 ·cases hv with
  |bc hn hv=>exact .bc hn (fun j c v hj hv'=>rr (acZ.1 h c (acy hj)) (hv j c v hj hv'))
 ·cases hv with
  |agg hn h1 hv=>exact .agg hn h1 (fun j c v hj hv'=>rr (acZ.1 h c (acy hj)) (hv j c v hj hv'))
 ·exact rr h hv
theorem CG{rec:Rec}(hrec:fW C rec){e:Env}{a:Act}{s:SV}{o:Oper}{f:FuncId}{xs:List bX}(ed:oW C.P o.op=some (.call (.c (.fn f [])) xs))(hs:sX rec f (xs.map (ev e)) H=some (s,H'))(hr:HR C ρ F H w)(he:ER w F ρ e a.tmps)
 {ro:Option Nat} {n:Nat} {K:Act→World→Prop} {Q:Exit→Act→World→Prop} (hK:∀val w',dJ C ρ F H w s H' val w'→K (a.put o.dst val) w'):o.wpIn (WF ro) n C.P a w K Q:=by
 refine⟨fun _ _=>trivial,?_⟩
 rw[Oper.semAt_eq _ _ _ (gm ed)]
 obtain⟨c,ho,hcc⟩:=qu ed
 obtain⟨g,hg,hf,hxs⟩:=mV hcc
 obtain⟨hn,hv⟩:=jm hxs he
 have hgv:=aZ hf he
 simp only[ev]at hgv
 unfold sX at hs
 simp only[acu]at hs
 obtain⟨vs1,hvs1,r,hrec1,hs⟩:=hs
 replace hs:=aj hs
 obtain⟨hsc,hs⟩:=hs
 simp only[acN,acY]at hs
 obtain⟨hs1,hs2⟩:=hs
 subst hs1
 subst hs2
 obtain⟨r1,r2⟩:=r
 let F2:Nat→Prop:=fun B=>F B∨∃b l,Own ρ H b l∧l.cm=B
 have hcut:ρ.cut 0=dH:=by funext b;simp[Map.cut]
 have hargs:iA w F2 dH vs1 (c.args.map a.eval):=by
  have key:∀(l:List SV) (vs1:List SV) (fR:List Value),bR (l.map (ez 0 H cG))=some vs1→l.length=fR.length→(∀(j:Nat) x v,l[j]?=some x→fR[j]?=some v→VR w F ρ x v)→
   vs1.length=fR.length∧∀(j:Nat) x v,vs1[j]?=some x→fR[j]?=some v→VR w F2 dH x v:=by
   intro l
   induction l with
   |nil=>intro vs1 fR h hl _;simp[bR]at h;subst h;exact⟨hl,fun j x v hj=>by simp at hj⟩
   |cons y l ih=>
    intro vs1 fR h hl hv
    simp only[ada]at h
    cases hy:ez 0 H cG y with
    |none=>rw[hy]at h;simp[bR]at h
    |some y'=>
     rw[hy]at h
     simp only[bR,acq]at h
     obtain⟨vs2,h2,rfl⟩:=h
     cases fR with
     |nil=>simp at hl
     |cons val fR=>
      obtain⟨k1,k2⟩:=ih vs2 fR h2 (by simpa using hl) (fun j x v hj hv'=>hv (j+1) x v (by simpa using hj) (by simpa using hv'))
      refine⟨by simp[k1],fun j x v hj hv'=>?_⟩
      cases j with
      |zero=>
       simp at hj hv'
       subst hj;subst hv'
       have:=yK (F':=F2) hr (fun _ h=>.inl h) (fun b l ho _=>.inr ⟨b,l,ho,rfl⟩) _ hy (hv 0 y val rfl rfl)
       rwa [hcut]at this
      |succ j=>exact k2 j x v (by simpa using hj) (by simpa using hv')
  obtain⟨k1,k2⟩:=key (xs.map (ev e)) vs1 (c.args.map a.eval).toList hvs1 (by simpa using hn) (fun j x v hj hv'=>hv j x v hj (by simpa using hv'))
  exact⟨by simpa using k1,fun j x v hj hv'=>k2 j x v hj (by simpa using hv')⟩
 have hr0:HR C dH F2 {bl:=[],bT:=[],ro:=0} w:=⟨(fun b l h=>by cases h),(fun b x h=>by simp at h),(fun b b' l l' h=>by cases h.2.1),(fun b l h=>by cases h.2.1),fun B hB=>by
  rcases hB with h|⟨b,l,ho,rfl⟩
  ·exact hr.iM B h
  ·exact(hr.own b l ho).2⟩
 have hx0:execOp a.eval o=(do let d←Deferred.ofValue (a.eval g) (c.args.map a.eval);invoke d.target d.args):=by
  simp only[execOp,ho,resolve,hg]
 generalize hgval:a.eval g=gv at *
 cases hgv with
 |fn hn2 hv2=>
  rename_i vs
  have hvs:vs= #[]:=aew (by simpa using hn2.symm)
  subst hvs
  obtain⟨h1,h2⟩:=hrec.call _ _ _ _ _ hrec1 dH F2 w _ hr0 hargs
  rw[hx0]
  have hx:(do let d←Deferred.ofValue (Value.func (.func f) #[] #[]) (c.args.map a.eval);invoke d.target d.args:Sem Next)=callFunc f (c.args.map a.eval):=by
   simp[Deferred.ofValue,invoke]
  rw[hx,h1]
  refine⟨fun h=>by simp at h,CallsIn.mono (h2 _) (fun e' w' he'=>?_)⟩
  obtain⟨val,rfl,ρ1,F1,d1,d2,d3⟩:=he'
  have hno:∀b l,¬Own dH {bl:=[],bT:=[],ro:=0} b l:=fun b l h=>by cases h.2.1
  obtain⟨p1,p2⟩:=hr.same d3.size (fun B hB=>d3.frame B hB (fun b l ho=>absurd ho (hno b l))) d3.out
  exact hK val w' ⟨ρ,F,GH hsc d1,p1,p2⟩
theorem jz{rec:Rec}(hrec:fW C rec){e:Env}{a:Act}{s:SV}{o:Oper}{op:mi}{b:GA}(ed:op=wh b ((oW C.P o.op).getD .bad))(hs:au rec e H op=some (s,H'))(hr:HR C ρ F H w)(he:ER w F ρ e a.tmps)
 {ro:Option Nat} {n:Nat} {K:Act→World→Prop} {Q:Exit→Act→World→Prop} (hK:∀val w',dJ C ρ F H w s H' val w'→K (a.put o.dst val) w'):o.wpIn (WF ro) n C.P a w K Q:=by
 cases hc:oW C.P o.op with
 |none=>
  rw[hc]at ed
  have:op=.bad:=by rw[ed];cases b<;>rfl
  subst this
  cases hs
 |some op0=>
  rw[hc]at ed
  simp only[ad3]at ed
  by_cases hk:∃m g xs,b=.keep m∧op0=.call (.c (.fn g [])) xs
  ·obtain⟨m,g,xs,rfl,rfl⟩:=hk
   subst ed
   exact Dt (m:=m) hrec hc hs hr he hK
  by_cases hvw:∃g xs,b=.view∧op0=.call (.c (.fn g [])) xs
  ·obtain⟨g,xs,rfl,rfl⟩:=hvw
   subst ed
   exact CG hrec hc hs hr he hK
  by_cases hl:∃bP z n ps,b=.list∧op0=.gl bP z n ps
  ·obtain⟨bP,z,m,ps,rfl,rfl⟩:=hl
   subst ed
   obtain⟨val,w',h1,h2⟩:=Dv hc hs hr he
   refine⟨fun _ _=>trivial,?_⟩
   rw[Oper.semAt_eq _ _ _ (gm hc)]
   rcases h1 with h1|⟨h1,rfl⟩
   ·rw[h1];exact hK _ _ h2
   ·rw[h1];exact hK _ _ h2
  by_cases hvb:∃z,b=.CU z∧op0=.alloc [.ao 0 [] true]
  ·obtain⟨z,rfl,rfl⟩:=hvb
   subst ed
   obtain⟨val,w',h1,h2⟩:=Bl hc hs hr he
   refine⟨fun _ _=>trivial,?_⟩
   rw[Oper.semAt_eq _ _ _ (gm hc)]
   rcases h1 with h1|⟨h1,rfl⟩
   ·rw[h1];exact hK _ _ h2
   ·rw[h1];exact hK _ _ h2
  by_cases hvn:∃z,b=.CU z∧op0=.build [.ao 0 [] true,.ao 0 [] true] []
  ·obtain⟨z,rfl,rfl⟩:=hvn
   subst ed
   obtain⟨val,w',h1,h2⟩:=GF hc hs hr he
   refine⟨fun _ _=>trivial,?_⟩
   rw[Oper.semAt_eq _ _ _ (gm hc)]
   rcases h1 with h1|⟨h1,rfl⟩
   ·rw[h1];exact hK _ _ h2
   ·rw[h1];exact hK _ _ h2
  ·have:op=op0:=by
    rw[ed]
    unfold wh
    split
    ·exact absurd ⟨_,_,_,_,rfl,rfl⟩ hl
    ·exact absurd ⟨_,_,_,rfl,rfl⟩ hk
    ·exact absurd ⟨_,_,rfl,rfl⟩ hvw
    ·exact absurd ⟨_,rfl,rfl⟩ hvb
    ·exact absurd ⟨_,rfl,rfl⟩ hvn
    ·rfl
   subst this
   exact ED hrec hc hs hr he hK
end
end
section
def uL(ρ:Map)(F:Nat→Prop)(H:ab)(w:World)(lo D:Nat):Prop:=lo≤D∧w.heap[D]?=some (.deferred (some []))∧¬F D∧∀b l,Own ρ H b l→l.cm≠D
def Marks(ρ:Map)(F:Nat→Prop)(H:ab)(w:World)(lo:Nat)(ds:List Deferred):Prop:=lo≤w.heap.size∧∃Ds:List Nat,ds.map (·.target)=Ds.map Target.collected∧Ds.Nodup∧
 ∀D∈Ds,uL ρ F H w lo D
structure kp where
 ρ:Map
 F:Nat→Prop
 H:ab
 w:World
 lo:Nat
def Rel(C:Ctx)(nt:Nat)(B:kp)(e:Env)(H:ab)(a:Act)(w:World):Prop:=
 ∃ρ F,HR C ρ F H w∧ER w F ρ e a.tmps∧Ext C B.ρ B.F B.H B.w ρ F H w∧nt≤a.tmps.size∧Marks ρ F H w B.lo a.defers
section
variable{C:Ctx}{ρ ρ':Map}{F F':Nat→Prop}{H H':ab}{w w':World}{e:Env}{a:Act}{s c d:SV}{B:kp}{nt:Nat}
theorem uL.ext{lo D:Nat}(hx:Ext0 C ρ F H w ρ' F' H' w')(h:uL ρ F H w lo D):uL ρ' F' H' w' lo D:=by
 obtain⟨k1,k2,k3,k4⟩:=h
 have hlt:D<w.heap.size:=(ac6.1 k2).1
 refine⟨k1,(hx.frame D hlt (fun b l ho _=>k4 b l ho)).trans k2,fun hF=>?_,fun b l ho=>?_⟩
 ·rcases hx.new D hF with h|h|⟨b,l,ho,_,e⟩
  ·exact k3 h
  ·omega
  ·exact k4 b l ho e
 ·rcases hx.old b l ho with h4|⟨l0,h4,h5⟩
  ·omega
  ·rw[←h5];exact k4 b l0 h4
theorem Marks.ext{lo:Nat}(hx:Ext0 C ρ F H w ρ' F' H' w'){ds:List Deferred}(h:Marks ρ F H w lo ds):Marks ρ' F' H' w' lo ds:=by
 obtain⟨h0,Ds,h1,h2,h3⟩:=h
 exact⟨ac7 h0 hx.size,Ds,h1,h2,fun D hD=>(h3 D hD).ext hx⟩
theorem Marks.less{lo:Nat}(h:∀b l,Own ρ' H' b l→Own ρ H b l){ds:List Deferred}(hm:Marks ρ F H w lo ds):Marks ρ' F H' w lo ds:=by
 obtain⟨h0,Ds,h1,h2,h3⟩:=hm
 exact⟨h0,Ds,h1,h2,fun D hD=>let⟨k1,k2,k3,k4⟩:=h3 D hD;⟨k1,k2,k3,fun b l ho=>k4 b l (h b l ho)⟩⟩
theorem Marks.LZ{lo:Nat}(h:∀b l,Own ρ' H' b l→∃b0 l0,Own ρ H b0 l0∧l0.cm=l.cm){ds:List Deferred}(hm:Marks ρ F H w lo ds):Marks ρ' F H' w lo ds:=by
 obtain⟨h0,Ds,h1,h2,h3⟩:=hm
 exact⟨h0,Ds,h1,h2,fun D hD=>let⟨k1,k2,k3,k4⟩:=h3 D hD;⟨k1,k2,k3,fun b l ho=>by obtain⟨b0,l0,o,e⟩:=h b l ho;exact e▸k4 b0 l0 o⟩⟩
theorem DR(he:ER w F ρ e a.tmps){d:Nat}{val:Value}(hd:d<a.tmps.size)(hv:VR w F ρ s val):ER w F ρ ((d,s)::e) (a.tmps.setIfInBounds d val):=by
 intro t
 simp only[get]
 by_cases h:t=d
 ·subst h
  simp[hd,hv]
 ·have h1:(t==d)=false:=by simp[h]
  rw[h1]
  simp only[acJ]
  have:(a.tmps.setIfInBounds d val).getD t undef=a.tmps.getD t undef:=by
   simp only[adN,adv (Ne.symm h)]
  rw[this]
  exact he t
theorem Rel.step(h:Rel C nt B e H a w){P:Map→(Nat→Prop)→Prop}:∃ρ F,HR C ρ F H w∧ER w F ρ e a.tmps∧∀(dst:Option Nat) s H' val w',(∀d,dst=some d→d<nt)→dJ C ρ F H w s H' val w'→Rel C nt B (cf e dst s) H' (a.put dst val) w':=by
 obtain⟨ρ,F,h1,h2,h3,h4,h5⟩:=h
 refine⟨ρ,F,h1,h2,fun dst s H' val w' hd ⟨ρ',F',k1,k2,k3⟩=>⟨ρ',F',k2,?_,h3.trans k3,?_,?_⟩⟩
 ·cases dst with
  |none=>exact k3.er h1 h2
  |some d=>exact DR (k3.er h1 h2) (adJ (hd d rfl) h4) k1
 ·cases dst with
  |none=>exact h4
  |some d=>simpa[Act.put]using h4
 ·have:(a.put dst val).defers=a.defers:=by cases dst<;>rfl
  rw[this]
  exact h5.ext k3.toExt0
theorem y9{v:Value}(h:VR w F ρ .jy v):v=undef:=by cases h;rfl
theorem l7{t:Array Value}{i:Nat}{b:Bool}(h:t.getD i undef=.bool b):t[i]?=some (.bool b):=by
 rw[adN]at h
 cases hi:t[i]? with
 |none=>rw[hi]at h;cases h
 |some v=>rw[hi]at h;simp at h;rw[h]
theorem pF{ops:Array Oper}{t:Array Value}{j i:Nat}(ht:ops[j]?.bind (·.dst)=some i)(htv:t.getD i undef=undef):yielded ops t j=none:=by
 rw[adN]at htv
 simp only[yielded,ht,adq]
 cases hi:t[i]? with
 |none=>rfl
 |some v=>rw[hi]at htv;simp only[ad3]at htv;rw[htv];rfl
theorem pA{f:FuncId}{rec:Rec}(hrec:fW C rec){ops:Array Oper}{ro:Option Nat}{n:Nat}{Q:Exit→Act→World→Prop}{R:Type}{k:Env→ab→Option R}{r:R}
 {rest:List Nat} {m:Nat} (hm:m≤ops.size) (hk:∀e' H' a' w',k e' H'=some r→Rel C nt B e' H' a' w'→wpOpsIn (WF ro) n C.P ops Q rest a' w') :
 ∀(j i:Nat) (l:List aL),i+j=m→bR (((ops.toList.take m).drop i).map (iX C.P C.dL f nt ops))=some l→∀e H a w,cg rec l e H k ()=some r→Rel C nt B e H a w→wpOpsIn (WF ro) n C.P ops Q (List.range' i j++rest) a w:=by
 intro j
 induction j with
 |zero=>
  intro i l hi hl e H a w h hrel
  rw[aeb (by simp;omega)]at hl
  simp[bR]at hl
  subst hl
  exact hk e H a w h hrel
 |succ j ih=>
  intro i l hi hl e H a w h hrel
  have hlt:i<ops.size:=by omega
  rw[ad1 (by simp;omega),ada]at hl
  rw[List.getElem_take]at hl
  cases hco:iX C.P C.dL f nt ops ops.toList[i]with
  |none=>rw[hco]at hl;simp[bR]at hl
  |some o1=>
   rw[hco]at hl
   simp only[bR,acq]at hl
   obtain⟨l',hl',rfl⟩:=hl
   have ih':=ih (i+1) l' (by omega) hl'
   have hoi:ops[i]?=some ops.toList[i]:=by simp[hlt]
   generalize ops.toList[i]=o at *
   simp only[List.range'_succ,adE,wpOpsIn,hoi]
   unfold iX at hco
   replace hco:=fa hco
   obtain⟨hdst,hco⟩:=hco
   have hd:∀d,o.dst=some d→d<nt:=fun d hd=>by
    rw[hd]at hdst;simpa using hdst
   obtain⟨ρ,F,hr,he,hput⟩:=hrel.step (P:=fun _ _=>True)
   have hgo:∀op1,op1=wh (lk C.dL f o.dst) ((oW C.P o.op).getD .bad)→aN (au rec e H op1) (fun r=>cg rec l' (cf e o.dst r.1) r.2 k ()) ()=some r→o.wpIn (WF ro) n C.P a w (wpOpsIn (WF ro) n C.P ops Q (List.range' (i+1) j++rest)) Q:=by
    intro op1 ed h
    cases hs:au rec e H op1 with
    |none=>rw[hs]at h;cases h
    |some p=>
     rw[hs]at h
     obtain⟨s,H'⟩:=p
     simp only[aN]at h
     exact jz hrec ed hs hr he (fun val w' hdn=>ih' _ _ _ _ h (hput o.dst s H' val w' hd hdn))
   split at hco
   ·rename_i hg
    cases hco
    simp only[cg]at h
    have hw:Region.wanted o (yielded ops a.tmps)=true:=by simp[Region.wanted,hg]
    rw[hw,if_pos rfl]
    exact hgo _ rfl h
   ·rename_i j' want hg
    split at hco
    ·rename_i t ht
     cases hco
     simp only[cg]at h
     unfold fI at h
     split at h
     ·rename_i b hb
      have htv:a.tmps.getD t undef=.bool b:=by
       have:=he t
       rw[hb]at this
       exact eQ this
      have hy:yielded ops a.tmps j'=some b:=by
       simp only[yielded,ht,adq,l7 htv]
      unfold fork at h
      dsimp only at h
      cases hbw:(b==want)with
      |true=>
       rw[hbw]at h
       have hw:Region.wanted o (yielded ops a.tmps)=true:=by
        simp only[Region.wanted,hg,hy];simpa using hbw
       rw[hw,if_pos rfl]
       exact hgo _ rfl h
      |false=>
       rw[hbw]at h
       have hw:¬Region.wanted o (yielded ops a.tmps)=true:=by
        simp only[Region.wanted,hg,hy];simpa using hbw
       rw[if_neg hw]
       exact⟨fun _ _=>trivial,ih' _ _ _ _ h (hput o.dst .jy H undef w hd (dJ.same hr .jy))⟩
     ·rename_i hb
      have htv:a.tmps.getD t undef=undef:=by
       have:=he t
       rw[hb]at this
       exact y9 this
      have hy:yielded ops a.tmps j'=none:=by
       rw[adN]at htv
       simp only[yielded,ht,adq]
       cases hi:a.tmps[t]? with
       |none=>rfl
       |some v=>rw[hi]at htv;simp only[ad3]at htv;rw[htv];rfl
      have hw:¬Region.wanted o (yielded ops a.tmps)=true:=by
       simp only[Region.wanted,hg,hy];simp
      rw[if_neg hw]
      exact⟨fun _ _=>trivial,ih' _ _ _ _ h (hput o.dst .jy H undef w hd (dJ.same hr .jy))⟩
     ·cases h
    ·cases hco
theorem AZ{f:FuncId}{rec:Rec}(hrec:fW C rec){ops:Array Oper}{ro:Option Nat}{n:Nat}{Q:Exit→Act→World→Prop}{R:Type}{k:Env→ab→Option R}{r:R}
 (hk:∀e' H' a' w',k e' H'=some r→Rel C nt B e' H' a' w'→Q .normal a' w') :
 ∀(j i:Nat) (l:List aL),i+j=ops.size→bR ((ops.toList.drop i).map (iX C.P C.dL f nt ops))=some l→∀e H a w,cg rec l e H k ()=some r→Rel C nt B e H a w→wpOpsIn (WF ro) n C.P ops Q (List.range' i j) a w:=by
 intro j i l hi hl e H a w h hrel
 have:=pA hrec (f:=f) (ops:=ops) (ro:=ro) (n:=n) (Q:=Q) (rest:=[]) (m:=ops.size) (acH _) (k:=k) (r:=r) (fun e' H' a' w' h hr=>hk e' H' a' w' h hr) j i l hi (by
  rw[ac1 (by simp)];exact hl) e H a w h hrel
 simpa using this
end
end
section
def CT:mA→Exit
 | .normal=>.normal
 | .exit id=>.exit id
 | .ret=>.ret
section
variable{C:Ctx}{rec:Rec}{f:FuncId}{nt:Nat}
def gS(C:Ctx)(rec:Rec)(nt:Nat)(c:Code)(c1:ct):Prop:=
 ∀(ro:Option Nat) (n:Nat) (B:kp) (Q:Exit→Act→World→Prop) (R:Type) (k:mA→Env→ab→Option R) (r:R) (e:Env) (H:ab) (a:Act) (w:World),
  (∀l,ro=some l→∃q,B.w.heap[l]?=some (.loop q))→run rec c1 e H k ()=some r→(∀x e' H' a' w',k x e' H'=some r→Rel C nt B e' H' a' w'→Q (CT x) a' w')→Rel C nt B e H a w→c.wpIn (WF ro) n C.P Q a w
theorem AJ{B:kp}{e:Env}{H H1:ab}{a:Act}{w:World}{t:Nat}{v:SV}(h:tZ H (get e t)=some (v,H1))(hr:Rel C nt B e H a w):Rel C nt B ((t,v)::e) H1 a w:=by
 obtain⟨ρ,F,h1,h2,h3,h4,h5⟩:=hr
 have put:∀{w:World} {F:Nat→Prop} {ρ:Map},ER w F ρ e a.tmps→VR w F ρ v (a.tmps.getD t undef)→ER w F ρ ((t,v)::e) a.tmps:=fun he hv i=>by
  simp only[get]
  cases hi:(i==t)with
  |true=>
   have:i=t:=by simpa using hi
   subst this
   exact hv
  |false=>exact he i
 unfold tZ at h
 split at h
 ·rename_i b cC off n hbe
  split at h
  ·rename_i ver' z L ex hb
   replace h:=aj h
   obtain⟨hc,h⟩:=h
   simp only[acw,adK,acr]at hc
   obtain⟨⟨rfl,hle⟩,h0⟩:=hc
   simp only[acq,acY]at h
   obtain⟨H2,hH,rfl,rfl⟩:=h
   obtain⟨l,hl,hbr⟩:=h1.live b _ hb rfl
   obtain⟨p1,p2⟩:=h1.U9 hH hb rfl hl (fun _ _ _ h=>by cases h)
   have hv:=h2 t
   rw[hbe]at hv
   exact⟨ρ,_,p1,put (p2.er h1 h2) (BG h1 hv hb hle h0 hl (fun _ h=>.inl h) (fun h=>.inr ⟨h,rfl⟩)),h3.trans p2,h4,h5.ext p2.toExt0⟩
  ·cases h
 ·rename_i z L f hbe
  cases h
  have hv:=h2 t
  rw[hbe]at hv
  exact⟨ρ,F,h1,put h2 hv,h3,h4,h5⟩
 ·cases h
theorem q9{c:Code}{c1:ct}(h:gS C rec nt c c1):∀ts,gS C rec nt c (qf c1 ts)
 |[]=>h
 |t::ts=>by
  intro ro n B Q R k r e H a w hro hrun hk hrel
  simp only[qf,run]at hrun
  unfold aN at hrun
  split at hrun
  ·rename_i p hp
   exact q9 h ts ro n B Q R k r _ _ a w hro hrun hk (AJ hp hrel)
  ·cases hrun
end
end
section
section
variable{C:Ctx}{rec:Rec}{f:FuncId}{nt:Nat}
theorem yQ{f:Env×ab→Option Out}{s:Env×ab}{o:Out}(h:kR f s=some o):∃m,cP f m s=some o:=by
 unfold kR at h
 split at h
 ·exact⟨_,h⟩
 ·cases h
theorem vV{B:kp}{e:Env}{H H1:ab}{a:Act}{w:World}{b z j:Nat}{cs:List SV}{z':Nat}(hg:bk H b=some (.box cs))(hj:cs[j]?=some (.ao z' [] true))
 (hB:ca (bJ H (.arr 0 z [] false)) b (.box (cs.set j (.bn H.bl.length 0 0 0))) (H.bl.length+1)=some H1) (hr:Rel C nt B e H a w):Rel C nt B e H1 a w:=by
 obtain⟨ρ,F,h1,h2,h3,h4,h5⟩:=hr
 obtain⟨p1,p2⟩:=h1.push (w':=w) (acH _) (fun _ _=>rfl) (.arr 0 z [] false) ⟨0,0,0,z,0,true,true⟩ (fun h=>by cases h) ⟨rfl,rfl,rfl,by simp,by simp,by simp,fun _=>rfl,fun h=>by cases h⟩
 have hb:H.bl[b]?=some (.box cs):=hg
 have hlt:=(acm.1 hb).1
 obtain⟨l,hl,_⟩:=h1.live b _ hb rfl
 have hb1:(bJ H (.arr 0 z [] false)).bl[b]?=some (.box cs):=by
  simp only[bJ];rw[acF hlt];exact hb
 have hl1:(ρ.put H.bl.length ⟨0,0,0,z,0,true,true⟩) b=some l:=by rw[Map.bp _ _ (ael hlt)];exact hl
 have hps:(ρ.put H.bl.length ⟨0,0,0,z,0,true,true⟩).put b l=ρ.put H.bl.length ⟨0,0,0,z,0,true,true⟩:=bY hl1
 have key:∀ρ2:Map,ρ2 H.bl.length=some ⟨0,0,0,z,0,true,true⟩→BR C w F ρ2 l (.box cs)→BR C w F ρ2 l (.box (cs.set j (.bn H.bl.length 0 0 0))):=by
  intro ρ2 hρ ⟨g1,g2,g3,g4,g5,vs',ty,fz,g6,g7,g8,g9⟩
  refine⟨g1,g2,g3,g4,by rw[acU];exact g5,vs',ty,fz,g6,g7,by rw[acU];exact g8,fun i c hi=>?_⟩
  by_cases e:j=i
  ·subst e
   have hjl:=(acm.1 hj).1
   simp only[acM hjl,acN]at hi
   subst hi
   obtain⟨val,k1,k2,k3⟩:=g9 _ _ hj
   refine⟨val,k1,?_,rfl⟩
   cases k2 with
   |ao V hcap hfull hz hat h1' hv'=>
    have hc:=hfull rfl
    simp only[acV]at hc
    subst hc
    exact .bn hρ (acH _) rfl (fun _=>⟨fun _=>⟨_,rfl,rfl,rfl⟩,fun h=>by cases h⟩)
  ·rw[acv e]at hi
   exact g9 i c hi
 obtain⟨q1,q2⟩:=p1.set (w':=w) (l':=l) hB hb1 rfl hl1 (acH _) (fun _ _ _=>rfl) (fun h=>.inl ⟨h,rfl⟩) (.inl rfl)
  (fun _=>by
   rw[hps]
   obtain⟨l2,k1,k2⟩:=p1.live b _ hb1 rfl
   rw[hl1]at k1;cases k1
   exact key _ (Map.bG _ _ _) k2)
  (fun _ N hN hbN hbr=>by
   rw[hps]
   exact key _ (by unfold Map.cut;rw[if_pos (by omega)];exact Map.bG _ _ _) hbr)
 rw[hps]at q1 q2
 have hE:=p2.trans q2
 exact⟨_,F,q1,hE.er h1 h2,h3.trans hE,h4,h5.ext hE.toExt0⟩
theorem nU{B:kp}{a:Act}{w:World}:∀(vs:List (Nat×Nat)) {e e':Env} {H H':ab},fF vs e H=some (e',H')→Rel C nt B e H a w→Rel C nt B e' H' a w
 |[],e,e',H,H',h,hr=>by cases h;exact hr
 |(t,z)::vs,e,e',H,H',h,hr=>by
  simp only[fF]at h
  split at h
  ·rename_i z' hbe
   refine nU vs h ?_
   obtain⟨ρ,F,h1,h2,h3,h4,h5⟩:=hr
   have hv:=h2 t
   rw[hbe]at hv
   obtain⟨p1,p2⟩:=h1.push (w':=w) (acH _) (fun _ _=>rfl) (.arr 0 z [] false) ⟨0,0,0,z,0,true,true⟩ (fun h=>by cases h) ⟨rfl,rfl,rfl,by simp,by simp,by simp,fun _=>rfl,fun h=>by cases h⟩
   refine⟨_,F,p1,?_,h3.trans p2,h4,h5.ext p2.toExt0⟩
   intro i
   simp only[get]
   cases hi:(i==t)with
   |true=>
    have:i=t:=by simpa using hi
    subst this
    simp only[acG]
    generalize a.tmps.getD i undef=val at hv
    cases hv with
    |ao V hcap hfull hz hat h1' hv'=>
     have hc:=hfull rfl
     simp only[acV]at hc
     subst hc
     exact .bn (Map.bG _ _ _) (acH _) rfl (fun _=>⟨fun _=>⟨_,rfl,rfl,rfl⟩,fun h=>by cases h⟩)
   |false=>exact p2.er h1 h2 i
  ·rename_i b v i o hbe
   simp only[acu]at h
   obtain⟨H1,hB,h⟩:=h
   refine nU vs h ?_
   unfold qN at hB
   split at hB
   ·rename_i z' hg
    exact vV (j:=0) hg rfl (by simpa using hB) hr
   ·rename_i cs _ hg
    cases hj:cs[z/1000]? with
    |none=>rw[hj]at hB;cases hB
    |some y=>
     rw[hj]at hB
     unfold Ao at hB
     split at hB
     ·rename_i heq
      cases heq
      exact vV hg hj hB hr
     ·cases hB
   ·cases hB
  ·rename_i z' x L' hbe
   refine nU vs h ?_
   obtain⟨ρ,F,h1,h2,h3,h4,h5⟩:=hr
   obtain⟨p1,p2⟩:=h1.push (w':=w) (acH _) (fun _ _=>rfl) (.arr 0 z [] false) ⟨0,0,0,z,0,true,true⟩ (fun h=>by cases h) ⟨rfl,rfl,rfl,by simp,by simp,by simp,fun _=>rfl,fun h=>by cases h⟩
   exact⟨_,F,p1,p2.er h1 h2,h3.trans p2,h4,h5.ext p2.toExt0⟩
  ·cases h
theorem FK{B:kp}{N:Nat}{e e':Env}{H H':ab}{a:Act}{w:World}{t h z b v n:Nat}(hN:B.H.bl.length=N)(hr0:HR C B.ρ B.F B.H B.w)(hb:N≤b)(hh:h<N)(hg:get e t=.bn b v 0 n)
 (hm:r0 H t h z b v n e (bk H h) (bk H b)=some (e',H')) (hr:Rel C nt B e H a w):Rel C nt B e' H' a w:=by
 unfold r0 at hm
 split at hm
 ·rename_i o1 o2 z0 ex0 v' z' L ex k1 k2
  replace hm:=aj hm
  obtain⟨hc,hm⟩:=hm
  simp only[acN,acY]at hm
  obtain⟨rfl,rfl⟩:=hm
  simp only[acw,adK,acr,ac8,aea]at hc
  obtain⟨⟨⟨⟨⟨hz,hv⟩,hn⟩,hro⟩,hne⟩,hrf⟩:=hc
  subst hv
  subst hz
  have k1:H.bl[h]?=some (.arr 0 z0 [] ex0):=k1
  have k2:H.bl[b]?=some (.arr v z' L ex):=k2
  obtain⟨ρ,F,h1,h2,h3,h4,h5⟩:=hr
  obtain⟨lh,hlh,hbh⟩:=h1.live h _ k1 rfl
  obtain⟨lb,hlb,hbb⟩:=h1.live b _ k2 rfl
  obtain⟨b1,b2,b3,b4,b5,b6,b7,b8⟩:=hbb
  have hhv:lh.cC=0:=hbh.2.1
  have hha:lh.arr=true:=hbh.1
  have hhl:=(acm.1 k1).1
  have hbl:=(acm.1 k2).1
  let l':Loc:={lb with cC:=v+1}
  have hle:ρ.le (ρ.put h l'):=fun c l hl=>by
   by_cases e:c=h
   ·subst e
    rw[hlh]at hl;cases hl
    exact⟨l',Map.bG _ _ _,.inr ⟨hha,by show lh.cC<v+1;omega⟩⟩
   ·exact⟨l,by rw[Map.bp _ _ e];exact hl,.inl rfl⟩
  have hgh:((H.bl.set h (.arr (v+1) z' L ex)).set b .dead)[h]?=some (.arr (v+1) z' L ex):=by
   rw[acv (Ne.symm hne)];simp[hhl]
  have hgb:((H.bl.set h (.arr (v+1) z' L ex)).set b .dead)[b]?=some .dead:=by simp[hbl]
  have hgo:∀c,c≠h→c≠b→((H.bl.set h (.arr (v+1) z' L ex)).set b .dead)[c]?=H.bl[c]?:=fun c e1 e2=>by
   rw[acv (Ne.symm e2),acv (Ne.symm e1)]
  have hbr:∀ρ1 ρ2:Map,(∀c v,VR w F ρ1 c v→c.refs=0→VR w F ρ2 c v)→BR C w F ρ1 lb (.arr v z' L ex)→BR C w F ρ2 l' (.arr (v+1) z' L ex):=by
   intro ρ1 ρ2 hvr ⟨c1,c2,c3,c4,c5,c6,c7,c8⟩
   refine⟨c1,rfl,c3,c4,c5,c6,c7,fun hv=>?_⟩
   obtain⟨vs,ty,fz,d1,d2,d3,d4⟩:=c8 hv
   refine⟨vs,ty,fz,d1,d2,d3,fun i cs hi j c hj=>?_⟩
   obtain⟨val,e1,e2,e3⟩:=d4 i cs hi j c hj
   obtain⟨m,hm⟩:=ac4 (afc.2 ⟨cs,acy hi,acy hj⟩)
   have:=fh (aes hrf) m c hm
   exact⟨val,e1,hvr c val e2 (by omega),e3⟩
  have own':∀c l,Own (ρ.put h l') {H with bl:=(H.bl.set h (.arr (v+1) z' L ex)).set b .dead} c l→(c=h∧l=l'∧Own ρ H b lb)∨(c≠h∧c≠b∧Own ρ H c l):=by
   intro c l ⟨⟨x,g1,g2⟩,g3,g4⟩
   simp only at g1
   by_cases e1:c=h
   ·subst e1
    rw[Map.bG]at g3;cases g3
    exact .inl ⟨rfl,rfl,⟨_,k2,rfl⟩,hlb,g4⟩
   ·by_cases e2:c=b
    ·subst e2
     rw[hgb]at g1;cases g1;cases g2
    ·rw[hgo c e1 e2]at g1
     rw[Map.bp _ _ e1]at g3
     exact .inr ⟨e1,e2,⟨x,g1,g2⟩,g3,g4⟩
  have bout:∀l,¬Own B.ρ B.H b l:=fun l ho=>by have:=hr0.jT b l ho.2.1;omega
  refine⟨ρ.put h l',F,⟨fun c l hc=>?_,fun c x hc hx=>?_,fun c c' l1 l2 o1 o2 he=>?_,fun c l o=>?_,h1.iM⟩,fun i=>?_,⟨⟨fun c l hl=>?_,h3.iM,h3.new,h3.frame,h3.size,fun c l o=>?_,h3.ro,h3.bT,fun M hM hcl h0 c x l hcM hx hxl hl=>?_,h3.lp,by
   simp only[acU];exact h3.ln,h3.out⟩,fun c l hl=>?_⟩,h4,h5.LZ (fun c l o=>?_)⟩
  ·simp only[acU]
   by_cases e:c=h
   ·subst e;exact hhl
   ·rw[Map.bp _ _ e]at hc;exact h1.jT c l hc
  ·simp only at hc
   by_cases e1:c=h
   ·subst e1
    rw[hgh]at hc;cases hc
    exact⟨l',Map.bG _ _ _,hbr ρ _ (fun c v hv _=>hv.mono (fun _ _=>rfl) (fun _ h=>h) hle) ⟨b1,b2,b3,b4,b5,b6,b7,b8⟩⟩
   ·by_cases e2:c=b
    ·subst e2;rw[hgb]at hc;cases hc;cases hx
    ·rw[hgo c e1 e2]at hc
     obtain⟨l,g1,g2⟩:=h1.live c x hc hx
     exact⟨l,by rw[Map.bp _ _ e1];exact g1,g2.mono (fun _ _=>rfl) (fun _ h=>h) hle (fun _=>rfl)⟩
  ·rcases own' c l1 o1 with⟨e1,f1,p1⟩|⟨e1,e2,p1⟩<;>rcases own' c' l2 o2 with⟨e3,f3,p3⟩|⟨e3,e4,p3⟩
   ·rw[e1,e3]
   ·subst f1
    exact absurd (h1.apart c' b l2 lb p3 p1 he.symm) e4
   ·subst f3
    exact absurd (h1.apart c b l1 lb p1 p3 he) e2
   ·exact h1.apart c c' l1 l2 p1 p3 he
  ·rcases own' c l o with⟨e1,f1,p1⟩|⟨e1,e2,p1⟩
   ·subst f1;exact h1.own b lb p1
   ·exact h1.own c l p1
  ·simp only[get]
   cases hi:(i==t)with
   |true=>
    have:i=t:=by simpa using hi
    subst this
    have hv:=h2 i
    rw[hg]at hv
    simp only[acG]
    generalize a.tmps.getD i undef=val at hv
    cases hv with
    |bn h' hv' hc' ha'=>
     rw[hlb]at h';cases h'
     exact .bn (Map.bG _ _ _) (acH _) hc' (fun _=>ha' b2.symm)
   |false=>exact(h2 i).mono (fun _ _=>rfl) (fun _ h=>h) hle
  ·obtain⟨l1,g1,g2⟩:=h3.map c l hl
   by_cases e:c=h
   ·subst e
    rw[hlh]at g1;cases g1
    refine⟨l',Map.bG _ _ _,.inr ⟨h3.ro▸hro,?_,?_⟩⟩
    ·rcases g2 with rfl|⟨_,q,_⟩
     ·exact hha
     ·exact q
    ·rcases g2 with rfl|⟨_,_,q⟩
     ·show lh.cC<v+1;omega
     ·omega
   ·exact⟨l1,by rw[Map.bp _ _ e];exact g1,g2⟩
  ·rcases own' c l o with⟨e1,f1,p1⟩|⟨e1,e2,p1⟩
   ·subst f1
    rcases h3.old b lb p1 with q|⟨l0,q,_⟩
    ·exact .inl q
    ·exact absurd q (bout l0)
   ·exact h3.old c l p1
  ·simp only[acU]at hM
   simp only at hx
   by_cases e1:c=h
   ·subst e1
    rw[hgh]at hx;cases hx
    rw[Map.bG]at hl;cases hl
    exact hbr ρ _ (fun c v hv h0=>(hv.mono (fun _ _=>rfl) (fun _ h=>h) hle).cut M (by omega)) ⟨b1,b2,b3,b4,b5,b6,b7,b8⟩
   ·by_cases e2:c=b
    ·subst e2;rw[hgb]at hx;cases hx;cases hxl
    ·rw[hgo c e1 e2]at hx
     rw[Map.bp _ _ e1]at hl
     refine(h3.inv M hM hcl h0 c x l hcM hx hxl hl).mono (fun _ _=>rfl) (fun _ h=>h) (fun c1 l1 g=>?_) (fun _=>rfl)
     unfold Map.cut at g⊢
     split at g
     ·rename_i g2
      rw[if_pos g2]
      exact hle c1 l1 g
     ·cases g
  ·by_cases e:c=h
   ·subst e
    exact h3.nd c lh hlh
   ·rw[Map.bp _ _ e]at hl;exact h3.nd c l hl
  ·rcases own' c l o with⟨e1,f1,p1⟩|⟨e1,e2,p1⟩
   ·subst f1;exact⟨b,lb,p1,rfl⟩
   ·exact⟨c,l,p1,rfl⟩
 ·cases hm
theorem lV{B:kp}{N:Nat}{a:Act}{w:World}(hN:B.H.bl.length=N)(hr0:HR C B.ρ B.F B.H B.w):∀(vs:List (Nat×Nat)) (h:Nat) {e e':Env} {H H':ab},dV vs h N e H=some (e',H')→Rel C nt B e H a w→Rel C nt B e' H' a w
 |[],h,e,e',H,H',hm,hr=>by cases hm;exact hr
 |(t,z)::vs,h,e,e',H,H',hm,hr=>by
  simp only[dV]at hm
  split at hm
  ·rename_i b v n hg
   cases hc:(decide (N≤b)&&decide (h<N))with
   |true=>
    rw[hc]at hm
    simp only[acG,acu]at hm
    obtain⟨s,hs,hm⟩:=hm
    simp only[acw,acr]at hc
    exact lV hN hr0 vs (h+1) hm (FK hN hr0 hc.1 hc.2 hg hs hr)
   |false=>
    rw[hc]at hm
    exact lV hN hr0 vs (h+1) hm hr
  ·exact lV hN hr0 vs (h+1) hm hr
theorem Ext.Kq{ρ ρ':Map}{F F':Nat→Prop}{H H':ab}{w w':World}(h:Ext C ρ F {H with bT:=[]} w ρ' F' H' w'):Ext C ρ F H w ρ' F' {H' with bT:=H.bT++H'.bT} w':=
 ⟨⟨h.map,h.iM,h.new,h.frame,h.size,h.old,h.ro,fun p hp=>adW _ hp,fun N hN hc h0=>h.inv N hN (fun p hp=>hc p (aex _ hp)) h0,h.lp,h.ln,h.out⟩,h.nd⟩
theorem jg(e:Env)(t:Nat):∀l:List Nat,get (dM l e) t=bif l.contains t then get e t else .undef
 |[]=>rfl
 |i::l=>by
  have ih:=jg e t l
  unfold dM at ih⊢
  simp only[ada,get,List.contains_cons,ih]
  cases h:(t==i)with
  |true=>
   have:t=i:=by simpa using h
   subst this;simp
  |false=>simp
theorem sC(e:Env)(N:Nat):∀l:List Nat,SV.refs.av ((dM l e).map (·.2))≤N→∀t∈l,(get e t).refs≤N
 |[],_,t,ht=>by cases ht
 |i::l,h,t,ht=>by
  unfold dM at h
  simp only[ada,SV.refs.av]at h
  rcases adj.1 ht with rfl|ht
  ·omega
  ·exact sC e N l (by unfold dM;omega) t ht
theorem FN{B:kp}{N:Nat}{p:cu}{e e':Env}{H H':ab}{a:Act}{w:World}(hN:B.H.bl.length=N)(hr0:HR C B.ρ B.F B.H B.w)(h:eu p N B.H (e,H)=some (e',H'))(hr:Rel C nt B e H a w) :
 Rel C nt B e' H' a w:=by
 unfold eu at h
 simp only[acu]at h
 obtain⟨⟨e2,H2⟩,hre,h⟩:=h
 replace hr:=lV hN hr0 _ _ hre hr
 unfold vR at h
 cases hk:ko p.live with
 |true=>
  rw[hk]at h
  simp only[acG,acN,acY]at h
  obtain⟨rfl,rfl⟩:=h
  obtain⟨ρ,F,h1,h2,h3,h4,h5⟩:=hr
  refine⟨ρ,F,h1,fun t=>?_,h3,h4,h5⟩
  rw[jg]
  cases hm:p.live.tail.contains t with
  |false=>exact .undef _
  |true=>exact h2 t
 |false=>
 rw[hk]at h
 simp only[acJ]at h
 replace h:=aj h
 obtain⟨hc,h⟩:=h
 simp only[acq,acY]at h
 obtain⟨H1,ht,rfl,rfl⟩:=h
 obtain⟨ρ,F,h1,h2,h3,h4,h5⟩:=hr
 have hts:=m9 ht
 obtain⟨p1,p2⟩:=hr0.di hN h1 h3 hts
 refine⟨_,F,p1,fun t=>?_,p2,h4,h5.less (z8 hts.bl)⟩
 rw[jg]
 cases hm:p.live.contains t with
 |false=>exact .undef _
 |true=>
  simp only[acG]
  exact(h2 t).cut N (sC e2 N p.live (by simpa using hc) t (by simpa using hm))
theorem Fv{c:Code}{c1:ct}{p:cu}(h:gS C rec nt c c1):gS C rec nt (.loop c) (.loop p c1):=by
 intro ro n B Q R k r e H a w hro hrun hk hrel
 simp only[run]at hrun
 unfold aN at hrun
 split at hrun
 rotate_left
 ·cases hrun
 rename_i s hs
 dsimp only at hrun
 split at hrun
 rotate_left
 ·cases hrun
 rename_i o ho
 obtain⟨e1,H1⟩:=s
 obtain⟨ρ1,F1,q1,q2,q3,q4,q5⟩:=nU _ hs hrel
 obtain⟨m,hm⟩:=yQ ho
 let B1:kp:=⟨ρ1,F1,{H1 with bT:=[]},w,B.lo⟩
 have hB1:HR C B1.ρ B1.F B1.H B1.w:=⟨q1.jT,q1.live,q1.apart,q1.own,q1.iM⟩
 have hro1:∀l,ro=some l→∃q,B1.w.heap[l]?=some (.loop q):=fun l hl=>let⟨q,hq⟩:=hro l hl;q3.lp l q hq
 have back:∀e' H' a' w',Rel C nt B1 e' H' a' w'→Rel C nt B e' {H' with bT:=H1.bT++H'.bT} a' w':=by
  intro e' H' a' w' ⟨ρ',F',k1,k2,k3,k4,k5⟩
  exact⟨ρ',F',⟨k1.jT,k1.live,k1.apart,k1.own,k1.iM⟩,k2,q3.trans (Ext.Kq k3),k4,k5⟩
 refine wpIn_loop_rounds m ?_
 have key:∀(m:Nat) (e:Env) (H:ab) (a:Act) (w:World),cP (fun s'=>(eu p H1.bl.length {H1 with bT:=[]} s').bind fun s'=>run rec c1 s'.1 s'.2 (fun x e H=>some (x,e,H)) ()) m (e,H)=some o→
  Rel C nt B1 e H a w→Code.roundsIn (WF ro) n C.P c Q m a w:=by
  intro m
  induction m with
  |zero=>intro e H a w hi;cases hi
  |succ m ih=>
   intro e H a w hi hr
   simp only[cP]at hi
   cases hh:eu p H1.bl.length {H1 with bT:=[]} (e,H)with
   |none=>rw[hh]at hi;simp at hi
   |some s2=>
    rw[hh]at hi
    obtain⟨e',H'⟩:=s2
    simp only[adq]at hi
    cases hrn:run rec c1 e' H' (fun x e H=>some (x,e,H)) ()with
    |none=>rw[hrn]at hi;simp at hi
    |some out=>
     rw[hrn]at hi
     have hr':Rel C nt B1 e' H' a w:=FN (B:=B1) rfl hB1 hh hr
     refine h ro n B1 _ _ (fun x e H=>some (x,e,H)) out e' H' a w hro1 hrn (fun x e2 H2 a2 w2 hx hr2=>?_) hr'
     cases hx
     cases x with
     |normal=>exact ih e2 H2 a2 w2 hi hr2
     |exit id=>
      simp only[acN]at hi
      subst hi
      exact hk (.exit id) _ _ _ _ hrun (back _ _ _ _ hr2)
     |ret=>
      simp only[acN]at hi
      subst hi
      exact hk .ret _ _ _ _ hrun (back _ _ _ _ hr2)
 exact key m e1 {H1 with bT:=[]} a w hm ⟨ρ1,F1,hB1,q2,Ext.refl _ _ _ _,q4,q5⟩
theorem En{P:Program}{w:World}{ro:Option Nat}(hro:∀l,ro=some l→∃q,w.heap[l]?=some (.loop q))(fn:FuncId)(tmps:Array Value)(ps:Array Tmp)(x y:Code) :
 ∃l mark w1 dn,(Instr.enterLoop fn tmps ps x y ro).run P w=.ok (l,mark) w1∧w.heap.size≤l∧l<w1.heap.size∧
  w1.heap[l]?=some (.loop {state:=.ready,pending:=none,fn,tmps,params:=ps,assign:=x,body:=y,defers:=dn})∧(∀B,B<w.heap.size→w1.heap[B]?=w.heap[B]?)∧w.heap.size≤w1.heap.size∧(w1.os=w.os∧w1.output=w.output)∧
  (mark=[]∨∃D,mark=[{target:=.collected D,args:= #[]}]∧w.heap.size≤D∧D≠l∧w1.heap[D]?=some (.deferred (some []))):=by
 have hal:∀(w:World) (o:Obj) (B:Nat),B<w.heap.size→(w.alloc o).heap[B]?=w.heap[B]?:=by
  intro w o B hB
  show(w.heap.push o)[B]?=_
  rw[aeh]
  split
  ·omega
  ·rfl
 cases ro with
 |none=>
  refine⟨_,_,_,w.heap.size,run_enterLoop_outer fn tmps ps x y,by omega,by simp,?_,fun B hB=>?_,by simp;omega,⟨rfl,rfl⟩,.inr ⟨w.heap.size,rfl,acH _,by omega,?_⟩⟩
  ·have:=World.alloc_heap_new (w.alloc (.deferred (some []))) (.loop {state:=.ready,pending:=none,fn,tmps,params:=ps,assign:=x,body:=y,defers:=w.heap.size})
   simpa using this
  ·rw[hal _ _ _ (by simp;omega),hal _ _ _ hB]
  ·rw[hal _ _ _ (by simp)]
   exact World.alloc_heap_new _ _
 |some l0=>
  obtain⟨q,hq⟩:=hro l0 rfl
  exact⟨_,_,_,q.defers,run_enterLoop_inner hq fn tmps ps x y,acH _,by simp,World.alloc_heap_new _ _,fun B hB=>hal _ _ _ hB,by simp,⟨rfl,rfl⟩,.inl rfl⟩
theorem AQ{g:Operand}{g':bX}{ps:Array Tmp}{x y:Code}{x1 y1:ct}(hrec:fW C rec)(hg:bA g=some g')(hps:∀t∈ps.toList,t<nt)(hx:eG C.P C.dL f nt x=some x1)(hy:eG C.P C.dL f nt y=some y1) :
 gS C rec nt (.rangeFunc g ps x y) (.iE g' ps.toList x1 y1):=by
 intro ro n B Q R k r e H a w hro hrun hk hrel
 simp only[run]at hrun
 unfold aN at hrun
 split at hrun
 rotate_left
 ·cases hrun
 rename_i p hp
 obtain⟨s,H2⟩:=p
 dsimp only at hrun
 split at hrun
 rotate_left
 ·cases hrun
 rename_i q0 st pend hb2
 obtain⟨hst,H3,hH3,hrun⟩:st≠.busy∧∃H3,ca H2 H.bl.length (.loop q0 .exhausted pend) 0=some H3∧k pend e H3=some r:=by
  split at hrun
  ·cases hrun
  ·rename_i hne
   split at hrun
   ·rename_i H3 hH3
    exact⟨hne,H3,hH3,hrun⟩
   ·cases hrun
 obtain⟨ρ,F,q1,q2,q3,q4,q5⟩:=hrel
 have hgv:=aZ hg q2
 unfold pI at hp
 split at hp
 rotate_left
 ·cases hp
 rename_i f' cs hfn
 rw[hfn]at hgv
 generalize hgval:a.eval g=gv at *
 cases hgv with
 |fn hn2 hv2=>
  rename_i vs
  refine wpIn_rangeFunc (fun fn _=>?_)
  obtain⟨l,mark,w1,dn,henter,hl0,hl1,hl2,hl3,hl4,hl5,hmark⟩:=En (P:=C.P) (w:=w) (ro:=ro) (fun l hl=>let⟨q,hq⟩:=hro l hl;q3.lp l q hq) fn a.tmps ps x y
  have hkp:dO F w w1:=fun B hB=>hl3 B (q1.iM B hB)
  have hle:ρ.le (ρ.put H.bl.length ⟨l,0,0,0,0,false,false⟩):=fun b l' h=>⟨l',by rw[Map.bp _ _ (ael (q1.jT b l' h))];exact h,.inl rfl⟩
  obtain⟨p1,p2⟩:=q1.push hl4 hl3 (.loop ⟨e,ps.toList,x1,y1⟩ .ready .normal) ⟨l,0,0,0,0,false,false⟩ (fun _=>⟨hl0,hl1⟩)
   ⟨rfl,rfl,_,hl2,rfl,rfl,rfl,⟨f,nt,q4,hps,hx,hy⟩,fun t=>(q2 t).mono hkp (fun _ h=>h) hle⟩ hl5
  have hargs:iA w1 F (ρ.put H.bl.length ⟨l,0,0,0,0,false,false⟩) ([.fP H.bl.length]++cs) (#[.func (.yield l) #[] #[]]++vs):=by
   refine kI ⟨rfl,fun j c v hc hv=>?_⟩ ⟨hn2,fun j c v hc hv=>(hv2 j c v hc hv).mono hkp (fun _ h=>h) hle⟩
   cases j with
   |zero=>
    simp at hc hv
    subst hc;subst hv
    exact .fP (l:=⟨l,0,0,0,0,false,false⟩) (Map.bG _ _ _) rfl
   |succ j=>simp at hc
  obtain⟨c1,c2⟩:=hrec.call _ _ _ _ _ hp _ F w1 _ p1 hargs
  refine⟨l,mark,w1,{target:=.fn (.func f') vs,args:= #[]++ #[.func (.yield l) #[] #[]]},w1,f',#[.func (.yield l) #[] #[]]++vs,w1,henter,?_,fun _ _=>trivial,?_,fun h=>by simp at h,?_⟩
  ·have hc:a.eval (.const (.func (.yield l) #[] #[]))=.func (.yield l) #[] #[]:=rfl
   unfold resolve
   simp only[rangeCall,hgval,Deferred.ofValue,afd,ada,aeK,hc]
   rfl
  ·simpa[invoke]using c1
  ·refine CallsIn.mono (c2 _) (fun e' w3 he'=>?_)
   obtain⟨val,rfl,ρ3,F3,_,d2,d3⟩:=he'
   obtain⟨l3,m1,m2⟩:=d3.map H.bl.length _ (Map.bG _ _ _)
   have m3:l3=⟨l,0,0,0,0,false,false⟩:=by
    rcases m2 with h|⟨_,h,_⟩
    ·exact h
    ·cases h
   subst m3
   obtain⟨l4,m4,m5⟩:=d2.live _ _ hb2 rfl
   rw[m1]at m4;cases m4
   obtain⟨_,_,q,g1,g2,g3,g4,g5,g6⟩:=id m5
   have hlt:l<w3.heap.size:=(ac6.1 g1).1
   have hown:Own ρ3 H2 H.bl.length ⟨l,0,0,0,0,false,false⟩:=⟨⟨_,hb2,rfl⟩,m1,rfl⟩
   have hkeep:∀Bk,Bk≠l→(w3.putObj l (.loop {q with state:=.exhausted})).heap[Bk]?=w3.heap[Bk]?:=fun Bk hne=>World.putObj_heap_other hne
   have hkk:dO F3 w3 (w3.putObj l (.loop {q with state:=.exhausted})):=fun Bk hB=>hkeep Bk (fun e=>(d2.own _ _ hown).1 (e▸hB))
   obtain⟨z1,z2⟩:=d2.set (w':=w3.putObj l (.loop {q with state:=.exhausted})) (l':=⟨l,0,0,0,0,false,false⟩) hH3 hb2 rfl m1 (by simp) (fun Bk _ h=>hkeep Bk (h rfl)) (fun h=>.inl ⟨h,rfl⟩) (.inl rfl)
    (fun _=>by
     rw[bY m1]
     exact⟨rfl,rfl,{q with state:=.exhausted},World.putObj_heap_same hlt,rfl,g3,g4,g5,fun t=>(g6 t).mono hkk (fun _ h=>h) (Map.le_refl _)⟩)
    (fun _ N _ _ hbr=>by
     rw[bY m1]
     obtain⟨_,_,q',b1,b2,b3,b4,b5,b6⟩:=hbr
     rw[g1]at b1;cases b1
     exact⟨rfl,rfl,{q with state:=.exhausted},World.putObj_heap_same hlt,rfl,b3,b4,b5,fun t=>(b6 t).mono hkk (fun _ h=>h) (Map.le_refl _)⟩)
    (fun _=>⟨_,_,_,rfl⟩)
   rw[bY m1]at z1 z2
   have hxt:=p2.trans (d3.trans z2)
   have hm1:Marks (ρ.put H.bl.length ⟨l,0,0,0,0,false,false⟩) F (bJ H (.loop ⟨e,ps.toList,x1,y1⟩ .ready .normal)) w1 B.lo (mark++a.defers):=by
    have hm0:=q5.ext p2.toExt0
    rcases hmark with rfl|⟨D,rfl,h1,h2,h3⟩
    ·exact hm0
    ·obtain⟨k0,Ds',k1',k2',k3'⟩:=q5
     refine⟨ac7 k0 hl4,D::Ds',by simp[k1'],aee.2 ⟨fun hD=>?_,k2'⟩,fun D' hD'=>?_⟩
     ·have:=(ac6.1 (k3' D hD).2.1).1
      omega
     ·rcases adj.1 hD' with rfl|hD'
      ·refine⟨by omega,h3,fun hF=>?_,fun b l' ho=>?_⟩
       ·have:=q1.iM _ hF;omega
       ·rcases p2.old b l' ho with h4|⟨l0,h4,h5⟩
        ·obtain⟨⟨xx,hxx,hxl⟩,hm,hv⟩:=ho
         by_cases hbl:b=H.bl.length
         ·subst hbl
          rw[Map.bG]at hm;cases hm
          exact fun e=>h2 e.symm
         ·rw[Map.bp _ _ hbl]at hm
          have hlt:=q1.jT b l' hm
          have ho':Own ρ H b l':=⟨⟨xx,by simpa[bJ,acF hlt]using hxx,hxl⟩,hm,hv⟩
          have:=(q1.own b l' ho').2
          omega
        ·have:=(q1.own b l0 h4).2
         omega
      ·exact(k3' D' hD').ext p2.toExt0
   have hrel':Rel C nt B e H3 {a with defers:=mark++a.defers} (w3.putObj l (.loop {q with state:=.exhausted})):=
    ⟨ρ3,F3,z1,hxt.er q1 q2,q3.trans hxt,q4,(hm1.ext (d3.trans z2).toExt0)⟩
   have hend:=run_endLoop (P:=C.P) g1 (by rw[g2];exact hst)
   refine⟨_,_,hend,?_⟩
   rw[g3]at hrel'⊢
   cases pend with
   |normal=>exact hk .normal _ _ _ _ hrun hrel'
   |exit id=>exact wpIn_exit (hk (.exit id) _ _ _ _ hrun hrel')
   |ret=>exact wpIn_ret (hk .ret _ _ _ _ hrun hrel')
end
end
section
section
variable{C:Ctx}{rec:Rec}{e e':Env}{H H':ab}{s:SV}
theorem map_pure{v:Option SV}(h:v.map (·,H)=some (s,H')):H'=H∧∀H2:ab,v.map (·,H2)=some (s,H2):=by
 cases v with
 |none=>cases h
 |some v=>cases h;exact⟨rfl,fun _=>rfl⟩
theorem od{op:mi}(hp:gK op=true)(h:au rec e H op=some (s,H')):H'=H∧∀H2,au rec e H2 op=some (s,H2):=by
 cases op<;>try (exfalso;simp only[gK,adh]at hp;done)
 case dY x=>simp only[au,cb]at h ⊢;cases h;exact⟨rfl,fun _=>rfl⟩
 case pick=>exact map_pure h
 case build=>
  simp only[au,cb,acq,acY]at h⊢
  obtain⟨v,h1,rfl,rfl⟩:=h
  exact⟨rfl,fun H2=>⟨v,h1,by simp⟩⟩
 case dT=>exact map_pure h
 case bin=>exact map_pure h
 case rF=>exact map_pure h
 case dU neg n x y=>
  simp only[au,cb]at h⊢
  split at h
  ·rename_i a b h1 h2
   simp only[acq,acY]at h⊢
   obtain⟨v,h1,rfl,rfl⟩:=h
   exact⟨rfl,fun H2=>⟨v,h1,by simp⟩⟩
  ·cases h
 case dI x=>simp only[au,cb]at h ⊢;split at h<;>first|(cases h;done)|(rename_i b hb;cases h;first|exact⟨rfl,fun _=>rfl⟩|(rw[hb];exact⟨rfl,fun _=>rfl⟩))
 case vt x=>simp only[au,cb]at h ⊢;split at h<;>first|(cases h;done)|(rename_i k b hb;cases h;first|exact⟨rfl,fun _=>rfl⟩|(rw[hb];exact⟨rfl,fun _=>rfl⟩))
 case cB k x=>simp only[au,cb]at h ⊢;split at h<;>first|(cases h;done)|(rename_i k b hb;cases h;first|exact⟨rfl,fun _=>rfl⟩|(rw[hb];exact⟨rfl,fun _=>rfl⟩))
 case sP x=>simp only[au,cb]at h ⊢;split at h<;>first|(cases h;done)|(rename_i b hb;cases h;first|exact⟨rfl,fun _=>rfl⟩|(rw[hb];exact⟨rfl,fun _=>rfl⟩))
 case mB=>simp only[au,cb]at h ⊢;cases h;exact⟨rfl,fun _=>rfl⟩
 case iL=>simp only[au,cb]at h ⊢;cases h;exact⟨rfl,fun _=>rfl⟩
 case field ag n off x=>simp only[au,cb]at h ⊢;split at h<;>first|(cases h;done)|(rename_i b hb;exact map_pure h)
 case o8 ag n len x ix=>
  simp only[au,cb]at h⊢
  split at h
  ·rename_i b hb
   try rw[hb]
   simp only[acu]at h⊢
   obtain⟨i,h1,h2⟩:=h
   obtain⟨h3,h4⟩:=map_pure h2
   exact⟨h3,fun H2=>⟨i,h1,h4 H2⟩⟩
  ·cases h
 case gk x ix=>
  simp only[au,cb]at h⊢
  split at h
  ·rename_i b hb
   try rw[hb]
   simp only[acu,acq,acY]at h⊢
   obtain⟨i,h1,v,h2,rfl,rfl⟩:=h
   exact⟨rfl,fun H2=>⟨i,h1,v,h2,by simp⟩⟩
  ·cases h
 case extract x i=>simp only[au,cb]at h ⊢;split at h<;>first|(cases h;done)|(rename_i b hb;exact map_pure h)
 case fO x=>simp only[au,cb]at h ⊢;split at h<;>first|(cases h;done)|(rename_i b hb;cases h;first|exact⟨rfl,fun _=>rfl⟩|(rw[hb];exact⟨rfl,fun _=>rfl⟩))
 case A7=>simp only[au,cb]at h ⊢;cases h;exact⟨rfl,fun _=>rfl⟩
 case jb=>exact map_pure h
 case mh=>exact map_pure h
 case o0 x lo hi=>simp only[au,cb]at h ⊢;split at h<;>first|(cases h;done)|(rename_i b hb;exact map_pure h)
theorem aU{x:bX}{xs:List bX}(hx:x∈xs)(h:∀t∈bW.f xs,get e t=get e' t):ev e x=ev e' x:=by
 cases x with
 |c v=>rfl
 |t n=>exact h n (by unfold bW.f;exact List.mem_filterMap.2 ⟨.t n,hx,rfl⟩)
theorem gd{xs ys:List bX}(hx:∀x∈xs,x∈ys)(h:∀t∈bW.f ys,get e t=get e' t):xs.map (ev e)=xs.map (ev e'):=
 List.map_congr_left (fun x hm=>aU (hx x hm) h)
theorem jA{x:Option bX}{ys:List bX}(hx:∀y∈x,y∈ys)(h:∀t∈bW.f ys,get e t=get e' t):x.map (ev e)=x.map (ev e'):=by
 cases x with
 |none=>rfl
 |some x=>simp only[adm];rw[aU (hx x rfl) h]
theorem pw{f g:bX→SV}:∀(ps:List (Nat×Nat×bX)) (z:List SV),(∀p∈ps,f p.2.2=g p.2.2)→ir f z ps=ir g z ps
 |[],_,_=>rfl
 |(off,n,x)::ps,z,h=>by
  simp only[ir]
  rw[show f x=g x from h (off,n,x) (ac5 ..)]
  congr 1
  funext cs
  cases(cs.length==n&&decide (off+n≤z.length))with
  |true=>exact pw ps _ (fun p hp=>h p (ade _ hp))
  |false=>rfl
theorem kZ{f g:bX→SV}{bP:Nat}:∀(ps:List (Nat×bX)) (z:List (List SV)),(∀p∈ps,f p.2=g p.2)→fc f bP z ps=fc g bP z ps
 |[],_,_=>rfl
 |(i,x)::ps,z,h=>by
  simp only[fc]
  rw[show f x=g x from h (i,x) (ac5 ..)]
  congr 1
  funext cs
  cases(cs.length==bP&&decide (i<z.length))with
  |true=>exact kZ ps _ (fun p hp=>h p (ade _ hp))
  |false=>rfl
theorem pK{o:aL}(h:∀t∈bW o,get e t=get e' t):au rec e H o.op=au rec e' H o.op:=by
 obtain⟨dst,op,g⟩:=o
 unfold bW at h
 replace h:=fun t ht=>h t (adW _ ht)
 dsimp only at h⊢
 cases op
 case dY x=>dsimp only at h;simp only[au,cb,aU (x:=x) (by simp) h]
 case pick c a b=>dsimp only at h;simp only[au,cb,aU (x:=c) (by simp) h,aU (x:=a) (by simp) h,aU (x:=b) (by simp) h]
 case box x=>dsimp only at h;simp only[au,cb,aU (x:=x) (by simp) h]
 case alloc z=>rfl
 case o7 z=>rfl
 case build z ps=>
  dsimp only at h
  simp only[au,cb]
  rw[pw ps z (fun p hp=>aU (adt.2 ⟨p,hp,rfl⟩) h)]
 case gl bP z n ps=>
  dsimp only at h
  simp only[au,cb]
  rw[kZ ps _ (fun p hp=>aU (adt.2 ⟨p,hp,rfl⟩) h)]
 case dT bP z n ps=>
  dsimp only at h
  simp only[au,cb]
  rw[kZ ps _ (fun p hp=>aU (adt.2 ⟨p,hp,rfl⟩) h)]
 case load ag n a=>dsimp only at h;simp only[au,cb,aU (x:=a) (by simp) h]
 case store n a x=>dsimp only at h;simp only[au,cb,aU (x:=a) (by simp) h,aU (x:=x) (by simp) h]
 case eh x=>dsimp only at h;simp only[au,cb,aU (x:=x) (by simp) h]
 case bin op x y=>dsimp only at h;simp only[au,cb,aU (x:=x) (by simp) h,aU (x:=y) (by simp) h]
 case rF op x y=>dsimp only at h;simp only[au,cb,aU (x:=x) (by simp) h,aU (x:=y) (by simp) h]
 case dU neg n x y=>dsimp only at h;simp only[au,cb,aU (x:=x) (by simp) h,aU (x:=y) (by simp) h]
 case dI x=>dsimp only at h;simp only[au,cb,aU (x:=x) (by simp) h]
 case isNil k neg x=>dsimp only at h;simp only[au,cb,aU (x:=x) (by simp) h]
 case vt x=>dsimp only at h;simp only[au,cb,aU (x:=x) (by simp) h]
 case cB k x=>dsimp only at h;simp only[au,cb,aU (x:=x) (by simp) h]
 case sP x=>dsimp only at h;simp only[au,cb,aU (x:=x) (by simp) h]
 case jM x=>dsimp only at h;simp only[au,cb,aU (x:=x) (by simp) h]
 case rS x=>dsimp only at h;simp only[au,cb,aU (x:=x) (by simp) h]
 case iL f cs=>dsimp only at h;simp only[au,cb,gd (xs:=cs) (fun _ h=>h) h]
 case mB f cs=>dsimp only at h;simp only[au,cb,gd (xs:=cs) (fun _ h=>h) h]
 case eO bP z bytes l c=>dsimp only at h;simp only[au,cb,aU (x:=l) (by simp) h,aU (x:=c) (by simp) h]
 case eV bP x lo hi mx=>
  dsimp only at h
  simp only[au,cb,aU (x:=x) (by simp) h,jA (x:=lo) (by simp +contextual) h,jA (x:=hi) (by simp +contextual) h,jA (x:=mx) (by simp +contextual) h]
 case o0 x lo hi=>
  dsimp only at h
  simp only[au,cb,aU (x:=x) (by simp) h,jA (x:=lo) (by simp +contextual) h,jA (x:=hi) (by simp +contextual) h]
 case af off x=>dsimp only at h;simp only[au,cb,aU (x:=x) (by simp) h]
 case field ag n off x=>dsimp only at h;simp only[au,cb,aU (x:=x) (by simp) h]
 case bw bP x ix=>dsimp only at h;simp only[au,cb,aU (x:=x) (by simp) h,aU (x:=ix) (by simp) h]
 case gP len bP x ix=>dsimp only at h;simp only[au,cb,aU (x:=x) (by simp) h,aU (x:=ix) (by simp) h]
 case o8 ag n len x ix=>dsimp only at h;simp only[au,cb,aU (x:=x) (by simp) h,aU (x:=ix) (by simp) h]
 case gk x ix=>dsimp only at h;simp only[au,cb,aU (x:=x) (by simp) h,aU (x:=ix) (by simp) h]
 case extract x i=>dsimp only at h;simp only[au,cb,aU (x:=x) (by simp) h]
 case len x=>dsimp only at h;simp only[au,cb,aU (x:=x) (by simp) h]
 case fO x=>dsimp only at h;simp only[au,cb,aU (x:=x) (by simp) h]
 case A7 n=>rfl
 case jb xs=>dsimp only at h;simp only[au,cb,gd (xs:=xs) (fun _ h=>h) h]
 case mh xs=>dsimp only at h;simp only[au,cb,gd (xs:=xs) (fun _ h=>h) h]
 case append bP bytes s x=>dsimp only at h;simp only[au,cb,aU (x:=s) (by simp) h,aU (x:=x) (by simp) h]
 case qe s x=>dsimp only at h;simp only[au,cb,aU (x:=s) (by simp) h,aU (x:=x) (by simp) h]
 case copy bP d x=>dsimp only at h;simp only[au,cb,aU (x:=d) (by simp) h,aU (x:=x) (by simp) h]
 case clear bP z x=>dsimp only at h;simp only[au,cb,aU (x:=x) (by simp) h]
 case oD=>rfl
 case nZ t x k v=>dsimp only at h;simp only[au,cb,aU (x:=x) (by simp) h,aU (x:=k) (by simp) h,aU (x:=v) (by simp) h]
 case kD t ok z x k=>dsimp only at h;simp only[au,cb,aU (x:=x) (by simp) h,aU (x:=k) (by simp) h]
 case call f xs=>
  dsimp only at h
  simp only[au]
  rw[aU (x:=f) (ac5 ..) h,gd (xs:=xs) (fun x hx=>ade _ hx) h]
 case eL f m xs=>
  dsimp only at h
  simp only[au]
  rw[gd (xs:=xs) (fun x hx=>hx) h]
 case lu f xs=>
  dsimp only at h
  simp only[au]
  rw[gd (xs:=xs) (fun x hx=>hx) h]
 case bad=>rfl
def Gm(acc:List Nat)(o:Oper):Nat:=o.after.toList.foldl (fun s e=>bif Region.binds .any e then s|||2 ^ e.on|||acc.getD e.on 0 else s) 0
theorem j5(l:List Oper)(o:Oper):bK (l++[o])=bK l++[Gm (bK l) o]:=by
 simp[bK,Gm,afT]
theorem zK{A:Type}{P:List A→Prop}(h0:P [])(h1:∀l a,P l→P (l++[a]))(l:List A):P l:=by
 rw[←List.reverse_reverse l]
 induction l.reverse with
 |nil=>exact h0
 |cons a r ih=>rw[afq];exact h1 _ _ ih
theorem eC(l:List Oper):(bK l).length=l.length:=by
 refine zK (P:=fun l=>(bK l).length=l.length) rfl (fun l o ih=>?_) l
 rw[j5];simp[ih]
theorem iI(l m:List Oper){j:Nat}(hj:j<l.length):(bK (l++m))[j]?=(bK l)[j]?:=by
 refine zK (P:=fun m=>(bK (l++m))[j]?=(bK l)[j]?) (by simp) (fun m o ih=>?_) m
 rw[←aco,j5,acF (by rw[eC];simp;omega)]
 exact ih
theorem tM{acc:List Nat}{i:Nat}:∀(es:List Edge) (s:Nat),(es.foldl (fun s e=>bif Region.binds .any e then s|||2 ^ e.on|||acc.getD e.on 0 else s) s).testBit i=true→
 s.testBit i=true∨∃e∈es,Region.binds .any e=true∧(e.on=i∨(acc.getD e.on 0).testBit i=true)
 |[],s,h=>.inl h
 |d::es,s,h=>by
  simp only[adB]at h
  rcases tM es _ h with h1|⟨d',h1,h2⟩
  ·cases hb:Region.binds .any d with
   |false=>rw[hb]at h1;exact .inl h1
   |true=>
    rw[hb]at h1
    simp only[acG,Nat.testBit_or,adw,Nat.testBit_two_pow,acr]at h1
    rcases h1 with(h1|h1)|h1
    ·exact .inl h1
    ·exact .inr ⟨d,ac5 ..,hb,.inl h1⟩
    ·exact .inr ⟨d,ac5 ..,hb,.inr h1⟩
  ·exact .inr ⟨d',ade _ h1,h2⟩
theorem ou{ops:List Oper}{j i:Nat}(h:((bK ops).getD j 0).testBit i=true) :
 ∃o,ops[j]?=some o∧∃e∈o.after,Region.binds .any e=true∧(e.on=i∨(e.on<j∧((bK ops).getD e.on 0).testBit i=true)):=by
 by_cases hj:j<ops.length
 ·have hsp:ops=ops.take (j+1)++ops.drop (j+1):=(adC _ _).symm
  have hsn:ops.take (j+1)=ops.take j++[ops[j]]:=List.take_succ_eq_append_getElem hj
  have hlt:(ops.take j).length=j:=by simp;omega
  have hval:(bK ops)[j]?=some (Gm (bK (ops.take j)) ops[j]):=by
   conv=>lhs;rw[hsp]
   rw[iI _ _ (by simp;omega),hsn,j5,adf (by rw[eC];omega),eC,hlt]
   simp
  rw[adg,hval]at h
  simp only[ad3]at h
  refine⟨ops[j],by simp[hj],?_⟩
  unfold Gm at h
  rcases tM _ _ h with h|⟨d,h1,h2,h3⟩
  ·simp at h
  ·refine⟨d,by simpa using h1,h2,h3.imp id (fun h3=>?_)⟩
   by_cases hd:d.on<j
   ·refine⟨hd,?_⟩
    have:(bK ops)[d.on]?=(bK (ops.take j))[d.on]?:=by
     conv=>lhs;rw[hsp]
     rw[iI _ _ (by simp;omega),hsn,iI _ _ (by omega)]
    rw[adg,this,←adg]
    exact h3
   ·rw[adg,adS (by rw[eC];omega)]at h3
    simp at h3
 ·rw[adg,adS (by rw[eC];omega)]at h
  simp at h
theorem yC{ops:List Oper}(hedge:∀(i:Nat) o,ops[i]?=some o→∀e∈o.after,Region.binds .any e=true→e.on<i):∀(j i:Nat),((bK ops).getD j 0).testBit i=true→i<j:=by
 intro j
 induction j using Nat.strongRecOn with
 |_ j ih=>
  intro i h
  obtain⟨o,h1,d,h2,h3,h4⟩:=ou h
  rcases h4 with h4|⟨h4,h5⟩
  ·subst h4;exact hedge j o h1 d h2 h3
  ·have:=ih d.on h4 i h5;omega
theorem jS{ops:List Oper}{S:Nat→Prop}(hS:∀(k:Nat) o,S k→ops[k]?=some o→∀e∈o.after,Region.binds .any e=true→S e.on) :
 ∀(j i:Nat),(∀o,ops[j]?=some o→∀e∈o.after,Region.binds .any e=true→S e.on)→((bK ops).getD j 0).testBit i=true→S i:=by
 intro j
 induction j using Nat.strongRecOn with
 |_ j ih=>
  intro i hj h
  obtain⟨o,h1,d,h2,h3,h4⟩:=ou h
  have hd:=hj o h1 d h2 h3
  rcases h4 with h4|⟨h4,h5⟩
  ·subst h4;exact hd
  ·exact ih d.on h4 i (fun o' ho'=>hS d.on o' hd ho') h5
def dr(pl:List (aL×bH))(i:Nat):bH:=((pl[i]?).map (·.2)).getD ⟨.pure,[],0,0⟩
theorem cL{pl:List (aL×bH)}{i:Nat}{o:aL}{d:bH}(h:pl[i]?=some (o,d)):dr pl i=d:=by simp[dr,h]
structure Yu(bs:List Nat)(ops:List Oper)(pl:List (aL×bH)):Prop where
 Hg:∀(i:Nat) o,ops[i]?=some o→∀e∈o.after,Region.binds .any e=true→e.on<i
 tmp:∀(i j:Nat) a b,i<j→pl[i]?=some a→pl[j]?=some b→(bs.getD j 0).testBit i=true∨(∀d,a.1.dst=some d→d∉bW b.1∧b.1.dst≠some d)∧(∀d,b.1.dst=some d→d∉bW a.1)
 HM:∀(i:Nat) o d,pl[i]?=some (o,d)→d.kind=.pure→gK o.op=true∧d.xO=0
 gU:∀i j,i<pl.length→j<pl.length→(dr pl i).kind=.gU→(dr pl j).kind≠.pure→i=j∨(bs.getD j 0).testBit i=true∨(bs.getD i 0).testBit j=true
 NY:0<pl.length→(dr pl 0).kT=0
 Im:∀k,k+1<pl.length→(dr pl (k+1)).kT=bif rZ (dr pl k)then 0 else(dr pl k).kT+(dr pl k).xO
 YB:∀k,k<pl.length→dF (dr pl k)=true→(dr pl k).xO=0
 W5:∀k m,k<pl.length→m<pl.length→dF (dr pl k)=true→k<m→(dr pl m).kind≠.pure→(bs.getD m 0).testBit k=true
 ind:∀i k a,k<pl.length→i<k→dF (dr pl k)=true→(dr pl i).kind=.j6→pl[i]?=some a→(∃m,i<m∧m<k∧(dr pl m).kind=.gU)∨(bs.getD k 0).testBit i=true∨oU a.1.op=true∨oL pl i k a.1.op (dr pl k)=true
 fB:∀i,i<pl.length→((dr pl i).kind=.j6∨dF (dr pl i)=true)→∀k,k<i→(dr pl k).kind=.j6→(∃m,k<m∧m<i∧(dr pl m).kind=.gU)∨(bs.getD i 0).testBit k=true∨∀m,m<(dr pl k).xO→(dr pl k).kT+m∈(dr pl i).fB
theorem js{d:bH}:rZ d=true↔d.kind=.gU:=by unfold rZ;cases d.kind<;>simp
theorem pf{d:bH}:sG d=true↔d.kind=.j6:=by unfold sG;cases d.kind<;>simp
theorem mL{d:bH}:rf d=true↔d.kind=.pure:=by unfold rf;cases d.kind<;>simp
theorem uY{bs:List Nat}{ops:List Oper}{pl:List (aL×bH)}(h:l9 bs ops pl=true):Yu bs ops pl:=by
 unfold l9 at h
 simp only[acw]at h
 obtain⟨⟨⟨⟨⟨⟨⟨h1,h2⟩,h3⟩,h4⟩,h5⟩,h6⟩,h7⟩,h8⟩:=h
 refine⟨fun i o ho e he hb=>?_,fun i j a b hij ha hb=>?_,fun i o d hi hk=>?_,fun i j hi hj hk hp=>?_,fun h0=>?_,fun k hk=>?_,fun k hk hw=>?_,fun k m hk hm hw hkm hp=>?_,fun i k a hk hik hw hs ha=>?_,fun i hi hk k hki hkk=>?_⟩
 ·have:=acZ.1 h1 (o,i) (by rw[aeJ];exact⟨i,by simp[List.getElem?_zipIdx,ho]⟩)
  have:=acZ.1 this e (by simpa using he)
  simpa[hb]using this
 ·have hj:=(acm.1 hb).1
  have:=acZ.1 h2 j (ac2.2 hj)
  have:=acZ.1 this i (ac2.2 hij)
  rw[ha,hb]at this
  simp only[adw,ac8,Bool.or_eq_false_iff]at this
  refine this.imp id (fun⟨g1,g2⟩=>⟨fun d hd=>?_,fun d hd=>?_⟩)
  ·rw[hd]at g1
   simp only[Bool.or_eq_false_iff,List.contains_eq_mem,acx,aea]at g1
   exact g1
  ·rw[hd]at g2
   simpa using g2
 ·have:=acZ.1 h3 (o,d) (acy hi)
  simpa[mL.2 hk]using this
 ·have:=acZ.1 h4 i (ac2.2 hi)
  have hb:rZ (((pl[i]?).map (·.2)).getD ⟨.pure,[],0,0⟩)=true:=js.2 hk
  rw[hb]at this
  simp only[adp,ad0]at this
  have:=acZ.1 this j (ac2.2 hj)
  simp only[adw]at this
  rcases this with h|h
  ·exact absurd (mL.1 h) hp
  ·unfold C9 at h
   simp only[adw,adK]at h
   rcases h with(h|h)|h
   ·exact .inl h
   ·exact .inr (.inl h)
   ·exact .inr (.inr h)
 ·have:=acZ.1 h5 0 (ac2.2 h0)
  simpa[dr]using this
 ·have:=acZ.1 h5 (k+1) (ac2.2 hk)
  simpa[dr]using this
 ·have:=acZ.1 h7 k (ac2.2 hk)
  have hw':dF (((pl[k]?).map (·.2)).getD ⟨.pure,[],0,0⟩)=true:=hw
  rw[hw']at this
  simp only[adp,ad0,acw]at this
  exact adK.1 this.1
 ·have:=acZ.1 h7 k (ac2.2 hk)
  have hw':dF (((pl[k]?).map (·.2)).getD ⟨.pure,[],0,0⟩)=true:=hw
  rw[hw']at this
  simp only[adp,ad0,acw]at this
  have:=acZ.1 this.2 m (ac2.2 hm)
  simp only[adw,ac8,acx]at this
  rcases this with(h|h)|h
  ·exact absurd hkm h
  ·exact absurd (mL.1 h) hp
  ·exact h
 ·have:=acZ.1 h8 k (ac2.2 hk)
  have hw':dF (((pl[k]?).map (·.2)).getD ⟨.pure,[],0,0⟩)=true:=hw
  rw[hw']at this
  simp only[adp,ad0]at this
  have:=acZ.1 this i (ac2.2 hik)
  have hs':sG (((pl[i]?).map (·.2)).getD ⟨.pure,[],0,0⟩)=true:=pf.2 hs
  rw[hs',ha]at this
  simp only[adp,ad0,adw]at this
  rcases this with(h|h)|h
  ·obtain⟨m,hm,h⟩:=adT.1 h
   simp only[acw,acr]at h
   exact .inl ⟨m,h.1,ac2.1 hm,js.1 h.2⟩
  ·exact .inr (.inl h)
  ·exact .inr (.inr h)
 ·have:=acZ.1 h6 i (ac2.2 hi)
  have hs:(sG (((pl[i]?).map (·.2)).getD ⟨.pure,[],0,0⟩)||dF (((pl[i]?).map (·.2)).getD ⟨.pure,[],0,0⟩))=true:=by
   rw[adw]
   exact hk.imp (fun h=>pf.2 h) (fun h=>h)
  rw[hs]at this
  simp only[adp,ad0]at this
  have:=acZ.1 this k (ac2.2 hki)
  have hs':sG (((pl[k]?).map (·.2)).getD ⟨.pure,[],0,0⟩)=true:=pf.2 hkk
  rw[hs']at this
  simp only[adp,ad0,adw]at this
  rcases this with(h|h)|h
  ·obtain⟨m,hm,h⟩:=adT.1 h
   simp only[acw,acr]at h
   exact .inl ⟨m,h.1,ac2.1 hm,js.1 h.2⟩
  ·exact .inr (.inl h)
  ·refine .inr (.inr (fun m hm=>?_))
   have:=acZ.1 h m (ac2.2 hm)
   rw[List.contains_iff_mem]at this
   exact this
def qi(e:Env)(g:Option (Nat×Bool)):Prop:=g=none∨∃t w,g=some (t,w)∧get e t=.bool w
def vT(e:Env)(g:Option (Nat×Bool)):Prop:=∃t w,g=some (t,w)∧(get e t=.bool (!w)∨get e t=.jy)
structure Tr(rec:Rec)(pl:List (aL×bH))(es:Nat→Env)(hs:Nat→ab)(out:Nat→SV)(Ns:Nat→Nat):Prop where
 env:∀(i:Nat) o d,pl[i]?=some (o,d)→es (i+1)=cf (es i) o.dst (out i)
 nx:∀(i:Nat) o d,pl[i]?=some (o,d)→Ns (i+1)=fS d (Ns i) (hs (i+1))
 st:∀(i:Nat) o d,pl[i]?=some (o,d)→(qi (es i) o.g∧b9 rec (Ns i) d (es i) (hs i) o.op=some (out i,hs (i+1)))∨(vT (es i) o.g∧iZ d=true∧out i=.jy∧hs (i+1)=hs i)
theorem trace{R:Type}{k:Env→ab→Option R}{r:R}:∀(pl:List (aL×bH)) (N:Nat) (e:Env) (H:ab),bZ rec pl N e H k ()=some r→
 ∃es hs out Ns,es 0=e∧hs 0=H∧Ns 0=N∧Tr rec pl es hs out Ns∧k (es pl.length) (hs pl.length)=some r
 |[],N,e,H,h=>⟨fun _=>e,fun _=>H,fun _=>.undef,fun _=>N,rfl,rfl,rfl,⟨by simp,by simp,by simp⟩,h⟩
 |(o,d)::pl,N,e,H,h=>by
  have key:∀s H',((qi e o.g∧b9 rec N d e H o.op=some (s,H'))∨(vT e o.g∧iZ d=true∧s=.jy∧H'=H))→
   bZ rec pl (fS d N H') (cf e o.dst s) H' k ()=some r→∃es hs out Ns,es 0=e∧hs 0=H∧Ns 0=N∧Tr rec ((o,d)::pl) es hs out Ns∧k (es (pl.length+1)) (hs (pl.length+1))=some r:=by
   intro s H' hst hrun
   obtain⟨es,hs,out,Ns,h1,h2,h3,h4,h5⟩:=trace pl _ _ _ hrun
   refine⟨fun|0=>e|i+1=>es i,fun|0=>H|i+1=>hs i,fun|0=>s|i+1=>out i,fun|0=>N|i+1=>Ns i,rfl,rfl,rfl,⟨?_,?_,?_⟩,h5⟩
   ·intro i o' d' hi
    cases i with
    |zero=>simp at hi;obtain⟨rfl,rfl⟩:=hi;exact h1
    |succ i=>exact h4.env i o' d' (by simpa using hi)
   ·intro i o' d' hi
    cases i with
    |zero=>simp at hi;obtain⟨rfl,rfl⟩:=hi;simp only;rw[h3,h2]
    |succ i=>exact h4.nx i o' d' (by simpa using hi)
   ·intro i o' d' hi
    cases i with
    |zero=>simp at hi;obtain⟨rfl,rfl⟩:=hi;simp only;rw[h2];exact hst
    |succ i=>exact h4.st i o' d' (by simpa using hi)
  simp only[bZ]at h
  split at h
  ·rename_i hg
   unfold aN at h
   split at h
   ·rename_i p hp
    exact key p.1 p.2 (.inl ⟨.inl hg,hp⟩) h
   ·cases h
  ·rename_i t w hg
   unfold fI at h
   split at h
   ·rename_i b hb
    unfold fork at h
    dsimp only at h
    cases hbw:(b==w)with
    |true=>
     have:b=w:=by simpa using hbw
     subst this
     rw[hbw]at h
     simp only[acG]at h
     unfold aN at h
     split at h
     ·rename_i p hp
      exact key p.1 p.2 (.inl ⟨.inr ⟨t,b,hg,hb⟩,hp⟩) h
     ·cases h
    |false=>
     have:b=!w:=by cases b<;>cases w<;>simp_all
     subst this
     rw[hbw]at h
     simp only[acJ]at h
     replace h:=aj h
     exact key .jy H (.inr ⟨⟨t,w,hg,.inl hb⟩,h.1,rfl,rfl⟩) h.2
   ·rename_i hb
    unfold fork at h
    dsimp only at h
    simp only[acJ]at h
    replace h:=aj h
    exact key .jy H (.inr ⟨⟨t,w,hg,.inr hb⟩,h.1,rfl,rfl⟩) h.2
   ·cases h
end
end
section
def eH:aC→aC→Prop
 | .dead,.dead=>True
 | .box cs,.box cs'=>cs.length=cs'.length
 | .arr v z L e,.arr v' z' L' e'=>v=v'∧z=z'∧L.length=L'.length∧e=e'
 | .loop r s p,.loop r' s' p'=>r=r'∧s=s'∧p=p'
 | .map es,.map es'=>es=es'
 |_,_=>False
theorem kG(x:aC):eH x x:=by cases x<;>simp[eH]
theorem tV{x y z:aC}(h:eH x y)(h':eH y z):eH x z:=by
 cases x<;>cases y<;>simp only[eH]at h<;>cases z<;>simp only[eH]at h'⊢ <;>simp_all
theorem vU{x y:aC}(h:eH x y):x.live=y.live:=by
 cases x<;>cases y<;>simp only[eH]at h<;>rfl
structure cp(l l':List aC):Prop where
 len:l.length=l'.length
 at_:∀(b:Nat) x y,l[b]?=some x→l'[b]?=some y→eH x y
theorem cp.refl(l:List aC):cp l l:=⟨rfl,fun b x y h h'=>by rw[h]at h';cases h';exact kG x⟩
theorem cp.get{l l':List aC}(h:cp l l')(b:Nat):(l[b]?=none∧l'[b]?=none)∨∃x y,l[b]?=some x∧l'[b]?=some y∧eH x y:=by
 cases hx:l[b]? with
 |none=>
  left
  refine⟨rfl,?_⟩
  rw[afb]at hx⊢
  rw[←h.len];exact hx
 |some x=>
  have hb:=(acm.1 hx).1
  have hy:l'[b]?=some (l'[b]'(by rw[←h.len];exact hb)):=acK _
  exact .inr ⟨x,_,rfl,hy,h.at_ b _ _ hx hy⟩
theorem cp.trans{l l' l'':List aC}(h:cp l l')(h':cp l' l''):cp l l'':=by
 refine⟨h.len.trans h'.len,fun b x z hx hz=>?_⟩
 rcases h.get b with⟨h1,_⟩|⟨x',y,h1,h2,h3⟩
 ·rw[h1]at hx;cases hx
 ·rw[hx]at h1;cases h1
  exact tV h3 (h'.at_ b _ _ h2 hz)
theorem cp.set{l:List aC}{b:Nat}{x y:aC}(hx:l[b]?=some x)(h:eH x y):cp l (l.set b y):=by
 refine⟨by simp,fun b' u v hu hv=>?_⟩
 by_cases e:b'=b
 ·subst e
  rw[hx]at hu;cases hu
  have hlt:=(acm.1 hx).1
  simp[hlt]at hv
  subst hv;exact h
 ·rw[acv (Ne.symm e),hu]at hv
  cases hv;exact kG u
theorem cp.take{l l':List aC}(h:cp l l')(n:Nat):cp (l.take n) (l'.take n):=by
 refine⟨by simp[h.len],fun b x y hx hy=>?_⟩
 rw[acX]at hx hy
 split at hx
 ·rename_i hlt
  rw[if_pos hlt]at hy
  exact h.at_ b x y hx hy
 ·cases hx
theorem cp.both{l l':List aC}(h:cp l l')(b:Nat)(x:aC):cp (l.set b x) (l'.set b x):=by
 refine⟨by simp[h.len],fun b' u v hu hv=>?_⟩
 by_cases e:b'=b
 ·subst e
  have h1:=(acm.1 hu).1
  have h2:=(acm.1 hv).1
  rw[acU]at h1 h2
  simp[h1]at hu
  simp[h2]at hv
  subst hu;subst hv;exact kG _
 ·rw[acv (Ne.symm e)]at hu hv
  exact h.at_ b' u v hu hv
theorem cp.fB{l l':List aC}(h:cp l l')(N:Nat):∀ds:List Nat,cp (cE N ds l) (cE N ds l'):=by
 intro ds
 induction ds generalizing l l' with
 |nil=>exact h
 |cons d ds ih=>
  have:=ih (h.both (N+d) .dead)
  unfold cE at this⊢
  simpa using this
section
variable{rec:Rec}{e:Env}{H H' V0 V1 V0':ab}{s:SV}
theorem jF(h:cp H.bl H'.bl)(v:SV):cur H v=cur H' v:=by
 cases v<;>try rfl
 ·rename_i b cC i o
  unfold cur bk
  dsimp only
  rcases h.get b with⟨h1,h2⟩|⟨x,y,h1,h2,h3⟩
  ·rw[h1,h2]
  ·rw[h1,h2]
   cases x<;>cases y<;>simp only[eH]at h3<;>first|rfl|(simp[h3.1])
 ·rename_i b cC i o
  unfold cur bk
  dsimp only
  rcases h.get b with⟨h1,h2⟩|⟨x,y,h1,h2,h3⟩
  ·rw[h1,h2]
  ·rw[h1,h2]
   cases x<;>cases y<;>simp only[eH]at h3<;>first|rfl|(simp[h3.1])
theorem qy(h:cp H.bl H'.bl)(z:Nat)(v:SV):ew H z v=ew H' z v:=by
 cases v<;>try rfl
 rename_i b cC i o
 unfold ew bk
 dsimp only
 rcases h.get b with⟨h1,h2⟩|⟨x,y,h1,h2,h3⟩
 ·rw[h1,h2]
 ·rw[h1,h2]
  cases x<;>cases y<;>simp only[eH]at h3<;>first|rfl|(simp[h3.1,h3.2.1])
theorem si(h:cp H.bl H'.bl)(x:SV)(lo hi mx:Option SV):gr H x lo hi mx=gr H' x lo hi mx:=by
 unfold gr
 split
 ·rename_i b v off n hv
  rcases h.get b with⟨h1,h2⟩|⟨y,z,h1,h2,h3⟩
  ·simp only[bk,h1,h2]
  ·simp only[bk,h1,h2]
   cases y<;>cases z<;>simp only[eH]at h3<;>try rfl
   simp only[h3.2.2.1]
 ·rfl
theorem wQ(h:cp H.bl H'.bl)(k:NK)(v:SV):gg H k v=gg H' k v:=by
 cases k<;>cases v<;>first|rfl|(simp only[gg,jF h])
theorem rY{v:Option SV}(h:v.map (·,V0)=some (s,V0')):∃X,V0'={V0 with bl:=V0.bl++X}∧v.map (·,V1)=some (s,{V1 with bl:=V1.bl++X}):=by
 cases v with
 |none=>cases h
 |some v=>cases h;exact⟨[],by simp,by simp⟩
theorem EN{op:mi}(hb:oU op=true)(hsh:cp V0.bl V1.bl)(h:au rec e V0 op=some (s,V0')) :
 ∃X,V0'={V0 with bl:=V0.bl++X}∧au rec e V1 op=some (s,{V1 with bl:=V1.bl++X}):=by
 cases op<;>try (exfalso;simp only[oU,adh]at hb;done)
 case box x=>
  simp only[au,cb,acq,acY]at h⊢
  obtain⟨cs,h1,rfl,rfl⟩:=h
  exact⟨[.box cs],rfl,cs,h1,by rw[hsh.len],rfl⟩
 case alloc z=>
  simp only[au,cb]at h⊢
  cases h
  exact⟨[.box z],rfl,by rw[hsh.len];rfl⟩
 case gl bP z n ps=>
  simp only[au,cb,acq,acY]at h⊢
  obtain⟨L,h1,rfl,rfl⟩:=h
  exact⟨[.arr 0 bP L true],rfl,L,h1,by rw[hsh.len],rfl⟩
 case eh x=>
  simp only[au,cb]at h⊢
  rw[←jF hsh]
  replace h:=aj h
  rw[h.1];exact rY h.2
 case isNil k neg x=>
  simp only[au,cb]at h⊢
  rw[←wQ hsh]
  simp only[acq,acY]at h⊢
  obtain⟨b,h1,rfl,rfl⟩:=h
  exact⟨[],by simp,b,h1,by simp⟩
 case eO bP z bytes l c=>
  simp only[au,cb]at h⊢
  unfold kK at h⊢
  split at h
  ·rename_i l' c' h1 h2
   replace h:=aj h
   obtain⟨h3,h⟩:=h
   cases h
   rw[h3]
   exact⟨[.arr 0 bP (List.replicate c'.toNat z) true],rfl,by simp[hsh.len,bJ]⟩
  ·cases h
 case eV bP x lo hi mx=>
  simp only[au,cb]at h⊢
  rw[←qy hsh,←si hsh]
  replace h:=aj h
  rw[h.1];exact rY h.2
 case af off x=>
  simp only[au,cb]at h⊢
  rw[←jF hsh]
  replace h:=aj h
  rw[h.1];exact rY h.2
 case bw bP x ix=>
  simp only[au,cb]at h⊢
  rw[←qy hsh]
  replace h:=aj h
  rw[h.1];exact rY h.2
 case gP len bP x ix=>
  simp only[au,cb]at h⊢
  rw[←jF hsh]
  replace h:=aj h
  rw[h.1]
  simp only[acu,acG]at h⊢
  obtain⟨_,i,h1,h2⟩:=h
  obtain⟨X,h3,h4⟩:=rY (V1:=V1) h2
  exact⟨X,h3,i,h1,h4⟩
 case len x=>
  simp only[au,cb]at h⊢
  rw[←jF hsh]
  replace h:=aj h
  rw[h.1]
  simp only[acq,acG,acY]at h⊢
  obtain⟨_,i,h1,rfl,rfl⟩:=h
  exact⟨[],by simp,i,h1,rfl,by simp⟩
theorem v5{cs xs:List SV}{o n:Nat}(hn:xs.length=n)(hle:o+n≤cs.length):(fJ cs o n xs).length=cs.length:=by
 unfold fJ;simp;omega
theorem jk{b:Nat}{y:aC}{r:Nat}(h:ca H b y r=some H'):H.ro≤b∧b<H.bl.length∧H'.bl=H.bl.set b y∧H'.ro=H.ro:=by
 unfold ca at h
 replace h:=aj h
 obtain⟨h1,h2⟩:=h
 simp only[acw,acr]at h1
 cases h2
 exact⟨h1.1,h1.2,rfl,rfl⟩
theorem gI{n:Nat}{x p:SV}(h:ej n H x p=some H'):∃b v i o xs y0 y1,p=.ptr b v i o∧cq x=some xs∧xs.length=n∧H.bl[b]?=some y0∧y0.live=true∧y1.live=true∧eH y0 y1∧ca H b y1 x.refs=some H'∧
 ((∃cs,y0=.box cs∧i=0∧o+n≤cs.length∧y1=.box (fJ cs o n xs))∨(∃z L ex cs,y0=.arr v z L ex∧L[i]?=some cs∧o+n≤cs.length∧y1=.arr v z (L.set i (fJ cs o n xs)) ex)):=by
 unfold ej at h
 split at h
 ·rename_i b v i o
  simp only[acu]at h
  obtain⟨xs,hxs,h⟩:=h
  replace h:=aj h
  obtain⟨hn,h⟩:=h
  have hn:xs.length=n:=by simpa using hn
  split at h
  ·rename_i cs hb
   replace h:=aj h
   obtain⟨hi,h⟩:=h
   simp only[acw,adK,acr]at hi
   exact⟨b,v,i,o,xs,_,.box (fJ cs o n xs),rfl,hxs,hn,hb,rfl,rfl,(v5 hn hi.2).symm,h,.inl ⟨cs,rfl,hi.1,hi.2,rfl⟩⟩
  ·rename_i v' z L ex hb
   replace h:=aj h
   obtain⟨hv,h⟩:=h
   have hv:v=v':=by simpa using hv
   subst hv
   split at h
   ·rename_i cs hcs
    replace h:=aj h
    obtain⟨hle,h⟩:=h
    have hle:o+n≤cs.length:=by simpa using hle
    exact⟨b,v,i,o,xs,_,.arr v z (L.set i (fJ cs o n xs)) ex,rfl,hxs,hn,hb,rfl,rfl,⟨rfl,rfl,by simp,rfl⟩,h,.inr ⟨z,L,ex,cs,rfl,hcs,hle,rfl⟩⟩
   ·cases h
  ·cases h
 ·cases h
theorem wj{cs xs:List SV}{o n j:Nat}(hn:xs.length=n)(hle:o+n≤cs.length)(hj:j<o∨o+n≤j):(fJ cs o n xs)[j]?=cs[j]?:=by
 unfold fJ
 rw[aco,adV]
 have ht:(cs.take o).length=o:=by simp;omega
 rw[ht]
 split
 ·rename_i h;rw[acX,if_pos h]
 ·rename_i h
  rw[adV,if_neg (by omega),ado]
  congr 1;omega
theorem qz{ag:Bool}{m o o' n:Nat}{cs xs:List SV}(h:dc ag m cs o=some s)(hn:xs.length=n)(hle:o'+n≤cs.length)(hd:o+(bif ag then m else 1)≤o'∨o'+n≤o) :
 dc ag m (fJ cs o' n xs) o=some s:=by
 unfold dc at h⊢
 cases ag with
 |false=>
  simp only[acJ]at h hd⊢
  rw[wj hn hle (by omega)];exact h
 |true=>
  simp only[acG]at h hd⊢
  replace h:=aj h
  obtain⟨h1,h⟩:=h
  rw[v5 hn hle,h1]
  simp only[acG]
  have h1:o+m≤cs.length:=by simpa using h1
  rw[←h]
  congr 2
  apply aen
  intro j
  rw[acX,acX]
  split
  ·rw[ado,ado,wj hn hle (by omega)]
  ·rfl
theorem Be{ag:Bool}{m n:Nat}{p q x:SV}(h:dg ag m H p=some s)(h':ej n H x q=some H')(hd:wM p (bif ag then m else 1) q n=true):dg ag m H' p=some s:=by
 obtain⟨b',v',i',o',xs,y0,y1,rfl,hxs,hn,hb',_,_,_,ca,hcase⟩:=gI h'
 obtain⟨_,hlt,hbl,_⟩:=jk ca
 unfold dg at h⊢
 split at h
 ·rename_i b v i o
  by_cases e:b=b'
  ·subst e
   have hg:bk H b=some y0:=hb'
   have hg':bk H' b=some y1:=by unfold bk;rw[hbl];simp[hlt]
   rw[hg]at h
   rw[hg']
   simp only[wM,adL,adp,ad0,adw,ac8,aea,acr]at hd
   rcases hcase with⟨cs,rfl,hi,hle,rfl⟩|⟨z,L,ex,cs,rfl,hcs,hle,rfl⟩
   ·simp only at h⊢
    replace h:=aj h
    obtain⟨h1,h⟩:=h
    rw[h1]
    have h1:i=0:=by simpa using h1
    exact qz h hn hle (by omega)
   ·simp only at h⊢
    replace h:=aj h
    obtain⟨h1,h⟩:=h
    rw[h1]
    simp only[acG]
    by_cases ei:i=i'
    ·subst ei
     have hli:=(acm.1 hcs).1
     rw[hcs]at h
     simp only[ae6,hli,if_true]at h⊢
     exact qz h hn hle (by omega)
    ·rw[acv (Ne.symm ei)];exact h
  ·have:bk H' b=bk H b:=by unfold bk;rw[hbl,acv (Ne.symm e)]
   rw[this];exact h
 ·exact h
 ·cases h
theorem nf{ag:Bool}{m:Nat}{p:SV}(h:dg ag m H p=some s)(hb:∀b v i o,p=.ptr b v i o→H.bl[b]?=H'.bl[b]?):dg ag m H' p=some s:=by
 unfold dg at h⊢
 split at h
 ·rename_i b v i o
  have:bk H' b=bk H b:=(hb b v i o rfl).symm
  rw[this];exact h
 ·exact h
 ·cases h
theorem sK{ag:Bool}{m:Nat}{b v i o:Nat}(h:dg ag m H (.ptr b v i o)=some s):∃x,H.bl[b]?=some x∧x.live=true:=by
 unfold dg bk at h
 simp only at h
 split at h
 ·rename_i cs hb;exact⟨_,hb,rfl⟩
 ·rename_i v' z L ex hb;exact⟨_,hb,rfl⟩
 ·cases h
theorem dw{d:bH}:dF d=true↔∃rd,d.kind=.wr rd:=by unfold dF;cases d.kind<;>simp
theorem El{a b:bX}(h:Cn a b=true):a=b:=by
 cases a<;>cases b<;>simp only[Cn,adh]at h
 rw[adK]at h;rw[h]
theorem pT{pl:List (aL×bH)}{i k:Nat}{o:mi}{d:bH}(h:oL pl i k o d=true) :
 ∃ag n u rd,o=.load ag n (.t u)∧d.kind=.wr rd∧(.t u,bif ag then n else 1)∈rd∧∀m,i≤m→m<k→∀p,pl[m]?=some p→p.1.dst≠some u:=by
 unfold oL at h
 split at h
 ·rename_i ag n a rd hk
  rw[acw]at h
  obtain⟨h1,h2⟩:=h
  obtain⟨q,hq,h1⟩:=adT.1 h1
  rw[acw]at h1
  have e1:=El h1.1
  have e2:q.2=_:=adK.1 h1.2
  cases a with
  |c v=>cases h2
  |t u=>
   refine⟨ag,n,u,rd,rfl,hk,?_,fun m hm hk' p hp=>?_⟩
   ·rw[←e1,←e2];exact hq
   ·have:=acZ.1 h2 m (ac2.2 hk')
    rw[hp]at this
    simp only[adw,acr,ac8,aea]at this
    rcases this with h|h
    ·omega
    ·exact h
 ·cases h
end
section
variable{C:Ctx}{ρ:Map}{F:Nat→Prop}{H H':ab}{w:World}
theorem BI{P:Program}{o:Op}{n:Nat}{x y:bX}(h:oW P o=some (.store n x y)):∃t x' y',o=.store t x' y'∧gf P t=some n∧bA x'=some x∧bA y'=some y:=by
 unfold oW at h
 split at h
 case h_9 t x' y'=>
  split at h
  ·rename_i n' u v h1 h2 h3
   cases h
   exact⟨t,x',y',rfl,h1,h2,h3⟩
  ·cases h
 case h_23 c=>
  unfold pM at h
  repeat' split at h
  all_goals (first|(cases h;done)|(simp[acq,cond_eq_ite]at h;done)|(repeat' split at h) )
  all_goals (first|(cases h;done)|(simp[acq,cond_eq_ite]at h;done)|skip)
 all_goals (repeat' split at h)
 all_goals (first|(cases h;done)|(obtain⟨_,_,h2⟩:=nN h;cases h2;done)|(simp[acq,cond_eq_ite]at h;done)|(simp only[cond_eq_ite]at h;repeat' split at h;all_goals (first|(cases h;done)|(simp[acq]at h;done))))
theorem B9{e:Env}{a:Act}{o:Oper}{op:mi}{b:GA}{n:Nat}{x y:bX}(ed:op=wh b ((oW C.P o.op).getD .bad))(hopo:op=.store n x y)(hs:ej n H (ev e y) (ev e x)=some H')(hr:HR C ρ F H w)(he:ER w F ρ e a.tmps)
 {ro:Option Nat} {m:Nat} {K:Act→World→Prop} {Q:Exit→Act→World→Prop} (hK:∀w',HR C ρ F H' w'→Ext C ρ F H w ρ F H' w'→Am C ρ F H H' w w' (ev e y).refs→K (a.put o.dst undef) w'):o.wpIn (WF ro) m C.P a w K Q:=by
 have hc:oW C.P o.op=some (.store n x y):=by
  rw[hopo]at ed
  cases hc:oW C.P o.op with
  |none=>rw[hc]at ed;simp only[Option.getD_none]at ed;cases b<;>cases ed
  |some op0=>
   rw[hc]at ed
   simp only[ad3]at ed
   unfold wh at ed
   split at ed
   ·cases ed
   ·cases ed
   ·cases ed
   ·cases ed
   ·cases ed
   ·rw[ed]
 obtain⟨t,x',y',ho,h1,h2,h3⟩:=BI hc
 refine⟨fun _ _=>trivial,?_⟩
 rw[Oper.semAt_eq _ _ _ (gm hc)]
 obtain⟨w',k1,k2,k3,k4⟩:=vZ h1 hr (aZ h2 he) (aZ h3 he) hs
 have hx:(execOp a.eval o).run C.P w=.ok .skip w':=by
  simp only[execOp,ho]
  simp[k1,pure,Sem.run]
 rw[hx]
 exact hK w' k2 k3 k4
end
end
section
section
variable{C:Ctx}{rec:Rec}{f:FuncId}{nt:Nat}
structure fZ(C:Ctx)(rec:Rec)(f:FuncId)(nt:Nat)(ops:Array Oper)(pl:List (aL×bH))(es:Nat→Env)(hs:Nat→ab)(out:Nat→SV)(Ns:Nat→Nat):Prop where
 ed:∀(i:Nat) o d,pl[i]?=some (o,d)→∃op,ops[i]?=some op∧iX C.P C.dL f nt ops op=some o
 hlen:pl.length=ops.size
 nm:Yu (bK ops.toList) ops.toList pl
 tr:Tr rec pl es hs out Ns
 n0:Ns 0=(hs 0).bl.length
variable{ops:Array Oper}{pl:List (aL×bH)}{es:Nat→Env}{hs:Nat→ab}{out:Nat→SV}{Ns:Nat→Nat}
theorem ik{i:Nat}(h:i<pl.length):∃o d,pl[i]?=some (o,d):=⟨pl[i].1,pl[i].2,by simp[h]⟩
abbrev aT(hs:Nat→ab)(i:Nat):Nat:=(hs i).bl.length
theorem fZ.wr(R:fZ C rec f nt ops pl es hs out Ns){i:Nat}{o:aL}{d:bH}{rd:List (bX×Nat)}(h:pl[i]?=some (o,d))(hk:d.kind=.wr rd) :
 ∃n a x,o.op=.store n a x∧qi (es i) o.g∧(ev (es i) x).refs≤Ns i∧Ga (Ns i) d.fB (ev (es i) a)=true∧(∀q∈rd,wM (ev (es i) q.1) q.2 (ev (es i) a) n=true)∧
  ej n (hs i) (ev (es i) x) (ev (es i) a)=some (hs (i+1))∧out i=.undef∧Ns (i+1)=Ns i:=by
 have hN:Ns (i+1)=Ns i:=by
  rw[R.tr.nx i o d h];unfold fS;rw[hk]
 rcases R.tr.st i o d h with⟨hw,h1⟩|⟨_,h2,_,_⟩
 ·unfold b9 at h1
  rw[hk]at h1
  simp only at h1
  unfold yU at h1
  split at h1
  ·rename_i n a x ed
   replace h1:=aj h1
   obtain⟨h2,h1⟩:=h1
   simp only[acw,acr]at h2
   simp only[acq,acY]at h1
   obtain⟨H1,h3,h4,h5⟩:=h1
   subst h5
   exact⟨n,a,x,ed,hw,h2.1.1,h2.1.2,fun q hq=>acZ.1 h2.2 q hq,h3,h4.symm,hN⟩
  ·cases h1
 ·unfold iZ at h2
  rw[hk]at h2;cases h2
theorem fZ.zi(R:fZ C rec f nt ops pl es hs out Ns){i:Nat}{o:aL}{d:bH}(h:pl[i]?=some (o,d))(hw:dF d=true):aT hs (i+1)=aT hs i:=by
 obtain⟨rd,hk⟩:=dw.1 hw
 obtain⟨n,a,x,_,_,_,_,_,h1,_⟩:=R.wr h hk
 obtain⟨b,v,ii,oo,xs,y0,y1,_,_,_,_,_,_,_,h2,_⟩:=gI h1
 have:=(jk h2).2.2.1
 show(hs (i+1)).bl.length=(hs i).bl.length
 rw[this,acU]
theorem fZ.Dr(R:fZ C rec f nt ops pl es hs out Ns){i:Nat}(hi:i<pl.length):(hs i).bl.length≤(hs (i+1)).bl.length:=by
 obtain⟨o,d,h⟩:=ik hi
 cases hw:dF d with
 |true=>exact aes (R.zi h hw).symm
 |false=>
 rcases R.tr.st i o d h with⟨_,h1⟩|⟨_,_,_,h1⟩
 ·unfold b9 at h1
  split at h1
  ·rename_i hk
   rw[(od (R.nm.HM i o d h hk).1 h1).1];exact acH _
  ·simp only[acu]at h1
   obtain⟨r,h2,h3⟩:=h1
   replace h3:=aj h3
   obtain⟨h4,h5⟩:=h3
   cases h5
   simpa using h4
  ·simp only[acu]at h1
   obtain⟨r,h2,h3⟩:=h1
   replace h3:=aj h3
   obtain⟨h4,h5⟩:=h3
   simp only[acN,acY]at h5
   rw[←h5.2]
   simp
  ·rename_i rd hk
   rw[dw.2 ⟨rd,hk⟩]at hw;cases hw
 ·rw[h1];exact acH _
theorem fZ.mono(R:fZ C rec f nt ops pl es hs out Ns){i:Nat}:∀{j:Nat},i≤j→j≤pl.length→(hs i).bl.length≤(hs j).bl.length:=by
 intro j
 induction j with
 |zero=>intro h _;have:i=0:=by omega
        subst this;exact acH _
 |succ j ih=>
  intro h hj
  by_cases e:i=j+1
  ·subst e;exact acH _
  ·exact ac7 (ih (by omega) (by omega)) (R.Dr (by omega))
theorem fZ.nW(R:fZ C rec f nt ops pl es hs out Ns){i:Nat}{o:aL}{d:bH}(h:pl[i]?=some (o,d))(hb:d.kind≠.gU)(hw:dF d=false) :
 ∃X,hs (i+1)={hs i with bl:=(hs i).bl++X}∧X.length=d.xO∧Ns (i+1)=Ns i:=by
 have hN:Ns (i+1)=Ns i:=by
  rw[R.tr.nx i o d h]
  unfold fS
  split
  ·rename_i hk;exact absurd hk hb
  ·rfl
 rcases R.tr.st i o d h with⟨_,h1⟩|⟨_,h2,_,h1⟩
 ·unfold b9 at h1
  split at h1
  ·rename_i hk
   obtain⟨g1,g2⟩:=R.nm.HM i o d h hk
   exact⟨[],by rw[(od g1 h1).1];simp,by simp[g2],hN⟩
  ·rename_i hk;exact absurd hk hb
  ·simp only[acu]at h1
   obtain⟨r,h2,h3⟩:=h1
   replace h3:=aj h3
   obtain⟨h4,h5⟩:=h3
   simp only[acN,acY]at h5
   simp only[acw,adK]at h4
   exact⟨_,h5.2.symm,by simp[h4.1],hN⟩
  ·rename_i rd hk
   rw[dw.2 ⟨rd,hk⟩]at hw;cases hw
 ·refine⟨[],by rw[h1];simp,?_,hN⟩
  unfold iZ at h2
  split at h2
  ·have:=adK.1 h2;simp[this]
  ·cases h2
  ·rename_i hk hk2
   have:d.kind=.pure:=by cases hd:d.kind<;>simp_all
   simp[(R.nm.HM i o d h this).2]
theorem fZ.jh(R:fZ C rec f nt ops pl es hs out Ns){i:Nat}{o:aL}{d:bH}(h:pl[i]?=some (o,d))(hb:d.kind≠.gU):aT hs (i+1)=aT hs i+d.xO∧Ns (i+1)=Ns i:=by
 cases hw:dF d with
 |true=>
  obtain⟨rd,hk⟩:=dw.1 hw
  obtain⟨_,_,_,_,_,_,_,_,_,_,hN⟩:=R.wr h hk
  have:=R.nm.YB i (acm.1 h).1 (by rw[cL h];exact hw)
  rw[cL h]at this
  exact⟨by rw[R.zi h hw,this,ad9],hN⟩
 |false=>
  obtain⟨X,h1,h2,h3⟩:=R.nW h hb hw
  exact⟨by unfold aT;rw[h1];simp[h2],h3⟩
theorem fZ.j6(R:fZ C rec f nt ops pl es hs out Ns){j:Nat}:∀(m:Nat),(∀k,j≤k→k<j+m→(dr pl k).kind≠.gU)→(∀k,j≤k→k<j+m→dF (dr pl k)=false)→j+m≤pl.length→
 ∃X,hs (j+m)={hs j with bl:=(hs j).bl++X}
 |0,_,_,_=>⟨[],by simp⟩
 |m+1,hb,hw,hl=>by
  obtain⟨X,h1⟩:=fZ.j6 R m (fun k hk hk'=>hb k hk (by omega)) (fun k hk hk'=>hw k hk (by omega)) (by omega)
  obtain⟨o,d,h⟩:=ik (pl:=pl) (i:=j+m) (by omega)
  obtain⟨Y,h3,_,h4⟩:=R.nW h (by have:=hb (j+m) (by omega) (by omega);rwa [cL h]at this) (by have:=hw (j+m) (by omega) (by omega);rwa [cL h]at this)
  refine⟨X++Y,?_⟩
  rw[←acD,h3,h1];simp
theorem fZ.IF(R:fZ C rec f nt ops pl es hs out Ns){j k:Nat}(hjk:j≤k)(hk:k≤pl.length)(hb:∀m,j≤m→m<k→(dr pl m).kind≠.gU)(hw:∀m,j≤m→m<k→dF (dr pl m)=false) :
 ∃X,hs k={hs j with bl:=(hs j).bl++X}:=by
 have:=R.j6 (j:=j) (k-j) (fun m h1 h2=>hb m h1 (by omega)) (fun m h1 h2=>hw m h1 (by omega)) (by omega)
 rwa [show j+(k-j)=k by omega]at this
theorem fZ.Tn(R:fZ C rec f nt ops pl es hs out Ns){j k:Nat}(hjk:j≤k)(hk:k≤pl.length)(hb:∀m,j≤m→m<k→(dr pl m).kind≠.gU):Ns k=Ns j:=by
 have key:∀m,j+m≤k→Ns (j+m)=Ns j:=by
  intro m
  induction m with
  |zero=>intro _;rfl
  |succ m ih=>
   intro hm
   obtain⟨o,d,h⟩:=ik (pl:=pl) (i:=j+m) (by omega)
   rw[←acD,(R.jh h (by have:=hb (j+m) (by omega) (by omega);rwa [cL h]at this)).2]
   exact ih (by omega)
 have:=key (k-j) (by omega)
 rwa [show j+(k-j)=k by omega]at this
theorem fZ.kT(R:fZ C rec f nt ops pl es hs out Ns){j:Nat}(hj:(dr pl j).kT=0):∀(m:Nat),(∀k,j≤k→k<j+m→(dr pl k).kind≠.gU)→j+m<pl.length→
 (hs (j+m)).bl.length=(hs j).bl.length+(dr pl (j+m)).kT
 |0,_,_=>by simp[hj]
 |m+1,hb,hl=>by
  have h1:=fZ.kT R hj m (fun k hk hk'=>hb k hk (by omega)) (by omega)
  obtain⟨o,d,h⟩:=ik (pl:=pl) (i:=j+m) (by omega)
  have hnb:=hb (j+m) (by omega) (by omega)
  have h3:(hs (j+m+1)).bl.length=(hs (j+m)).bl.length+d.xO:=(R.jh h (by rwa [cL h]at hnb)).1
  have h5:=R.nm.Im (j+m) (by omega)
  have h6:rZ (dr pl (j+m))=false:=by
   cases hq:rZ (dr pl (j+m))with
   |false=>rfl
   |true=>exact absurd (js.1 hq) hnb
  rw[h6]at h5
  simp only[acJ,cL h]at h5
  rw[cL h]at h1
  rw[←acD,h3,h5]
  omega
theorem fZ.ind{P:Nat→Prop}{i k:Nat}(hik:i≤k)(h0:P i)(hs:∀m,i≤m→m<k→P m→P (m+1)):P k:=by
 have key:∀m,i+m≤k→P (i+m):=by
  intro m
  induction m with
  |zero=>intro _;exact h0
  |succ m ih=>intro hm;exact hs (i+m) (by omega) (by omega) (ih (by omega))
 have:=key (k-i) (by omega)
 rwa [show i+(k-i)=k by omega]at this
theorem fZ.shape(R:fZ C rec f nt ops pl es hs out Ns){i k:Nat}(hik:i≤k)(hk:k≤pl.length)(hb:∀m,i≤m→m<k→(dr pl m).kind≠.gU):cp (hs i).bl ((hs k).bl.take (aT hs i)):=by
 refine fZ.ind (P:=fun k=>cp (hs i).bl ((hs k).bl.take (aT hs i))) hik (by rw[ac1 (acH _)];exact .refl _) (fun m h1 h2 ih=>?_)
 obtain⟨o,d,h⟩:=ik (pl:=pl) (i:=m) (by omega)
 have hle:aT hs i≤aT hs m:=R.mono h1 (by omega)
 cases hw:dF d with
 |false=>
  obtain⟨X,h3,_⟩:=R.nW h (by have:=hb m h1 h2;rwa [cL h]at this) hw
  rw[h3]
  simp only
  rw[aeC hle];exact ih
 |true=>
  obtain⟨rd,hkd⟩:=dw.1 hw
  obtain⟨n,a,x,_,_,_,_,_,h4,_⟩:=R.wr h hkd
  obtain⟨b,v,ii,oo,xs,y0,y1,_,_,_,h5,_,_,h6,h7,_⟩:=gI h4
  rw[(jk h7).2.2.1]
  exact ih.trans ((cp.set h5 h6).take _)
theorem fZ.Nf(R:fZ C rec f nt ops pl es hs out Ns){i k b:Nat}(hik:i≤k)(hk:k≤pl.length)(hb:∀m,i≤m→m<k→(dr pl m).kind≠.gU)(hbl:b<aT hs i)
 (ht:∀m o d n a x,i≤m→m<k→pl[m]?=some (o,d)→dF d=true→o.op=.store n a x→∀v j q,ev (es m) a≠.ptr b v j q):(hs k).bl[b]?=(hs i).bl[b]?:=by
 refine fZ.ind (P:=fun k=>(hs k).bl[b]?=(hs i).bl[b]?) hik rfl (fun m h1 h2 ih=>?_)
 obtain⟨o,d,h⟩:=ik (pl:=pl) (i:=m) (by omega)
 have hle:aT hs i≤aT hs m:=R.mono h1 (by omega)
 cases hw:dF d with
 |false=>
  obtain⟨X,h3,_⟩:=R.nW h (by have:=hb m h1 h2;rwa [cL h]at this) hw
  rw[h3]
  simp only
  rw[acF (adJ hbl hle)];exact ih
 |true=>
  obtain⟨rd,hkd⟩:=dw.1 hw
  obtain⟨n,a,x,ed,_,_,_,_,h4,_⟩:=R.wr h hkd
  obtain⟨b',v,ii,oo,xs,y0,y1,hp,_,_,h5,_,_,h6,h7,_⟩:=gI h4
  have hne:b'≠b:=fun e=>ht m o d n a x h1 h2 h hw ed v ii oo (by rw[hp,e])
  rw[(jk h7).2.2.1,acv hne];exact ih
theorem fZ.S5(R:fZ C rec f nt ops pl es hs out Ns){i k u:Nat}(hik:i≤k)(hk:k≤pl.length)(hu:∀m,i≤m→m<k→∀p,pl[m]?=some p→p.1.dst≠some u):get (es k) u=get (es i) u:=by
 refine fZ.ind (P:=fun k=>get (es k) u=get (es i) u) hik rfl (fun m h1 h2 ih=>?_)
 obtain⟨o,d,h⟩:=ik (pl:=pl) (i:=m) (by omega)
 rw[R.tr.env m o d h]
 cases hd:o.dst with
 |none=>exact ih
 |some t=>
  have:t≠u:=fun e=>hu m h1 h2 _ h (by rw[hd,e])
  simp only[cf,get]
  have:(u==t)=false:=by simpa using(Ne.symm this)
  rw[this];exact ih
theorem fZ.NG(R:fZ C rec f nt ops pl es hs out Ns){i k:Nat}{ag:Bool}{z:Nat}{p s:SV}(hik:i≤k)(hk:k≤pl.length)(hb:∀m,i≤m→m<k→(dr pl m).kind≠.gU)(h:dg ag z (hs i) p=some s)
 (ht:∀m o d n a x,i≤m→m<k→pl[m]?=some (o,d)→dF d=true→o.op=.store n a x→wM p (bif ag then z else 1) (ev (es m) a) n=true):dg ag z (hs k) p=some s:=by
 refine fZ.ind (P:=fun k=>dg ag z (hs k) p=some s) hik h (fun m h1 h2 ih=>?_)
 obtain⟨o,d,hm⟩:=ik (pl:=pl) (i:=m) (by omega)
 cases hw:dF d with
 |false=>
  obtain⟨X,h3,_⟩:=R.nW hm (by have:=hb m h1 h2;rwa [cL hm]at this) hw
  refine nf ih (fun b v ii oo hp=>?_)
  subst hp
  obtain⟨x,hx,_⟩:=sK ih
  rw[h3]
  simp only
  rw[acF (acm.1 hx).1]
 |true=>
  obtain⟨rd,hkd⟩:=dw.1 hw
  obtain⟨n,a,x,ed,_,_,_,_,h4,_⟩:=R.wr hm hkd
  exact Be ih h4 (ht m o d n a x h1 h2 hm hw ed)
def W(pl:List (aL×bH))(e0:Env)(out:Nat→SV)(ln:Nat→Nat)(S:Nat→Prop)(t:Nat)(s:SV)(m:Nat):Prop:=
 (∃j o d,pl[j]?=some (o,d)∧S j∧o.dst=some t∧(∀j' o' d',j<j'→pl[j']?=some (o',d')→S j'→o'.dst≠some t)∧s=out j∧m=ln (j+1))∨
 ((∀(j:Nat) o d,pl[j]?=some (o,d)→S j→o.dst≠some t)∧s=get e0 t∧m=ln 0)
theorem fZ.yV(R:fZ C rec f nt ops pl es hs out Ns)(t:Nat):∀i,i≤pl.length→∃m,W pl (es 0) out (aT hs) (· <i) t (get (es i) t) m∧m≤aT hs i
 |0,_=>⟨aT hs 0,.inr ⟨fun j o d _ h=>by simp at h,rfl,rfl⟩,acH _⟩
 |i+1,hi=>by
  obtain⟨m,h1,h2⟩:=fZ.yV R t i (by omega)
  obtain⟨o,d,h⟩:=ik (pl:=pl) (i:=i) (by omega)
  rw[R.tr.env i o d h]
  have hm:=R.Dr (i:=i) (by omega)
  cases hd:o.dst with
  |none=>
   refine⟨m,?_,ac7 h2 hm⟩
   simp only[cf]
   rcases h1 with⟨j,o',d',g1,g2,g3,g4,g5,g6⟩|⟨g1,g2,g3⟩
   ·refine .inl ⟨j,o',d',g1,Nat.lt_succ_of_lt g2,g3,fun j' o2 d2 k1 k2 k3=>?_,g5,g6⟩
    by_cases e:j'=i
    ·subst e;rw[h]at k2;cases k2;rw[hd];simp
    ·exact g4 j' o2 d2 k1 k2 (by omega)
   ·refine .inr ⟨fun j o2 d2 k2 k3=>?_,g2,g3⟩
    by_cases e:j=i
    ·subst e;rw[h]at k2;cases k2;rw[hd];simp
    ·exact g1 j o2 d2 k2 (by omega)
  |some u=>
   simp only[cf,get]
   cases hu:(t==u)with
   |true=>
    have:t=u:=by simpa using hu
    subst this
    refine⟨aT hs (i+1),.inl ⟨i,o,d,h,Nat.lt_succ_self i,hd,fun j' o2 d2 k1 k2 k3=>?_,rfl,rfl⟩,acH _⟩
    exact absurd k3 (by omega)
   |false=>
    have hne:t≠u:=by simpa using hu
    refine⟨m,?_,ac7 h2 hm⟩
    simp only[acJ]
    rcases h1 with⟨j,o',d',g1,g2,g3,g4,g5,g6⟩|⟨g1,g2,g3⟩
    ·refine .inl ⟨j,o',d',g1,Nat.lt_succ_of_lt g2,g3,fun j' o2 d2 k1 k2 k3=>?_,g5,g6⟩
     by_cases e:j'=i
     ·subst e;rw[h]at k2;cases k2;rw[hd];simpa using Ne.symm hne
     ·exact g4 j' o2 d2 k1 k2 (by omega)
    ·refine .inr ⟨fun j o2 d2 k2 k3=>?_,g2,g3⟩
     by_cases e:j=i
     ·subst e;rw[h]at k2;cases k2;rw[hd];simpa using Ne.symm hne
     ·exact g1 j o2 d2 k2 (by omega)
open Classical in
noncomputable def Gh (H:ab) (vis:Nat→Prop):ab:={H with bl:=H.bl.mapIdx fun b x=>if vis b then x else .dead}
theorem iF{H:ab}{vis:Nat→Prop}:(Gh H vis).bl.length=H.bl.length:=by simp[Gh]
theorem lX{H:ab}{vis:Nat→Prop}{b:Nat}{x:aC}(h:(Gh H vis).bl[b]?=some x)(hx:x.live=true):vis b∧H.bl[b]?=some x:=by
 unfold Gh at h
 simp only[ae9,acq]at h
 obtain⟨y,h1,h2⟩:=h
 by_cases hv:vis b
 ·rw[if_pos hv]at h2;subst h2;exact⟨hv,h1⟩
 ·rw[if_neg hv]at h2;subst h2;cases hx
theorem iJ{H:ab}{vis:Nat→Prop}{b:Nat}{x:aC}(hv:vis b)(h:H.bl[b]?=some x):(Gh H vis).bl[b]?=some x:=by
 unfold Gh
 simp[h,hv]
theorem gF{ρ ρ':Map}(h:ρ.le ρ'){m n:Nat}(hmn:m≤n):(ρ.cut m).le (ρ'.cut n):=by
 intro b l hb
 unfold Map.cut at hb⊢
 split at hb
 ·rename_i hlt
  rw[if_pos (by omega)]
  exact h b l hb
 ·cases hb
theorem kL{ρ:Map}{N b:Nat}{l:Loc}(h:ρ.cut N b=some l):b<N∧ρ b=some l:=by
 unfold Map.cut at h
 split at h
 ·exact⟨by assumption,h⟩
 ·cases h
theorem ka{ρ:Map}{N b:Nat}(h:b<N):ρ.cut N b=ρ b:=by simp[Map.cut,h]
theorem HR.pad{ρ:Map}{F:Nat→Prop}{H H':ab}{w:World}(hr:HR C ρ F H w)(hb:∀(b:Nat) x,x.live=true→(H'.bl[b]?=some x↔H.bl[b]?=some x))(hl:H.bl.length≤H'.bl.length)(he:H'.bT=H.bT)(hro:H'.ro=H.ro) :
 HR C ρ F H' w∧Ext C ρ F H w ρ F H' w:=by
 have hown:∀b l,Own ρ H' b l→Own ρ H b l:=fun b l ⟨⟨x,h1,h2⟩,h3,h4⟩=>⟨⟨x,(hb b x h2).1 h1,h2⟩,h3,h4⟩
 refine⟨⟨fun b l h=>adJ (hr.jT b l h) hl,fun b x h1 h2=>hr.live b x ((hb b x h2).1 h1) h2,fun b b' l l' h h'=>hr.apart b b' l l' (hown b l h) (hown b' l' h'),fun b l h=>hr.own b l (hown b l h),hr.iM⟩,
  ⟨fun b l h=>⟨l,h,.inl rfl⟩,fun _ h=>h,fun _ h=>.inl h,fun _ _ _=>rfl,acH _,fun b l h=>.inr ⟨l,hown b l h,rfl⟩,hro,fun p hp=>he▸hp,fun N hN hc h0 b x l hbN hx hxl hlx=>?_,fun B q h=>⟨q,h⟩,hl,⟨rfl,rfl⟩⟩,fun b l h=>.inl ⟨l,h⟩⟩
 have hx':=(hb b x hxl).1 hx
 by_cases hNl:N≤H.bl.length
 ·exact h0 hNl b x l hbN hx' hxl hlx
 ·obtain⟨l2,h2,h3⟩:=hr.live b x hx' hxl
  rw[hlx]at h2;cases h2
  exact h3.mono (fun _ _=>rfl) (fun _ h=>h) (fun b1 l1 h1=>⟨l1,by have:=hr.jT b1 l1 h1;rw[ka (by omega)];exact h1,.inl rfl⟩) (fun _=>rfl)
def jK(hs:Nat→ab)(S:Nat→Prop)(β γ b:Nat):Prop:=b<aT hs β∨∃k,S k∧β≤k∧k<γ∧aT hs k≤b∧b<aT hs (k+1)
structure J(C:Ctx)(nt:Nat)(ops:Array Oper)(pl:List (aL×bH))(es:Nat→Env)(hs:Nat→ab)(out:Nat→SV)(Ns:Nat→Nat)(B:kp)(S:Nat→Prop)(a:Act)(w:World)(ρ:Map)(F:Nat→Prop)(β μ γ:Nat):Prop where
 closed:∀(k:Nat) o,S k→ops.toList[k]?=some o→∀e∈o.after,Region.binds .any e=true→S e.on
 le:β≤μ
 Fp:μ≤γ
 Dd:γ≤pl.length
 rP:∀j,β≤j→j<γ→(dr pl j).kind≠.gU
 No:γ=pl.length∨(dr pl γ).kind=.gU
 M9:μ=γ∨(dF (dr pl μ)=true∧¬S μ)
 xA:∀j,β≤j→j<μ→dF (dr pl j)=true→S j
 pre:∀j,j<β→(dr pl j).kind≠.pure→S j
 post:∀j,β≤j→S j→(dr pl j).kind≠.gU
 I7:Ns β=aT hs β
 AM:β<pl.length→(dr pl β).kT=0
 Tm:B.H.bl.length≤aT hs β
 hr:HR C ρ F (Gh (hs μ) (jK hs S β μ)) w
 jT:∀b l,ρ b=some l→jK hs S β μ b
 XY:∀(b:Nat) x l,b<aT hs β→(hs μ).bl[b]?=some x→x.live=true→ρ b=some l→BR C w F (ρ.cut (aT hs β)) l x
 T8:∀(k b:Nat) x l,S k→β≤k→k<μ→aT hs k≤b→b<aT hs (k+1)→(hs μ).bl[b]?=some x→x.live=true→ρ b=some l→BR C w F (ρ.cut (aT hs (k+1))) l x
 ext:Ext C B.ρ B.F B.H B.w ρ F (Gh (hs μ) (jK hs S β μ)) w
 fR:∀t s m,W pl (es 0) out (aT hs) S t s m→VR w F (ρ.cut m) s (a.tmps.getD t undef)
 sz:nt≤a.tmps.size
 R8:Marks ρ F (Gh (hs μ) (jK hs S β μ)) w B.lo a.defers
variable{B:kp}{S:Nat→Prop}{a:Act}{w w':World}{ρ:Map}{F:Nat→Prop}{β μ γ:Nat}
theorem J.before(R:fZ C rec f nt ops pl es hs out Ns)(j:J C nt ops pl es hs out Ns B S a w ρ F β μ γ){i:Nat}(hcl:∀o,ops.toList[i]?=some o→∀e∈o.after,Region.binds .any e=true→S e.on) :
 ∀k,((bK ops.toList).getD i 0).testBit k=true→S k:=fun k h=>jS (fun k o hk=>j.closed k o hk) i k hcl h
theorem J.behind(R:fZ C rec f nt ops pl es hs out Ns)(j:J C nt ops pl es hs out Ns B S a w ρ F β μ γ){i:Nat}(hi:¬S i):∀k,S k→¬((bK ops.toList).getD k 0).testBit i=true:=fun k hk h=>
 hi (jS (fun k o hk=>j.closed k o hk) k i (fun o ho=>j.closed k o hk ho) h)
theorem J.LU(R:fZ C rec f nt ops pl es hs out Ns)(j:J C nt ops pl es hs out Ns B S a w ρ F β μ γ){i:Nat}{o:aL}{d:bH}(hi:pl[i]?=some (o,d))(hS:¬S i)
 (hcl:∀o,ops.toList[i]?=some o→∀e∈o.after,Region.binds .any e=true→S e.on):∀t∈bW o,VR w F (ρ.cut (aT hs i)) (get (es i) t) (a.tmps.getD t undef):=by
 intro t ht
 have hlt:=(acm.1 hi).1
 obtain⟨m,h1,h2⟩:=R.yV t i (by omega)
 have bf:=j.before R hcl
 have bh:=j.behind R hS
 refine(j.fR t _ m ?_).mono (fun _ _=>rfl) (fun _ h=>h) (gF (Map.le_refl _) h2)
 rcases h1 with⟨k,o',d',g1,g2,g3,g4,g5,g6⟩|⟨g1,g2,g3⟩
 ·refine .inl ⟨k,o',d',g1,?_,g3,fun k' o2 d2 k1 k2 k3 hd=>?_,g5,g6⟩
  ·rcases R.nm.tmp k i _ _ g2 g1 hi with h|⟨h,_⟩
   ·exact bf k h
   ·exact absurd ht (h t g3).1
  ·by_cases e:k'<i
   ·exact g4 k' o2 d2 k1 k2 e hd
   ·have:k'≠i:=fun e=>hS (e▸k3)
    rcases R.nm.tmp i k' _ _ (by omega) hi k2 with h|⟨_,h⟩
    ·exact bh k' k3 h
    ·exact h t hd ht
 ·refine .inr ⟨fun k o2 d2 k2 k3 hd=>?_,g2,g3⟩
  by_cases e:k<i
  ·exact g1 k o2 d2 k2 e hd
  ·have:k≠i:=fun e=>hS (e▸k3)
   rcases R.nm.tmp i k _ _ (by omega) hi k2 with h|⟨_,h⟩
   ·exact bh k k3 h
   ·exact h t hd ht
theorem J.Fb(R:fZ C rec f nt ops pl es hs out Ns)(j:J C nt ops pl es hs out Ns B S a w ρ F β μ γ){i:Nat}{o:aL}{d:bH}(hi:pl[i]?=some (o,d))(hS:¬S i){ρ':Map}{F':Nat→Prop}{val:Value}
 (hk:dO F w w') (hF:∀B,F B→F' B) (hle:ρ.le ρ') (hv:VR w' F' (ρ'.cut (aT hs (i+1))) (out i) val) (hdst:∀d,o.dst=some d→d<nt) :
 ∀t s m,W pl (es 0) out (aT hs) (fun k=>S k∨k=i) t s m→VR w' F' (ρ'.cut m) s ((a.put o.dst val).tmps.getD t undef):=by
 intro t s m h
 have bh:=j.behind R hS
 by_cases hd:o.dst=some t
 ·have:s=out i∧m=aT hs (i+1):=by
   rcases h with⟨k,o',d',g1,g2,g3,g4,g5,g6⟩|⟨g1,g2,g3⟩
   ·rcases g2 with g2|g2
    ·exfalso
     rcases ad7 k i with hk'|hk'|hk'
     ·exact g4 i o d hk' hi (.inr rfl) hd
     ·exact hS (hk'▸g2)
     ·rcases R.nm.tmp i k _ _ hk' hi g1 with h|⟨h,_⟩
      ·exact bh k g2 h
      ·exact(h t hd).2 g3
    ·subst g2;exact⟨g5,g6⟩
   ·exact absurd hd (g1 i o d hi (.inr rfl))
  obtain⟨rfl,rfl⟩:=this
  have hlt:t<a.tmps.size:=adJ (hdst t hd) j.sz
  rw[hd]
  simpa[Act.put,hlt]using hv
 ·have hput:(a.put o.dst val).tmps.getD t undef=a.tmps.getD t undef:=by
   cases hq:o.dst with
   |none=>rfl
   |some u=>
    have:u≠t:=fun e=>hd (by rw[hq,e])
    simp only[Act.put,adN,adv this]
  rw[hput]
  refine(j.fR t s m ?_).mono hk hF (gF hle (acH _))
  rcases h with⟨k,o',d',g1,g2,g3,g4,g5,g6⟩|⟨g1,g2,g3⟩
  ·rcases g2 with g2|g2
   ·exact .inl ⟨k,o',d',g1,g2,g3,fun k' o2 d2 k1 k2 k3=>g4 k' o2 d2 k1 k2 (.inl k3),g5,g6⟩
   ·subst g2;rw[hi]at g1;cases g1;exact absurd g3 hd
  ·exact .inr ⟨fun k o2 d2 k2 k3=>g1 k o2 d2 k2 (.inl k3),g2,g3⟩
theorem J.sub(R:fZ C rec f nt ops pl es hs out Ns)(j:J C nt ops pl es hs out Ns B S a w ρ F β μ γ){i:Nat}(hi:i≤pl.length){V:ab}(hV:V.bl.length=aT hs i)
 (hl:∀(b:Nat) x,V.bl[b]?=some x→x.live=true→β≤i∧i≤μ∧jK hs S β μ b∧(hs μ).bl[b]?=some x):HR C (ρ.cut (aT hs i)) F V w:=by
 have hown:∀b l,Own (ρ.cut (aT hs i)) V b l→Own ρ (Gh (hs μ) (jK hs S β μ)) b l:=by
  intro b l ⟨⟨x,h1,h2⟩,h3,h4⟩
  obtain⟨_,_,g1,g2⟩:=hl b x h1 h2
  exact⟨⟨x,iJ g1 g2,h2⟩,(kL h3).2,h4⟩
 refine⟨fun b l h=>by rw[hV];exact(kL h).1,fun b x hb hx=>?_,fun b b' l l' h h'=>j.hr.apart b b' l l' (hown b l h) (hown b' l' h'),fun b l h=>j.hr.own b l (hown b l h),j.hr.iM⟩
 obtain⟨g0,g3,g1,g2⟩:=hl b x hb hx
 obtain⟨l,h1,_⟩:=j.hr.live b x (iJ g1 g2) hx
 have hbN:b<aT hs i:=by rw[←hV];exact(acm.1 hb).1
 refine⟨l,by rw[ka hbN];exact h1,?_⟩
 rcases g1 with g1|⟨k,k1,k2,k3,k4,k5⟩
 ·exact(j.XY b x l g1 g2 hx h1).mono (fun _ _=>rfl) (fun _ h=>h) (gF (Map.le_refl _) (R.mono g0 hi)) (fun _=>rfl)
 ·have hki:k<i:=by
   rcases acz k i with h|h
   ·exact h
   ·have h1:=R.mono h (by have:=j.Dd;have:=j.Fp;omega)
    exact absurd hbN (by show ¬b<(hs i).bl.length;have:(hs k).bl.length≤b:=k4;omega)
  exact(j.T8 k b x l k1 k2 k3 k4 k5 g2 hx h1).mono (fun _ _=>rfl) (fun _ h=>h) (gF (Map.le_refl _) (R.mono hki hi)) (fun _=>rfl)
theorem J.quiet(R:fZ C rec f nt ops pl es hs out Ns)(j:J C nt ops pl es hs out Ns B S a w ρ F β μ γ){i:Nat}{o:aL}{d:bH}(hi:pl[i]?=some (o,d))(hS:¬S i)
 (hcl:∀o,ops.toList[i]?=some o→∀e∈o.after,Region.binds .any e=true→S e.on) (hnb:d.kind≠.gU) (hnw:dF d=false) {V V':ab} (hV:V.bl.length=aT hs i) (hVro:V.ro=aT hs i)
 (hV':V'.bl.length=aT hs (i+1)) (hesc:V'.bT=[]) (bJ:∀b,aT hs i≤b→b<aT hs (i+1)→V'.bl[b]?=(hs μ).bl[b]?)
 (hcase:aT hs (i+1)=aT hs i∨(β≤i∧i<μ)) {val:Value} (hd:dJ C (ρ.cut (aT hs i)) F V w (out i) V' val w') (hdst:∀d,o.dst=some d→d<nt) :
 ∃ρ' F',J C nt ops pl es hs out Ns B (fun k=>S k∨k=i) (a.put o.dst val) w' ρ' F' β μ γ:=by
 obtain⟨ρ2,F2,d1,d2,d3⟩:=hd
 have hlt:=(acm.1 hi).1
 have m1:aT hs i≤aT hs (i+1):=R.Dr hlt
 have hfr:∀Bk,Bk<w.heap.size→w'.heap[Bk]?=w.heap[Bk]?:=fun Bk hB=>d3.frame Bk hB (fun b l ho hro=>by
  have:=(kL ho.2.1).1
  rw[hVro]at hro;omega)
 have hk:dO F w w':=fun Bk hB=>hfr Bk (j.hr.iM Bk hB)
 have hFF:∀B,F B→F2 B:=d3.iM
 have e1:∀b,b<aT hs i→ρ2 b=ρ b:=by
  intro b hb
  cases h:ρ b with
  |some l=>
   obtain⟨l',h1,h2⟩:=d3.map b l (by rw[ka hb];exact h)
   rcases h2 with rfl|⟨h2,_⟩
   ·exact h1
   ·rw[hVro]at h2;omega
  |none=>
   cases h':ρ2 b with
   |none=>rfl
   |some l'=>
    rcases d3.nd b l' h' with⟨l,h1⟩|h1
    ·rw[ka hb,h]at h1;cases h1
    ·rw[hV]at h1;omega
 have e2:∀b l,ρ2 b=some l→b<aT hs (i+1):=fun b l h=>by rw[←hV'];exact d2.jT b l h
 have hout:∀b,jK hs S β μ b→¬(aT hs i≤b∧b<aT hs (i+1)):=by
  rintro b hv ⟨h1,h2⟩
  rcases hcase with hc|⟨hc1,hc2⟩
  ·omega
  ·rcases hv with h|⟨k,k1,k2,k3,k4,k5⟩
   ·have:aT hs β≤aT hs i:=R.mono hc1 (by omega)
    omega
   ·rcases ad7 k i with h|h|h
    ·have:aT hs (k+1)≤aT hs i:=R.mono h (by omega)
     omega
    ·exact hS (h▸k1)
    ·have:aT hs (i+1)≤aT hs k:=R.mono h (by have:=j.Dd;have:=j.Fp;omega)
     omega
 let ρ':Map:=fun b=>if aT hs i≤b∧b<aT hs (i+1)then ρ2 b else ρ b
 have r1:∀b,aT hs i≤b→b<aT hs (i+1)→ρ' b=ρ2 b:=fun b h h'=>if_pos ⟨h,h'⟩
 have r2:∀b,¬(aT hs i≤b∧b<aT hs (i+1))→ρ' b=ρ b:=fun b h=>if_neg h
 have le1:ρ.le ρ':=fun b l h=>⟨l,by rw[r2 b (hout b (j.jT b l h))];exact h,.inl rfl⟩
 have le2:ρ2.le (ρ'.cut (aT hs (i+1))):=fun b l h=>by
  have hb:=e2 b l h
  refine⟨l,?_,.inl rfl⟩
  rw[ka hb]
  by_cases hb':aT hs i≤b
  ·rw[r1 b hb' hb];exact h
  ·rw[r2 b (fun h=>hb' h.1),←e1 b (by omega)];exact h
 have vis:∀b,jK hs (fun k=>S k∨k=i) β μ b→jK hs S β μ b∨((aT hs i≤b∧b<aT hs (i+1))∧β≤i∧i<μ):=by
  intro b h
  rcases h with h|⟨k,k1,k2,k3,k4,k5⟩
  ·exact .inl (.inl h)
  ·rcases k1 with k1|rfl
   ·exact .inl (.inr ⟨k,k1,k2,k3,k4,k5⟩)
   ·exact .inr ⟨⟨k4,k5⟩,k2,k3⟩
 have vis1:∀b,jK hs S β μ b→jK hs (fun k=>S k∨k=i) β μ b:=by
  intro b h
  rcases h with h|⟨k,k1,k2,k3,k4,k5⟩
  ·exact .inl h
  ·exact .inr ⟨k,.inl k1,k2,k3,k4,k5⟩
 have newlive:∀(b:Nat) x l,aT hs i≤b→b<aT hs (i+1)→(hs μ).bl[b]?=some x→x.live=true→ρ2 b=some l→Own ρ2 V' b l∨l.bC=true:=by
  intro b x l h1 h2 h3 h4 h5
  cases hv:l.bC with
  |true=>exact .inr rfl
  |false=>exact .inl ⟨⟨x,by rw[bJ b h1 h2];exact h3,h4⟩,h5,hv⟩
 have newblk:∀b l,Own ρ2 V' b l→aT hs i≤b→w.heap.size≤l.cm:=by
  intro b l ho hb
  rcases d3.old b l ho with h|⟨l0,h,_⟩
  ·exact h
  ·have:=(kL h.2.1).1;omega
 have own':∀b l,Own ρ' (Gh (hs μ) (jK hs (fun k=>S k∨k=i) β μ)) b l→Own ρ (Gh (hs μ) (jK hs S β μ)) b l∨(Own ρ2 V' b l∧aT hs i≤b):=by
  intro b l ⟨⟨x,h1,h2⟩,h3,h4⟩
  obtain⟨g1,g2⟩:=lX h1 h2
  rcases vis b g1 with g1|⟨⟨g3,g4⟩,_⟩
  ·rw[r2 b (hout b g1)]at h3
   exact .inl ⟨⟨x,iJ g1 g2,h2⟩,h3,h4⟩
  ·rw[r1 b g3 g4]at h3
   exact .inr ⟨⟨⟨x,by rw[bJ b g3 g4];exact g2,h2⟩,h3,h4⟩,g3⟩
 have oldsame:∀b l,Own ρ (Gh (hs μ) (jK hs S β μ)) b l→w'.heap[l.cm]?=w.heap[l.cm]?:=fun b l ho=>hfr _ (j.hr.own b l ho).2
 have hr':HR C ρ' F2 (Gh (hs μ) (jK hs (fun k=>S k∨k=i) β μ)) w':=by
  refine⟨fun b l h=>?_,fun b x hb hx=>?_,fun b b' l l' h h' he=>?_,fun b l ho=>?_,d2.iM⟩
  ·rw[iF]
   by_cases hb:aT hs i≤b∧b<aT hs (i+1)
   ·rcases hcase with hc|⟨hc1,hc2⟩
    ·omega
    ·have:aT hs (i+1)≤aT hs μ:=R.mono hc2 (ac7 j.Fp j.Dd)
     exact adJ hb.2 this
   ·rw[r2 b hb]at h
    have:=j.hr.jT b l h
    rwa [iF]at this
  ·obtain⟨g1,g2⟩:=lX hb hx
   rcases vis b g1 with g1|⟨⟨g3,g4⟩,_⟩
   ·obtain⟨l,h1,h2⟩:=j.hr.live b x (iJ g1 g2) hx
    exact⟨l,by rw[r2 b (hout b g1)];exact h1,h2.mono hk hFF le1 (fun hv=>oldsame b l ⟨⟨x,iJ g1 g2,hx⟩,h1,hv⟩)⟩
   ·obtain⟨l,h1,h2⟩:=d2.live b x (by rw[bJ b g3 g4];exact g2) hx
    exact⟨l,by rw[r1 b g3 g4];exact h1,h2.mono (fun _ _=>rfl) (fun _ h=>h) (Map.le_trans le2 (Map.uv _ _)) (fun _=>rfl)⟩
  ·rcases own' b l h with o1|⟨o1,p1⟩<;>rcases own' b' l' h' with o2|⟨o2,p2⟩
   ·exact j.hr.apart b b' l l' o1 o2 he
   ·have:=(j.hr.own b l o1).2
    have:=newblk b' l' o2 p2
    omega
   ·have:=(j.hr.own b' l' o2).2
    have:=newblk b l o1 p1
    omega
   ·exact d2.apart b b' l l' o1 o2 he
  ·rcases own' b l ho with o1|⟨o1,p1⟩
   ·have h1:=j.hr.own b l o1
    refine⟨fun hF=>?_,adJ h1.2 d3.size⟩
    rcases d3.new _ hF with h|h|⟨b0,l0,h2,h3,_⟩
    ·exact h1.1 h
    ·omega
    ·have:=(kL h2.2.1).1
     rw[hVro]at h3;omega
   ·exact d2.own b l o1
 have ext':Ext0 C ρ F (Gh (hs μ) (jK hs S β μ)) w ρ' F2 (Gh (hs μ) (jK hs (fun k=>S k∨k=i) β μ)) w':=by
  refine⟨fun b l h=>⟨l,by rw[r2 b (hout b (j.jT b l h))];exact h,.inl rfl⟩,hFF,fun Bk hB=>?_,fun Bk hB _=>hfr Bk hB,d3.size,fun b l ho=>?_,rfl,fun _ h=>h,fun N hN hc h0 b x l hbN hx hxl hl=>?_,d3.lp,by rw[iF,iF];exact acH _,d3.out⟩
  ·rcases d3.new Bk hB with h|h|⟨b0,l0,h2,h3,_⟩
   ·exact .inl h
   ·exact .inr (.inl h)
   ·have:=(kL h2.2.1).1
    rw[hVro]at h3;omega
  ·rcases own' b l ho with o1|⟨o1,p1⟩
   ·exact .inr ⟨l,o1,rfl⟩
   ·exact .inl (newblk b l o1 p1)
  ·obtain⟨g1,g2⟩:=lX hx hxl
   rcases vis b g1 with g1|⟨⟨g3,g4⟩,_⟩
   ·rw[r2 b (hout b g1)]at hl
    have:=h0 (by rw[iF]at hN ⊢;exact hN) b x l hbN (iJ g1 g2) hxl hl
    exact this.mono hk hFF (gF le1 (acH _)) (fun hv=>oldsame b l ⟨⟨x,iJ g1 g2,hxl⟩,hl,hv⟩)
   ·rw[r1 b g3 g4]at hl
    have hb':V'.bl[b]?=some x:=by rw[bJ b g3 g4];exact g2
    by_cases hNl:aT hs (i+1)≤N
    ·obtain⟨l2,h2,h3⟩:=d2.live b x hb' hxl
     rw[hl]at h2;cases h2
     exact h3.mono (fun _ _=>rfl) (fun _ h=>h) (Map.le_trans le2 (gF (Map.le_refl _) hNl)) (fun _=>rfl)
    ·have:=d3.inv N (by rw[hV'];omega) (by rw[hesc];intro p hp;cases hp) (fun h=>by rw[hV]at h;omega) b x l hbN hb' hxl hl
     refine this.mono (fun _ _=>rfl) (fun _ h=>h) (fun b1 l1 h1=>?_) (fun _=>rfl)
     obtain⟨q1,q2⟩:=kL h1
     obtain⟨l3,q3,q4⟩:=le2 b1 l1 q2
     refine⟨l3,?_,q4⟩
     rw[ka q1]
     exact(kL q3).2
 have ext2:Ext C B.ρ B.F B.H B.w ρ' F2 (Gh (hs μ) (jK hs (fun k=>S k∨k=i) β μ)) w':=by
  refine⟨j.ext.toExt0.trans ext',fun b l h=>?_⟩
  by_cases hb:aT hs i≤b∧b<aT hs (i+1)
  ·rcases hcase with hc|⟨hc1,hc2⟩
   ·omega
   ·have h1:aT hs β≤aT hs i:=R.mono hc1 (by omega)
    have:=j.Tm
    exact .inr (by omega)
  ·rw[r2 b hb]at h
   exact j.ext.nd b l h
 refine⟨ρ',F2,⟨?_,j.le,j.Fp,j.Dd,j.rP,j.No,j.M9.imp id (fun⟨q1,q2⟩=>⟨q1,fun h=>h.elim q2 (fun e=>by rw[e,cL hi,hnw]at q1;cases q1)⟩),fun k h1 h2 h3=>.inl (j.xA k h1 h2 h3),fun k hk1 hk2=>.inl (j.pre k hk1 hk2),?_,j.I7,j.AM,j.Tm,hr',?_,?_,?_,ext2,?_,?_,?_⟩⟩
 ·intro k o' hk' ho' e he hb
  rcases hk' with hk'|rfl
  ·exact .inl (j.closed k o' hk' ho' e he hb)
  ·exact .inl (hcl o' ho' e he hb)
 ·intro k hk1 hk2
  rcases hk2 with hk2|rfl
  ·exact j.post k hk1 hk2
  ·rw[cL hi];exact hnb
 ·intro b l h
  by_cases hb:aT hs i≤b∧b<aT hs (i+1)
  ·rcases hcase with hc|⟨hc1,hc2⟩
   ·omega
   ·exact .inr ⟨i,.inr rfl,hc1,hc2,hb.1,hb.2⟩
  ·rw[r2 b hb]at h
   exact vis1 b (j.jT b l h)
 ·intro b x l hb hbx hx hl
  rw[r2 b (hout b (.inl hb))]at hl
  exact(j.XY b x l hb hbx hx hl).mono hk hFF (gF le1 (acH _)) (fun hv=>oldsame b l ⟨⟨x,iJ (.inl hb) hbx,hx⟩,hl,hv⟩)
 ·intro k b x l k1 k2 k3 k4 k5 hbx hx hl
  by_cases hki:k=i
  ·subst hki
   rw[r1 b k4 k5]at hl
   obtain⟨l2,h2,h3⟩:=d2.live b x (by rw[bJ b k4 k5];exact hbx) hx
   rw[hl]at h2;cases h2
   exact h3.mono (fun _ _=>rfl) (fun _ h=>h) le2 (fun _=>rfl)
  ·have k1':S k:=k1.resolve_right hki
   have hv:jK hs S β μ b:=.inr ⟨k,k1',k2,k3,k4,k5⟩
   rw[r2 b (hout b hv)]at hl
   exact(j.T8 k b x l k1' k2 k3 k4 k5 hbx hx hl).mono hk hFF (gF le1 (acH _)) (fun hv'=>oldsame b l ⟨⟨x,iJ hv hbx,hx⟩,hl,hv'⟩)
 ·exact j.Fb R hi hS hk hFF le1 (d1.mono (fun _ _=>rfl) (fun _ h=>h) le2) hdst
 ·cases o.dst with
  |none=>exact j.sz
  |some u=>simpa[Act.put]using j.sz
 ·have:(a.put o.dst val).defers=a.defers:=by cases o.dst<;>rfl
  rw[this]
  exact j.R8.ext ext'
theorem J.full(R:fZ C rec f nt ops pl es hs out Ns)(j:J C nt ops pl es hs out Ns B S a w ρ F β μ γ)(hall:∀k,k<γ→(dr pl k).kind≠.pure→S k):μ=γ∧Gh (hs μ) (jK hs S β μ)=hs μ:=by
 have hμ:μ=γ:=by
  rcases j.M9 with h|⟨h1,h2⟩
  ·exact h
  ·rcases acz μ γ with h|h
   ·obtain⟨rd,hk⟩:=dw.1 h1
    exact absurd (hall μ h (by rw[hk];simp)) h2
   ·exact Nat.le_antisymm j.Fp h
 refine⟨hμ,?_⟩
 have hv:∀b,b<aT hs μ→jK hs S β μ b:=by
  intro b hb
  by_cases h0:b<aT hs β
  ·exact .inl h0
  ·have key:∀m,β+m≤μ→b<aT hs (β+m)→∃k,β≤k∧k<μ∧aT hs k≤b∧b<aT hs (k+1):=by
    intro m
    induction m with
    |zero=>intro _ h;exact absurd h h0
    |succ m ih=>
     intro h1 h2
     by_cases h3:b<aT hs (β+m)
     ·exact ih (by omega) h3
     ·exact⟨β+m,by omega,by omega,by omega,h2⟩
   obtain⟨k,k1,k2,k3,k4⟩:=key (μ-β) (by have:=j.le;omega) (by rwa [show β+(μ-β)=μ by have:=j.le;omega])
   refine .inr ⟨k,hall k (by omega) (fun hp=>?_),k1,k2,k3,k4⟩
   obtain⟨o,d,h⟩:=ik (pl:=pl) (i:=k) (by have:=j.Dd;omega)
   rw[cL h]at hp
   have hl:=(R.jh h (by rw[hp];simp)).1
   rw[(R.nm.HM k o d h hp).2]at hl
   omega
 have:(Gh (hs μ) (jK hs S β μ)).bl=(hs μ).bl:=by
  apply aen
  intro b
  cases hb:(hs μ).bl[b]? with
  |none=>
   rw[afb]at hb⊢
   rw[iF];exact hb
  |some x=>exact iJ (hv b (acm.1 hb).1) hb
 unfold Gh at this⊢
 simp only at this
 rw[this]
theorem wR(pl:List (aL×bH)):∀(m β:Nat),β+m=pl.length→∃γ,β≤γ∧γ≤pl.length∧(∀j,β≤j→j<γ→(dr pl j).kind≠.gU)∧(γ=pl.length∨(dr pl γ).kind=.gU)
 |0,β,h=>⟨β,acH _,by omega,fun j h1 h2=>by omega,.inl (by omega)⟩
 |m+1,β,h=>by
  by_cases hb:(dr pl β).kind=.gU
  ·exact⟨β,acH _,by omega,fun j h1 h2=>by omega,.inr hb⟩
  ·obtain⟨γ,h1,h2,h3,h4⟩:=wR pl m (β+1) (by omega)
   refine⟨γ,by omega,h2,fun j k1 k2=>?_,h4⟩
   by_cases e:j=β
   ·subst e;exact hb
   ·exact h3 j (by omega) k2
theorem vh(pl:List (aL×bH))(γ:Nat):∀(m β:Nat),β+m=γ→∃μ,β≤μ∧μ≤γ∧(∀j,β≤j→j<μ→dF (dr pl j)=false)∧(μ=γ∨dF (dr pl μ)=true)
 |0,β,h=>⟨β,acH _,by omega,fun j h1 h2=>by omega,.inl (by omega)⟩
 |m+1,β,h=>by
  cases hb:dF (dr pl β)with
  |true=>exact⟨β,acH _,by omega,fun j h1 h2=>by omega,.inr hb⟩
  |false=>
   obtain⟨μ,h1,h2,h3,h4⟩:=vh pl γ m (β+1) (by omega)
   refine⟨μ,by omega,h2,fun j k1 k2=>?_,h4⟩
   by_cases e:j=β
   ·subst e;exact hb
   ·exact h3 j (by omega) k2
theorem J.begin(R:fZ C rec f nt ops pl es hs out Ns){B:kp}{S:Nat→Prop}{a:Act}{w:World}{ρ:Map}{F:Nat→Prop}{β:Nat}(hβ:β≤pl.length)
 (closed:∀(k:Nat) o,S k→ops.toList[k]?=some o→∀e∈o.after,Region.binds .any e=true→S e.on) (pre:∀j,j<β→(dr pl j).kind≠.pure→S j) (post:∀j,β≤j→S j→(dr pl j).kind=.pure)
 (I7:Ns β=aT hs β) (AM:β<pl.length→(dr pl β).kT=0) (hr:HR C ρ F (hs β) w) (ext:Ext C B.ρ B.F B.H B.w ρ F (hs β) w) (fR:∀t s m,W pl (es 0) out (aT hs) S t s m→VR w F (ρ.cut m) s (a.tmps.getD t undef))
 (sz:nt≤a.tmps.size) (mk:Marks ρ F (hs β) w B.lo a.defers):∃μ γ,J C nt ops pl es hs out Ns B S a w ρ F β μ γ:=by
 obtain⟨γ,h1,h2,h3,h4⟩:=wR pl (pl.length-β) β (by omega)
 obtain⟨μ,n1,n2,n3,n4⟩:=vh pl γ (γ-β) β (by omega)
 obtain⟨X,g1⟩:=R.IF n1 (by omega) (fun j q1 q2=>h3 j q1 (by omega)) n3
 have novis:∀k,S k→β≤k→k<μ→aT hs (k+1)=aT hs k:=by
  intro k k1 k2 k3
  obtain⟨o,d,h⟩:=ik (pl:=pl) (i:=k) (by omega)
  have hp:=post k k2 k1
  rw[cL h]at hp
  have hl:=(R.jh h (by rw[hp];simp)).1
  rw[(R.nm.HM k o d h hp).2]at hl
  omega
 have hv:∀b,jK hs S β μ b→b<aT hs β:=by
  intro b h
  rcases h with h|⟨k,k1,k2,k3,k4,k5⟩
  ·exact h
  ·have:=novis k k1 k2 k3;omega
 have hb:∀(b:Nat) x,x.live=true→((Gh (hs μ) (jK hs S β μ)).bl[b]?=some x↔(hs β).bl[b]?=some x):=by
  intro b x hx
  constructor
  ·intro h
   obtain⟨q1,q2⟩:=lX h hx
   rw[g1]at q2
   rwa [acF (hv b q1)]at q2
  ·intro h
   have hlt:=(acm.1 h).1
   refine iJ (.inl hlt) ?_
   rw[g1]
   simp only
   rw[acF hlt];exact h
 have hlen:(hs β).bl.length≤(Gh (hs μ) (jK hs S β μ)).bl.length:=by rw[iF];exact R.mono n1 (by omega)
 obtain⟨p1,p2⟩:=hr.pad hb hlen (by simp[Gh,g1]) (by simp[Gh,g1])
 refine⟨μ,γ,⟨closed,n1,n2,h2,h3,h4,n4.imp id (fun hw=>⟨hw,fun hS=>by
  have:=post μ n1 hS
  obtain⟨rd,hk⟩:=dw.1 hw
  rw[hk]at this;cases this⟩),fun j k1 k2 k3=>(by rw[n3 j k1 k2]at k3;cases k3),pre,fun j k1 k2=>by rw[post j k1 k2];simp,I7,AM,ext.ln,p1,fun b l h=>.inl (hr.jT b l h),fun b x l hb' hbx hx hl=>?_,fun k b x l k1 k2 k3 k4 k5=>?_,ext.trans p2,fR,sz,mk.ext p2.toExt0⟩⟩
 ·rw[g1]at hbx
  simp only at hbx
  rw[acF hb']at hbx
  obtain⟨l2,q2,q3⟩:=hr.live b x hbx hx
  rw[hl]at q2;cases q2
  exact q3.mono (fun _ _=>rfl) (fun _ h=>h) (fun b1 l1 h=>⟨l1,by rw[ka (hr.jT b1 l1 h)];exact h,.inl rfl⟩) (fun _=>rfl)
 ·have:=novis k k1 k2 k3;omega
theorem J.gU(R:fZ C rec f nt ops pl es hs out Ns)(j:J C nt ops pl es hs out Ns B S a w ρ F β μ γ){i:Nat}{o:aL}{d:bH}(hi:pl[i]?=some (o,d))(hS:¬S i)
 (hcl:∀o,ops.toList[i]?=some o→∀e∈o.after,Region.binds .any e=true→S e.on) (hb:d.kind=.gU) (hdst:∀d,o.dst=some d→d<nt) :
 HR C ρ F (hs i) w∧∀val w',dJ C ρ F (hs i) w (out i) (hs (i+1)) val w'→∃ρ' F' β' μ' γ',J C nt ops pl es hs out Ns B (fun k=>S k∨k=i) (a.put o.dst val) w' ρ' F' β' μ' γ':=by
 have hlt:=(acm.1 hi).1
 have bf:=j.before R hcl
 have bh:=j.behind R hS
 have hdi:(dr pl i).kind=.gU:=by rw[cL hi];exact hb
 have lt:=yC R.nm.Hg
 have h1:β≤i:=by
  rcases acz i β with h|h
  ·exact absurd (j.pre i h (by rw[hdi];simp)) hS
  ·exact h
 have hall:∀k,k<i→(dr pl k).kind≠.pure→S k:=by
  intro k hk hp
  rcases R.nm.gU i k hlt (by omega) hdi hp with h|h|h
  ·omega
  ·have:=lt k i h;omega
  ·exact bf k h
 have h2:i=γ:=by
  rcases ad7 i γ with h|h|h
  ·exact absurd hdi (j.rP i h1 h)
  ·exact h
  ·rcases j.No with h'|h'
   ·omega
   ·exact absurd h' (j.post γ (ac7 j.le j.Fp) (hall γ h (by rw[h'];simp)))
 subst h2
 obtain⟨hμ,hG⟩:=j.full R hall
 replace hμ:=hμ.symm
 subst hμ
 have hr:=j.hr
 rw[hG]at hr
 refine⟨hr,fun val w' hd=>?_⟩
 obtain⟨ρ2,F2,d1,d2,d3⟩:=hd
 have hext:=j.ext
 rw[hG]at hext
 have hmk:=j.R8
 rw[hG]at hmk
 obtain⟨μ',γ',h⟩:=J.begin R (B:=B) (S:=fun k=>S k∨k=i) (a:=a.put o.dst val) (w:=w') (ρ:=ρ2) (F:=F2) (β:=i+1) (by omega)
  (fun k o' hk' ho' e he hbd=>by
   rcases hk' with hk'|rfl
   ·exact .inl (j.closed k o' hk' ho' e he hbd)
   ·exact .inl (hcl o' ho' e he hbd))
  (fun k hk hp=>by
   by_cases e:k=i
   ·exact .inr e
   ·exact .inl (hall k (by omega) hp))
  (fun k hk hSk=>by
   have hSk:S k:=hSk.resolve_right (by omega)
   apply aef
   intro hp
   have hkl:k<pl.length:=by
    rcases acz k pl.length with h|h
    ·exact h
    ·exact absurd (by unfold dr;rw[adS h];rfl) hp
   rcases R.nm.gU i k hlt hkl hdi hp with h|h|h
   ·omega
   ·exact bh k hSk h
   ·have:=lt i k h;omega)
  (by rw[R.tr.nx i o d hi];unfold fS;rw[hb])
  (fun h=>by
   rw[R.nm.Im i h,js.2 hdi];rfl)
  d2 (hext.trans d3)
  (j.Fb R hi hS (d3.keeps hr) d3.iM d3.le (d1.mono (fun _ _=>rfl) (fun _ h=>h) (fun b l h=>⟨l,by rw[ka (d2.jT b l h)];exact h,.inl rfl⟩)) hdst)
  (by cases o.dst with
   |none=>exact j.sz
   |some u=>simpa[Act.put]using j.sz)
  (by
   have:(a.put o.dst val).defers=a.defers:=by cases o.dst<;>rfl
   rw[this]
   exact hmk.ext d3.toExt0)
 exact⟨ρ2,F2,_,μ',γ',h⟩
theorem JM{H:ab}{vis:Nat→Prop}{b:Nat}(hv:vis b):(Gh H vis).bl[b]?=H.bl[b]?:=by
 unfold Gh
 cases h:H.bl[b]? with
 |none=>simp[h]
 |some x=>simp[h,hv]
open Classical in
theorem CP{H H':ab}{vis:Nat→Prop}{b r:Nat}{y:aC}(hv:vis b)(h:ca H b y r=some H'):ca (Gh H vis) b y r=some (Gh H' vis):=by
 unfold ca at h⊢
 replace h:=aj h
 obtain⟨h1,h2⟩:=h
 have h3:(decide ((Gh H vis).ro≤b)&&decide (b<(Gh H vis).bl.length))=true:=by rw[iF];exact h1
 rw[h3]
 cases h2
 simp only[acG,acN]
 have:(Gh H vis).bl.set b y=(H.bl.set b y).mapIdx (fun b x=>if vis b then x else aC.dead):=by
  apply aen
  intro c
  by_cases e:c=b
  ·subst e
   simp only[ae6,iF,ae9,acU]
   by_cases hl:c<H.bl.length
   ·simp[hl,hv]
   ·simp[hl]
  ·rw[acv (Ne.symm e),ae9,acv (Ne.symm e)]
   unfold Gh
   rw[ae9]
 rw[this]
 rfl
theorem EY{H H':ab}{vis:Nat→Prop}{n b v i o:Nat}{x:SV}(hv:vis b)(h:ej n H x (.ptr b v i o)=some H'):ej n (Gh H vis) x (.ptr b v i o)=some (Gh H' vis):=by
 have hg:bk (Gh H vis) b=bk H b:=JM hv
 unfold ej at h⊢
 simp only[acu]at h⊢
 obtain⟨xs,h1,h⟩:=h
 refine⟨xs,h1,?_⟩
 rw[hg]
 replace h:=aj h
 obtain⟨h2,h⟩:=h
 rw[h2]
 simp only[acG]
 split at h
 ·replace h:=aj h
  rw[h.1];exact CP hv h.2
 ·replace h:=aj h
  obtain⟨h3,h⟩:=h
  rw[h3]
  simp only[acG]
  split at h
  ·replace h:=aj h
   rw[h.1];exact CP hv h.2
  ·cases h
 ·cases h
theorem J.place(R:fZ C rec f nt ops pl es hs out Ns)(j:J C nt ops pl es hs out Ns B S a w ρ F β μ γ){i:Nat}{o:aL}{d:bH}(hi:pl[i]?=some (o,d))(hS:¬S i)
 (hcl:∀o,ops.toList[i]?=some o→∀e∈o.after,Region.binds .any e=true→S e.on) (hp:d.kind≠.pure) (hb:d.kind≠.gU):β≤i∧i<γ∧(dF d=true→i=μ)∧(dF d=false→i<μ):=by
 have hlt:=(acm.1 hi).1
 have bf:=j.before R hcl
 have bh:=j.behind R hS
 have lt:=yC R.nm.Hg
 have hdi:dr pl i=d:=cL hi
 have hβ:β≤i:=by
  rcases acz i β with h|h
  ·exact absurd (j.pre i h (by rw[hdi];exact hp)) hS
  ·exact h
 have hγ:i<γ:=by
  rcases acz i γ with h|h
  ·exact h
  ·exfalso
   rcases j.No with h'|h'
   ·omega
   ·have hne:γ≠i:=fun e=>by rw[e,hdi]at h';exact hb h'
    rcases R.nm.gU γ i (by omega) hlt h' (by rw[hdi];exact hp)with h1|h1|h1
    ·exact hne h1
    ·exact absurd h' (j.post γ (ac7 j.le j.Fp) (bf γ h1))
    ·have:=lt γ i h1;omega
 refine⟨hβ,hγ,fun hw=>?_,fun hw=>?_⟩
 ·rcases ad7 i μ with h|h|h
  ·exact absurd (j.xA i hβ h (by rw[hdi];exact hw)) hS
  ·exact h
  ·rcases j.M9 with h'|⟨h1,h2⟩
   ·omega
   ·exact absurd (bf μ (R.nm.W5 μ i (by omega) hlt h1 h (by rw[hdi];exact hp))) h2
 ·rcases ad7 i μ with h|h|h
  ·exact h
  ·rcases j.M9 with h'|⟨h1,h2⟩
   ·omega
   ·rw[←h,hdi,hw]at h1;cases h1
  ·rcases j.M9 with h'|⟨h1,h2⟩
   ·omega
   ·exact absurd (bf μ (R.nm.W5 μ i (by omega) hlt h1 h (by rw[hdi];exact hp))) h2
theorem fZ.NW(R:fZ C rec f nt ops pl es hs out Ns){β i b:Nat}(hβ:β≤i)(hi:i≤pl.length)(hb:∀m,β≤m→m<i→(dr pl m).kind≠.gU)(h0:¬b<aT hs β)(h:b<aT hs i) :
 ∃k,β≤k∧k<i∧aT hs k≤b∧b<aT hs (k+1)∧(dr pl k).kind=.j6∧b<aT hs k+(dr pl k).xO:=by
 have key:∀m,β+m≤i→b<aT hs (β+m)→∃k,β≤k∧k<i∧aT hs k≤b∧b<aT hs (k+1):=by
  intro m
  induction m with
  |zero=>intro _ h;exact absurd h h0
  |succ m ih=>
   intro h1 h2
   by_cases h3:b<aT hs (β+m)
   ·exact ih (by omega) h3
   ·exact⟨β+m,by omega,by omega,by omega,h2⟩
 obtain⟨k,k1,k2,k3,k4⟩:=key (i-β) (by omega) (by rwa [show β+(i-β)=i by omega])
 obtain⟨ok,dk,hk⟩:=ik (pl:=pl) (i:=k) (by omega)
 have hnbk:dk.kind≠.gU:=by have:=hb k k1 k2;rwa [cL hk]at this
 have hl:=(R.jh hk hnbk).1
 refine⟨k,k1,k2,k3,k4,?_,by rw[cL hk];omega⟩
 rw[cL hk]
 cases hkk:dk.kind with
 |gU=>exact absurd hkk hnbk
 |pure=>have:=(R.nm.HM k ok dk hk hkk).2;omega
 |wr rd=>
  have:=R.nm.YB k (by omega) (by rw[cL hk];exact dw.2 ⟨rd,hkk⟩)
  rw[cL hk]at this;omega
 |j6=>rfl
theorem J.seen(R:fZ C rec f nt ops pl es hs out Ns)(j:J C nt ops pl es hs out Ns B S a w ρ F β μ γ){i b:Nat}{o:aL}{d:bH}(hi:pl[i]?=some (o,d))(hS:¬S i)
 (hcl:∀o,ops.toList[i]?=some o→∀e∈o.after,Region.binds .any e=true→S e.on) (hd:d.kind=.j6∨dF d=true) (hβ:β≤i) (hiμ:i≤μ) (hb:b<aT hs i) (hh:∀m∈d.fB,b≠Ns i+m):jK hs S β μ b∧jK hs S β i b:=by
 have hlt:=(acm.1 hi).1
 have bf:=j.before R hcl
 have hnb:∀g,β≤g→g<i→(dr pl g).kind≠.gU:=fun g h1 h2=>j.rP g h1 (by have:=j.Fp;omega)
 by_cases h0:b<aT hs β
 ·exact⟨.inl h0,.inl h0⟩
 ·obtain⟨k,k1,k2,k3,k4,k5,k6⟩:=R.NW hβ (by omega) hnb h0 hb
  have hSk:S k:=by
   rcases R.nm.fB i hlt (by rw[cL hi];exact hd) k k2 k5 with⟨m,m1,m2,m3⟩|h|h
   ·exact absurd m3 (hnb m (by omega) m2)
   ·exact bf k h
   ·exfalso
    have hoff:=R.kT (j.AM (by omega)) (k-β) (fun m h1 h2=>hnb m h1 (by omega)) (by omega)
    rw[show β+(k-β)=k by omega]at hoff
    have hNs:Ns i=aT hs β:=by rw[R.Tn hβ (by omega) hnb,j.I7]
    have hoff':aT hs k=aT hs β+(dr pl k).kT:=hoff
    have:=h (b-aT hs k) (by omega)
    rw[cL hi]at this
    exact hh _ this (by rw[hNs];omega)
  exact⟨.inr ⟨k,hSk,k1,by omega,k3,k4⟩,.inr ⟨k,hSk,k1,k2,k3,k4⟩⟩
theorem J.wr(R:fZ C rec f nt ops pl es hs out Ns)(j:J C nt ops pl es hs out Ns B S a w ρ F β μ γ){i:Nat}{o:aL}{d:bH}{rd:List (bX×Nat)}(hi:pl[i]?=some (o,d))(hS:¬S i)
 (hcl:∀o,ops.toList[i]?=some o→∀e∈o.after,Region.binds .any e=true→S e.on) (hk:d.kind=.wr rd) (hdst:∀d,o.dst=some d→d<nt) :
 ∃n p x V V',o.op=.store n p x∧qi (es i) o.g∧HR C ρ F V w∧ej n V (ev (es i) x) (ev (es i) p)=some V'∧
  ∀w',HR C ρ F V' w'→Ext C ρ F V w ρ F V' w'→Am C ρ F V V' w w' (ev (es i) x).refs→∃μ',J C nt ops pl es hs out Ns B (fun k=>S k∨k=i) (a.put o.dst undef) w' ρ F β μ' γ:=by
 have hlt:=(acm.1 hi).1
 have hw:dF d=true:=dw.2 ⟨rd,hk⟩
 have bf:=j.before R hcl
 have bh:=j.behind R hS
 obtain⟨hβ,hγ,hμ,_⟩:=j.place R hi hS hcl (by rw[hk];simp) (by rw[hk];simp)
 have hμ:=hμ hw
 subst hμ
 obtain⟨n,p,x,ed,hwt,hrefs,htgt,_,hst,hout,hN⟩:=R.wr hi hk
 have hNs:Ns i=aT hs β:=by rw[R.Tn hβ (by omega) (fun m h1 h2=>j.rP m h1 (by omega)),j.I7]
 rw[hNs]at hrefs
 obtain⟨b,v,ii,oo,xs,y0,y1,hp,hxs,hxn,hb0,hl0,hl1,hsh,hset0,_⟩:=gI hst
 have hbl:b<aT hs i:=(acm.1 hb0).1
 have hvis:jK hs S β i b:=(j.seen R hi hS hcl (.inr hw) hβ (acH _) hbl (fun m hm e=>by
  rw[hp]at htgt
  simp only[Ga]at htgt
  have:=acZ.1 htgt m hm
  simp only[ac8,aea]at this
  exact this e.symm)).2
 have hstV:ej n (Gh (hs i) (jK hs S β i)) (ev (es i) x) (ev (es i) p)=some (Gh (hs (i+1)) (jK hs S β i)):=by
  rw[hp]at hst ⊢;exact EY hvis hst
 refine⟨n,p,x,_,_,ed,hwt,j.hr,hstV,fun w' q1 q2 q3=>?_⟩
 have hln:aT hs (i+1)=aT hs i:=R.zi hi hw
 obtain⟨μ,n1,n2,n3,n4⟩:=vh pl γ (γ-(i+1)) (i+1) (by omega)
 obtain⟨X,g1⟩:=R.IF n1 (by have:=j.Dd;omega) (fun m h1 h2=>j.rP m (by omega) (by omega)) n3
 have late:∀k,S k→i<k→k<pl.length→(dr pl k).kind=.pure:=by
  intro k h1 h2 h3
  apply aef
  intro hp'
  exact bh k h1 (R.nm.W5 i k hlt h3 (by rw[cL hi];exact hw) h2 hp')
 have nob:∀k,k<μ→(S k∨k=i)→β≤k→i≤k→aT hs (k+1)=aT hs k:=by
  intro k k0 k1 k2 k3
  rcases acz i k with h|h
  ·have hkl:k<pl.length:=by have:=j.Dd;omega
   have hp':=late k (k1.resolve_right (by omega)) h hkl
   obtain⟨ok,dk,hk'⟩:=ik hkl
   rw[cL hk']at hp'
   have:=(R.jh hk' (by rw[hp'];simp)).1
   rw[(R.nm.HM k ok dk hk' hp').2]at this
   omega
  ·have:k=i:=by omega
   subst this;exact hln
 have vis2:∀b,jK hs (fun k=>S k∨k=i) β μ b→jK hs S β i b:=by
  intro b h
  rcases h with h|⟨k,k1,k2,k3,k4,k5⟩
  ·exact .inl h
  ·rcases acz k i with h|h
   ·exact .inr ⟨k,k1.resolve_right (by omega),k2,h,k4,k5⟩
   ·have:=nob k k3 k1 k2 h;omega
 have vis1:∀b,jK hs S β i b→jK hs (fun k=>S k∨k=i) β μ b:=by
  intro b h
  rcases h with h|⟨k,k1,k2,k3,k4,k5⟩
  ·exact .inl h
  ·exact .inr ⟨k,.inl k1,k2,by omega,k4,k5⟩
 have visl:∀b,jK hs S β i b→b<aT hs (i+1):=by
  intro b h
  rw[hln]
  rcases h with h|⟨k,k1,k2,k3,k4,k5⟩
  ·exact adJ h (R.mono hβ (by omega))
  ·exact adJ k5 (R.mono k3 (by omega))
 have hat:∀b,b<aT hs (i+1)→(hs μ).bl[b]?=(hs (i+1)).bl[b]?:=fun b hb=>by
  rw[g1]
  simp only
  rw[acF hb]
 obtain⟨p1,p2⟩:=q1.pad (H':=Gh (hs μ) (jK hs (fun k=>S k∨k=i) β μ)) (fun b x hx=>by
  constructor
  ·intro h
   obtain⟨u1,u2⟩:=lX h hx
   have:=vis2 b u1
   rw[hat b (visl b this)]at u2
   exact iJ this u2
  ·intro h
   obtain⟨u1,u2⟩:=lX h hx
   exact iJ (vis1 b u1) (by rw[hat b (visl b u1)];exact u2)) (by rw[iF,iF];exact R.mono n1 (by have:=j.Dd;omega)) (by simp[Gh,g1]) (by simp[Gh,g1])
 have q2':=q2.trans p2
 have hold:∀(b:Nat) y,jK hs S β i b→(hs μ).bl[b]?=some y→y.live=true→∃z,(hs i).bl[b]?=some z∧z.live=true∧(Gh (hs i) (jK hs S β i)).bl[b]?=some z∧(Gh (hs (i+1)) (jK hs S β i)).bl[b]?=some y:=by
  intro b y hv hy hyl
  rw[hat b (visl b hv)]at hy
  have hsh2:cp (hs i).bl (hs (i+1)).bl:=by rw[(jk hset0).2.2.1];exact cp.set hb0 hsh
  rcases hsh2.get b with⟨_,h⟩|⟨z,y',h1,h2,h3⟩
  ·rw[h]at hy;cases hy
  ·rw[h2]at hy;cases hy
   exact⟨z,h1,by rw[vU h3];exact hyl,iJ hv h1,iJ hv h2⟩
 refine⟨μ,⟨fun k o' hk' ho' e he hbd=>?_,by omega,n2,j.Dd,j.rP,j.No,n4.imp id (fun h=>⟨h,fun hs'=>?_⟩),fun k h1 h2 h3=>?_,fun k h1 h2=>.inl (j.pre k h1 h2),fun k h1 h2=>?_,j.I7,j.AM,j.Tm,p1,fun b l h=>vis1 b (j.jT b l h),
  fun b y l hb hy hyl hl=>?_,fun k b y l k1 k2 k3 k4 k5 hy hyl hl=>?_,j.ext.trans q2',?_,?_,?_⟩⟩
 ·rcases hk' with hk'|rfl
  ·exact .inl (j.closed k o' hk' ho' e he hbd)
  ·exact .inl (hcl o' ho' e he hbd)
 ·rcases hs' with h1|h1
  ·have hμl:μ<pl.length:=by
    rcases acz μ pl.length with h2|h2
    ·exact h2
    ·unfold dr at h;rw[adS h2]at h;cases h
   have:=late μ h1 (by omega) hμl
   obtain⟨rd',h'⟩:=dw.1 h
   rw[h']at this;cases this
  ·omega
 ·rcases ad7 k i with h|h|h
  ·exact .inl (j.xA k h1 h h3)
  ·exact .inr h
  ·rw[n3 k h h2]at h3;cases h3
 ·rcases h2 with h2|rfl
  ·exact j.post k h1 h2
  ·rw[cL hi,hk];simp
 ·obtain⟨z,z1,z2,z3,z4⟩:=hold b y (.inl hb) hy hyl
  exact q3 (aT hs β) hrefs b z y l z3 z2 z4 hl (j.XY b z l hb z1 z2 hl)
 ·rcases acz k i with h|h
  ·have hSk:S k:=k1.resolve_right (by omega)
   obtain⟨z,z1,z2,z3,z4⟩:=hold b y (.inr ⟨k,hSk,k2,h,k4,k5⟩) hy hyl
   have hle:aT hs β≤aT hs (k+1):=R.mono (by omega) (by omega)
   exact q3 (aT hs (k+1)) (ac7 hrefs hle) b z y l z3 z2 z4 hl (j.T8 k b z l hSk k2 h k4 k5 z1 z2 hl)
  ·have:=nob k k3 k1 k2 h;omega
 ·exact j.Fb R hi hS (q2.keeps j.hr) (fun _ h=>h) (Map.le_refl _) (by rw[hout];exact .undef _) hdst
 ·cases o.dst with
  |none=>exact j.sz
  |some u=>simpa[Act.put]using j.sz
 ·have:(a.put o.dst undef).defers=a.defers:=by cases o.dst<;>rfl
  rw[this]
  exact j.R8.ext q2'.toExt0
theorem pj(N:Nat):∀(ds:List Nat) (l:List aC),(cE N ds l).length=l.length
 |[],_=>rfl
 |d::ds,l=>by
  have:=pj N ds (l.set (N+d) .dead)
  unfold cE at this⊢
  simpa using this
theorem mS(N:Nat):∀(ds:List Nat) (l:List aC) (b:Nat) (x:aC),(cE N ds l)[b]?=some x→x.live=true→l[b]?=some x∧∀d∈ds,b≠N+d
 |[],l,b,x,h,_=>⟨h,by simp⟩
 |d::ds,l,b,x,h,hx=>by
  obtain⟨h1,h2⟩:=mS N ds (l.set (N+d) .dead) b x (by unfold cE at h ⊢;simpa using h) hx
  have hne:b≠N+d:=by
   intro e
   rw[←e]at h1
   have hlt:=(acm.1 h1).1
   simp at hlt
   simp[hlt]at h1
   subst h1;cases hx
  rw[acv (Ne.symm hne)]at h1
  exact⟨h1,fun d' hd'=>by
   rcases adj.1 hd' with rfl|hd'
   ·exact hne
   ·exact h2 d' hd'⟩
theorem sa(N:Nat):∀(ds:List Nat) (l:List aC) (b:Nat),(∀d∈ds,b≠N+d)→(cE N ds l)[b]?=l[b]?
 |[],_,_,_=>rfl
 |d::ds,l,b,h=>by
  have:=sa N ds (l.set (N+d) .dead) b (fun d' hd'=>h d' (ade _ hd'))
  unfold cE at this⊢
  rw[adB,this,acv (Ne.symm (h d (ac5 ..)))]
theorem p9{o:aL}{e:Env}{tmps:Array Value}{F:Nat→Prop}{ρ:Map}{w:World}(h:∀t∈bW o,VR w F ρ (get e t) (tmps.getD t undef)):ER w F ρ (dM (bW o) e) tmps:=by
 intro t
 rw[jg]
 cases hm:(bW o).contains t with
 |false=>exact .undef _
 |true=>exact h t (by simpa using hm)
theorem ng{o:aL}{e:Env}{H:ab}:au rec (dM (bW o) e) H o.op=au rec e H o.op:=
 pK (fun t ht=>by rw[jg];simp[ht])
theorem J.step(hrec:fW C rec)(R:fZ C rec f nt ops pl es hs out Ns)(j:J C nt ops pl es hs out Ns B S a w ρ F β μ γ){i:Nat}(hi:i<pl.length)(hS:¬S i)
 (hcl:∀o,ops.toList[i]?=some o→∀e∈o.after,Region.binds .any e=true→S e.on) {ro:Option Nat} {n:Nat} {Q:Exit→Act→World→Prop} {K:Act→World→Prop}
 (hK:∀a' w' ρ' F' β' μ' γ',J C nt ops pl es hs out Ns B (fun k=>S k∨k=i) a' w' ρ' F' β' μ' γ'→K a' w'):wpOpIn (WF ro) n C.P ops Q i K a w:=by
 obtain⟨o,d,ho⟩:=ik hi
 obtain⟨op,ed,hco⟩:=R.ed i o d ho
 unfold wpOpIn
 simp only[ed]
 unfold iX at hco
 replace hco:=fa hco
 obtain⟨hdst,hco⟩:=hco
 have hdst':∀d,op.dst=some d→d<nt:=fun d hd=>by rw[hd]at hdst;simpa using hdst
 have hslots:=j.LU R ho hS hcl
 have go:∀(hd:op.dst=o.dst) (hopo:o.op=wh (lk C.dL f op.dst) ((oW C.P op.op).getD .bad)),b9 rec (Ns i) d (es i) (hs i) o.op=some (out i,hs (i+1))→op.wpIn (WF ro) n C.P a w K Q:=by
  intro hd hopo hst
  unfold b9 at hst
  split at hst
  ·rename_i hk
   obtain⟨g1,g2⟩:=R.nm.HM i o d ho hk
   obtain⟨g3,g4⟩:=od g1 hst
   have hr:=j.sub R (i:=i) (V:={bl:=List.replicate (aT hs i) .dead,bT:=[],ro:=aT hs i}) (by omega) (by simp) (fun b x hb hx=>by
    simp only[adX]at hb
    split at hb
    ·cases hb;cases hx
    ·cases hb)
   have hs1:=g4 {bl:=List.replicate (aT hs i) .dead,bT:=[],ro:=aT hs i}
   rw[←ng]at hs1
   refine jz hrec hopo hs1 hr (p9 hslots) (fun val w' hdn=>?_)
   have hln:aT hs (i+1)=aT hs i:=by unfold aT;rw[g3]
   obtain⟨ρ',F',h⟩:=j.quiet R ho hS hcl (by rw[hk];simp) (by unfold dF;rw[hk]) (by simp) rfl (by simp[hln]) rfl (fun b h1 h2=>by omega) (.inl hln) hdn (fun d h=>hdst' d (by rw[hd];exact h))
   rw[hd]
   exact hK _ _ _ _ _ _ _ h
  ·rename_i hk
   simp only[acu]at hst
   obtain⟨r,h1,h2⟩:=hst
   replace h2:=aj h2
   obtain⟨_,h2⟩:=h2
   cases h2
   obtain⟨hr,hfin⟩:=j.gU R ho hS hcl hk (fun d h=>hdst' d (by rw[hd];exact h))
   rw[←ng]at h1
   refine jz hrec hopo h1 hr (p9 (fun t ht=>(hslots t ht).mono (fun _ _=>rfl) (fun _ h=>h) (Map.uv _ _))) (fun val w' hdn=>?_)
   obtain⟨ρ',F',β',μ',γ',h⟩:=hfin val w' hdn
   rw[hd]
   exact hK _ _ _ _ _ _ _ h
  ·rename_i hk
   simp only[acu]at hst
   obtain⟨r,h1,h2⟩:=hst
   replace h2:=aj h2
   obtain⟨h3,h2⟩:=h2
   simp only[acw,adK,List.isEmpty_iff]at h3
   obtain⟨h3,h4⟩:=h3
   simp only[acN,acY]at h2
   obtain⟨h5,h6⟩:=h2
   obtain⟨s,V'⟩:=r
   simp only at h1 h3 h4 h5 h6
   subst h5
   have hdi:(dr pl i).kind=.j6:=by rw[cL ho];exact hk
   have hnw:dF d=false:=by unfold dF;rw[hk]
   obtain⟨hβ,hγ,_,hμ⟩:=j.place R ho hS hcl (by rw[hk];simp) (by rw[hk];simp)
   have hμ:=hμ hnw
   have bh:=j.behind R hS
   have hlM:=j.Fp
   have hlN:=j.Dd
   have hnb:∀g,β≤g→g<μ→(dr pl g).kind≠.gU:=fun g h1 h2=>j.rP g h1 (by omega)
   have hln:aT hs (i+1)=aT hs i+d.xO:=by
    unfold aT;rw[←h6];simp;omega
   have hsz:aT hs i≤aT hs μ:=R.mono (by omega) (by omega)
   have hnow:∃V1',au rec (es i) {bl:=cE (Ns i) d.fB ((hs μ).bl.take (aT hs i)),bT:=[],ro:=aT hs i} o.op=some (out i,V1')∧V1'.bl.length=aT hs (i+1)∧V1'.bT=[]∧
    ∀b,aT hs i≤b→b<aT hs (i+1)→V1'.bl[b]?=(hs (i+1)).bl[b]?:=by
    have hbl1:∀V0:List aC,V0.length=aT hs i→∀b,aT hs i≤b→V'.bl[b]?=(hs (i+1)).bl[b]?:=fun V0 _ b h1=>by
     rw[←h6]
     simp only
     rw[adf h1,ado]
     congr 1
     have:aT hs i=(hs i).bl.length:=rfl
     omega
    by_cases hno:∀m,i<m→m<μ→dF (dr pl m)=false
    ·obtain⟨X,hX⟩:=R.IF (show i≤μ by omega) (by omega) (fun m h1 h2=>hnb m (by omega) h2) (fun m h1 h2=>by
      rcases acz i m with h|h
      ·exact hno m h h2
      ·have:m=i:=by omega
       subst this;rw[cL ho];exact hnw)
     have:(hs μ).bl.take (aT hs i)=(hs i).bl:=by
      rw[hX]
      simp only
      exact List.take_left' rfl
     rw[this]
     exact⟨V',h1,by rw[h3,hln],h4,fun b h1 _=>hbl1 (hs i).bl rfl b h1⟩
    ·have hind:∀m,i<m→m<μ→dF (dr pl m)=true→oU o.op=true∨oL pl i m o.op (dr pl m)=true:=fun m m1 m2 m3=>by
      rcases R.nm.ind i m (o,d) (by omega) m1 m3 hdi ho with⟨g,g1,g2,g3⟩|h|h
      ·exact absurd g3 (hnb g (by omega) (by omega))
      ·exact absurd h (bh m (j.xA m (by omega) m2 m3))
      ·exact h
     have hsh:cp (cE (Ns i) d.fB (hs i).bl) (cE (Ns i) d.fB ((hs μ).bl.take (aT hs i))):=
      (R.shape (show i≤μ by omega) (by omega) (fun m h1 h2=>hnb m (by omega) h2)).fB _ _
     have hlen0:(cE (Ns i) d.fB (hs i).bl).length=aT hs i:=pj _ _ _
     cases hbo:oU o.op with
     |true=>
      obtain⟨X,x1,x2⟩:=EN hbo (V0:={bl:=cE (Ns i) d.fB (hs i).bl,bT:=[],ro:=(hs i).bl.length})
       (V1:={bl:=cE (Ns i) d.fB ((hs μ).bl.take (aT hs i)),bT:=[],ro:=aT hs i}) hsh h1
      refine⟨_,x2,?_,rfl,fun b b1 b2=>?_⟩
      ·have:V'.bl.length=(cE (Ns i) d.fB (hs i).bl).length+X.length:=by rw[x1];simp
       simp only[acn]
       rw[←hsh.len]
       have hli:aT hs i=(hs i).bl.length:=rfl
       omega
      ·rw[←hbl1 (hs i).bl rfl b b1,x1]
       simp only
       rw[adf (by rw[←hsh.len];omega),adf (by omega),hsh.len]
     |false=>
      have DU:∀m,i<m→m<μ→dF (dr pl m)=true→oL pl i m o.op (dr pl m)=true:=fun m m1 m2 m3=>by
       rcases hind m m1 m2 m3 with h|h
       ·rw[hbo]at h;cases h
       ·exact h
      have⟨m0,m1,m2,m3⟩:∃m,i<m∧m<μ∧dF (dr pl m)=true:=by
       apply aef
       intro hn
       exact hno (fun m m1 m2=>by
        cases hw:dF (dr pl m)with
        |false=>rfl
        |true=>exact absurd ⟨m,m1,m2,hw⟩ hn)
      obtain⟨ag,z,u,rd0,ed,_,_,_⟩:=pT (DU m0 m1 m2 m3)
      rw[ed]at h1
      have h1':(dg ag z {bl:=cE (Ns i) d.fB (hs i).bl,bT:=[],ro:=(hs i).bl.length} (get (es i) u)).map (fun v=>(v,({bl:=cE (Ns i) d.fB (hs i).bl,bT:=[],ro:=(hs i).bl.length}:ab)))=some (out i,V'):=h1
      simp only[acq,acY]at h1'
      obtain⟨s',l1,e1,l2⟩:=h1'
      rw[e1]at l1
      have hnal:aT hs (i+1)=aT hs i:=by
       have:V'.bl.length=aT hs i:=by rw[←l2];exact hlen0
       have hli:aT hs i=(hs i).bl.length:=rfl
       omega
      have hidden:∀b v ii oo,get (es i) u=.ptr b v ii oo→(∃x,(hs i).bl[b]?=some x)∧∀m∈d.fB,b≠Ns i+m:=fun b v ii oo hp=>by
       rw[hp]at l1
       obtain⟨x,q1,q2⟩:=sK l1
       obtain⟨q3,q4⟩:=mS _ _ _ _ _ q1 q2
       exact⟨⟨x,q3⟩,q4⟩
      have l3:dg ag z (hs i) (get (es i) u)=some (out i):=nf l1 (fun b v ii oo hp=>by
       obtain⟨_,q⟩:=hidden b v ii oo hp
       exact sa _ _ (hs i).bl _ q)
      have l4:dg ag z (hs μ) (get (es i) u)=some (out i):=R.NG (show i≤μ by omega) (by omega) (fun m h1 h2=>hnb m (by omega) h2) l3 (fun m om dm n a' x h1 h2 hm hwm hopm=>by
       have him:i<m:=by
        rcases acz i m with h|h
        ·exact h
        ·have:m=i:=by omega
         subst this
         rw[ho]at hm;cases hm
         rw[hnw]at hwm;cases hwm
       obtain⟨ag',z',u',rd,hop',hkd,hmem,hslot⟩:=pT (DU m him h2 (by rw[cL hm];exact hwm))
       rw[ed]at hop'
       cases hop'
       rw[cL hm]at hkd
       obtain⟨n',a2,x2,ho2,_,_,_,hdj,_⟩:=R.wr hm hkd
       rw[hopm]at ho2
       cases ho2
       have:=hdj _ hmem
       simp only[ev]at this
       rw[R.S5 (show i≤m by omega) (by omega) hslot]at this
       exact this)
      refine⟨{bl:=cE (Ns i) d.fB ((hs μ).bl.take (aT hs i)),bT:=[],ro:=aT hs i},?_,by simp only;rw[←hsh.len,hlen0,hnal],rfl,fun b b1 b2=>by omega⟩
      rw[ed]
      show(dg ag z {bl:=cE (Ns i) d.fB ((hs μ).bl.take (aT hs i)),bT:=[],ro:=aT hs i} (get (es i) u)).map _=_
      rw[nf l4 (H':={bl:=cE (Ns i) d.fB ((hs μ).bl.take (aT hs i)),bT:=[],ro:=aT hs i}) (fun b v ii oo hp=>by
       obtain⟨⟨x,q0⟩,q⟩:=hidden b v ii oo hp
       have hblt:b<aT hs i:=(acm.1 q0).1
       simp only
       rw[sa _ _ _ _ q,acX,if_pos hblt])]
      rfl
   obtain⟨V1',r1,r2,r3,r4⟩:=hnow
   have hlive:∀(b:Nat) x,(cE (Ns i) d.fB ((hs μ).bl.take (aT hs i)))[b]?=some x→x.live=true→β≤i∧i≤μ∧jK hs S β μ b∧(hs μ).bl[b]?=some x:=by
    intro b x hb hx
    obtain⟨u1,u2⟩:=mS _ _ _ _ _ hb hx
    rw[acX]at u1
    split at u1
    ·rename_i hblt
     exact⟨hβ,by omega,(j.seen R ho hS hcl (.inl hk) hβ (by omega) hblt u2).1,u1⟩
    ·cases u1
   have hVl:(cE (Ns i) d.fB ((hs μ).bl.take (aT hs i))).length=aT hs i:=by
    rw[pj,adA];exact adM hsz
   have hr:=j.sub R (i:=i) (V:={bl:=cE (Ns i) d.fB ((hs μ).bl.take (aT hs i)),bT:=[],ro:=aT hs i}) (by omega) hVl hlive
   rw[←ng]at r1
   refine jz hrec hopo r1 hr (p9 hslots) (fun val w' hdn=>?_)
   obtain⟨ρ',F',h⟩:=j.quiet R ho hS hcl (by rw[hk];simp) hnw hVl rfl r2 r3 (fun b b1 b2=>by
    rw[r4 b b1 b2]
    symm
    refine R.Nf (show i+1≤μ by omega) (by omega) (fun m h1 h2=>hnb m (by omega) h2) b2 (fun m om dm n a' x m1 m2 hm hwm hopm v jj q hp=>?_)
    have hSm:S m:=j.xA m (by omega) m2 (by rw[cL hm];exact hwm)
    obtain⟨rd,hkd⟩:=dw.1 hwm
    obtain⟨n',a2,x2,ho2,_,_,htgt,_,_⟩:=R.wr hm hkd
    rw[hopm]at ho2
    cases ho2
    rw[hp]at htgt
    rcases R.nm.fB m (by omega) (.inr (by rw[cL hm];exact hwm)) i (by omega) hdi with⟨g,g1,g2,g3⟩|h|h
    ·exact hnb g (by omega) (by omega) g3
    ·exact bh m hSm h
    ·have hoff:=R.kT (j.AM (by omega)) (i-β) (fun m h1 h2=>hnb m h1 (by omega)) (by omega)
     rw[show β+(i-β)=i by omega]at hoff
     have hoff':aT hs i=aT hs β+(dr pl i).kT:=hoff
     have:=h (b-aT hs i) (by rw[cL ho];omega)
     rw[cL hm]at this
     simp only[Ga]at htgt
     have:=acZ.1 htgt _ this
     have hNs:Ns m=aT hs β:=by rw[R.Tn (show β≤m by omega) (by omega) (fun g g1 g2=>hnb g g1 (by omega)),j.I7]
     simp only[ac8,aea]at this
     rw[hNs]at this
     omega) (.inr ⟨hβ,hμ⟩) hdn (fun d h=>hdst' d (by rw[hd];exact h))
   rw[hd]
   exact hK _ _ _ _ _ _ _ h
  ·rename_i rd hk
   obtain⟨n',p,x,V,V',hop',hwt,KZ,hsV,hfin⟩:=j.wr R ho hS hcl hk (fun d h=>hdst' d (by rw[hd];exact h))
   have hev:∀y∈[p,x],ev (dM (bW o) (es i)) y=ev (es i) y:=fun y hy=>by
    cases y with
    |c v=>rfl
    |t u=>
     have hm:u∈bW o:=by
      unfold bW
      rw[hop']
      refine adW _ ?_
      unfold bW.f
      exact List.mem_filterMap.2 ⟨.t u,hy,rfl⟩
     simp only[ev,jg]
     simp[hm]
   rw[←hev p (by simp),←hev x (by simp)]at hsV
   refine B9 hopo hop' hsV KZ (p9 (fun t ht=>(hslots t ht).mono (fun _ _=>rfl) (fun _ h=>h) (Map.uv _ _))) (fun w' z1 z2 z3=>?_)
   obtain⟨μ',h⟩:=hfin w' z1 z2 (by rw[hev x (by simp)]at z3;exact z3)
   rw[hd]
   exact hK _ _ _ _ _ _ _ h
 have pass:∀(hd:op.dst=o.dst),iZ d=true→out i=.jy→hs (i+1)=hs i→K (a.put op.dst undef) w:=by
  intro hd hsk ho' hh
  have hln:aT hs (i+1)=aT hs i:=by unfold aT;rw[hh]
  by_cases hk:d.kind=.gU
  ·obtain⟨hr,hfin⟩:=j.gU R ho hS hcl hk (fun d h=>hdst' d (by rw[hd];exact h))
   obtain⟨ρ',F',β',μ',γ',h⟩:=hfin undef w (by rw[ho',hh];exact dJ.same hr .jy)
   rw[hd]
   exact hK _ _ _ _ _ _ _ h
  ·have hr:=j.sub R (i:=i) (V:={bl:=List.replicate (aT hs i) .dead,bT:=[],ro:=aT hs i}) (by omega) (by simp) (fun b x hb hx=>by
    simp only[adX]at hb
    split at hb
    ·cases hb;cases hx
    ·cases hb)
   obtain⟨ρ',F',h⟩:=j.quiet R ho hS hcl hk (by cases hw:dF d with
    |false=>rfl
    |true=>obtain⟨rd,hk'⟩:=dw.1 hw;unfold iZ at hsk;rw[hk']at hsk;cases hsk) (val:=undef) (V:={bl:=List.replicate (aT hs i) .dead,bT:=[],ro:=aT hs i}) (V':={bl:=List.replicate (aT hs i) .dead,bT:=[],ro:=aT hs i}) (by simp) rfl (by simp[hln]) rfl (fun b h1 h2=>by omega) (.inl hln)
    (by rw[ho'];exact dJ.same hr .jy) (fun d h=>hdst' d (by rw[hd];exact h))
   rw[hd]
   exact hK _ _ _ _ _ _ _ h
 have hgt:∀t b,(∃w,o.g=some (t,w))→get (es i) t=.bool b→a.tmps.getD t undef=.bool b:=by
  rintro t b ⟨w,hg⟩ hb
  have hm:t∈bW o:=by unfold bW;rw[hg];simp
  have:=hslots t hm
  rw[hb]at this
  exact eQ this
 have hgs:∀t,(∃w,o.g=some (t,w))→get (es i) t=.jy→a.tmps.getD t undef=undef:=by
  rintro t ⟨w,hg⟩ hb
  have hm:t∈bW o:=by unfold bW;rw[hg];simp
  have:=hslots t hm
  rw[hb]at this
  exact y9 this
 split at hco
 ·rename_i hg
  cases hco
  have hw:Region.wanted op (yielded ops a.tmps)=true:=by simp[Region.wanted,hg]
  rw[hw,if_pos rfl]
  rcases R.tr.st i _ d ho with⟨_,h⟩|⟨⟨t,w,h,_⟩,_⟩
  ·exact go rfl rfl h
  ·cases h
 ·rename_i j' want hg
  split at hco
  ·rename_i t ht
   cases hco
   rcases R.tr.st i _ d ho with⟨h,h'⟩|⟨⟨t',w',h,hb⟩,hsk,ho',hh⟩
   ·rcases h with h|⟨t',w',h,hb⟩
    ·cases h
    ·cases h
     have htv:=hgt t want ⟨want,rfl⟩ hb
     have hy:yielded ops a.tmps j'=some want:=by simp only[yielded,ht,adq,l7 htv]
     have hw:Region.wanted op (yielded ops a.tmps)=true:=by simp only[Region.wanted,hg,hy];simp
     rw[hw,if_pos rfl]
     exact go rfl rfl h'
   ·cases h
    have hw:¬Region.wanted op (yielded ops a.tmps)=true:=by
     rcases hb with hb|hb
     ·have htv:=hgt t (!want) ⟨want,rfl⟩ hb
      have hy:yielded ops a.tmps j'=some (!want):=by simp only[yielded,ht,adq,l7 htv]
      simp only[Region.wanted,hg,hy];cases want<;>simp
     ·have htv:=hgs t ⟨want,rfl⟩ hb
      simp only[Region.wanted,hg,pF ht htv];simp
    rw[if_neg hw]
    exact⟨fun _ _=>trivial,pass rfl hsk ho' hh⟩
  ·cases hco
def HZ(listed:Array Bool):Nat:=listed.toList.count false
theorem AR(hrec:fW C rec)(R:fZ C rec f nt ops pl es hs out Ns){B:kp}{ro:Option Nat}{n:Nat}{Q:Exit→Act→World→Prop}
 (hQ:∀a w,Rel C nt B (es pl.length) (hs pl.length) a w→Q .normal a w) :
 ∀(fuel:Nat) (listed:Array Bool) (a:Act) (w:World),listed.size=ops.size→HZ listed≤fuel→(∃ρ F β μ γ,J C nt ops pl es hs out Ns B (fun k=>listed.getD k false=true) a w ρ F β μ γ)→wpAnyIn (WF ro) n C.P .any ops Q fuel listed a w:=by
 have hlast:∀(listed:Array Bool) (a:Act) (w:World),listed.size=ops.size→(∃ρ F β μ γ,J C nt ops pl es hs out Ns B (fun k=>listed.getD k false=true) a w ρ F β μ γ)→Region.ready .any ops listed=[]→Q .normal a w:=by
  intro listed a w hsz ⟨ρ,F,β,μ,γ,j⟩ hnil
  have hall:∀k,k<pl.length→listed.getD k false=true:=by
   intro k
   induction k using Nat.strongRecOn with
   |_ k ih=>
    intro hk
    apply aef
    intro hn
    have hks:k<listed.size:=by rw[hsz,←R.hlen];exact hk
    have hmem:k∈Region.ready .any ops listed:=by
     rw[mem_ready]
     obtain⟨o,d,ho⟩:=ik hk
     obtain⟨op,ed,_⟩:=R.ed k o d ho
     refine⟨by simpa[hks]using hn,op,ed,fun e he hb=>?_⟩
     exact ih e.on (R.nm.Hg k op (by simpa using ed) e he hb) (by have:=R.nm.Hg k op (by simpa using ed) e he hb;omega)
    rw[hnil]at hmem
    cases hmem
  have hγ:γ=pl.length:=by
   rcases j.No with h|h
   ·exact h
   ·by_cases hlt:γ<pl.length
    ·exact absurd h (j.post γ (ac7 j.le j.Fp) (hall γ hlt))
    ·have:=j.Dd;omega
  subst hγ
  obtain⟨hμ,hG⟩:=j.full R (fun k hk _=>hall k hk)
  subst hμ
  refine hQ a w ⟨ρ,F,hG▸j.hr,fun t=>?_,hG▸j.ext,j.sz,hG▸j.R8⟩
  obtain⟨m,h1,h2⟩:=R.yV t pl.length (acH _)
  refine(j.fR t _ m ?_).mono (fun _ _=>rfl) (fun _ h=>h) (Map.uv _ _)
  rcases h1 with⟨k,o',d',g1,g2,g3,g4,g5,g6⟩|⟨g1,g2,g3⟩
  ·exact .inl ⟨k,o',d',g1,hall k g2,g3,fun j' o2 d2 k1 k2 k3=>g4 j' o2 d2 k1 k2 (acm.1 k2).1,g5,g6⟩
  ·exact .inr ⟨fun j o d h _=>g1 j o d h (acm.1 h).1,g2,g3⟩
 intro fuel
 induction fuel with
 |zero=>
  intro listed a w hsz hu hj
  have hnil:Region.ready .any ops listed=[]:=by
   apply List.eq_nil_iff_forall_not_mem.2
   intro k hk
   have h1:=(mem_ready.1 hk).1
   have hks:k<listed.size:=by
    rcases acz k listed.size with h|h
    ·exact h
    ·simp[aeW h]at h1
   have:false∈listed.toList:=by
    simp[hks]at h1
    rw[←h1];simp
   have:=List.count_pos_iff.2 this
   unfold HZ at hu
   omega
  exact⟨hnil,hlast listed a w hsz hj hnil⟩
 |succ fuel ih=>
  intro listed a w hsz hu hj
  refine⟨hlast listed a w hsz hj,fun i hi=>?_⟩
  obtain⟨h1,o,ho,hafter⟩:=mem_ready.1 hi
  have hks:i<listed.size:=by
   rcases acz i listed.size with h|h
   ·exact h
   ·simp[aeW h]at h1
  have hfl:listed[i]=false:=by simpa[hks]using h1
  obtain⟨ρ,F,β,μ,γ,j⟩:=hj
  refine j.step hrec R (by rw[R.hlen];omega) (by simp[hks,hfl]) (fun o' ho' e he hb=>?_) (fun a' w' ρ' F' β' μ' γ' j'=>ih _ a' w' (by simpa using hsz) ?_ ⟨ρ',F',β',μ',γ',?_⟩)
  ·have:ops.toList[i]?=some o:=by simpa using ho
   rw[this]at ho';cases ho'
   exact hafter e he hb
  ·unfold HZ at hu⊢
   rw[Array.toList_setIfInBounds,List.count_set (by simpa using hks)]
   have hq:listed.toList[i]'(by simpa using hks)=false:=by simpa using hfl
   rw[hq]
   simp only[adL,if_true]
   have:((true==false)=true)=False:=by simp
   simp only[this,if_false]
   omega
  ·have:(fun k=>(listed.setIfInBounds i true).getD k false=true)=(fun k=>listed.getD k false=true∨k=i):=by
    funext k
    by_cases e:i=k
    ·subst e;simp[hks]
    ·simp[adv e,Ne.symm e]
   rw[this];exact j'
theorem E0(hmix:C.P.follows .mixedOrders=true)(hrec:fW C rec){id:Nat}{ops:Array Oper}{l:List aL}{d:List (aL×bH)}(hl:bR (ops.toList.map (iX C.P C.dL f nt ops))=some l){g:FuncId}(hd:yI C.dL g ops.toList l=some d) :
 gS C rec nt (.region id ops true) (.drawn d):=by
 intro ro n B Q R k r e H a w hro hrun hk hrel
 simp only[run]at hrun
 obtain⟨es,hs,out,Ns,h1,h2,h3,h4,h5⟩:=trace d _ _ _ hrun
 obtain⟨g1,g2⟩:=eb hl
 have hmk:∃u,d=ph C.dL g (bK ops.toList) l u∧l9 (bK ops.toList) ops.toList d=true:=by
  unfold yI at hd
  dsimp only at hd
  cases h1:l9 (bK ops.toList) ops.toList (ph C.dL g (bK ops.toList) l true)with
  |true=>
   rw[h1]at hd
   simp only[acG,acN]at hd
   exact⟨true,hd.symm,hd▸h1⟩
  |false=>
   rw[h1]at hd
   simp only[acJ]at hd
   replace hd:=aj hd
   obtain⟨h2,hd⟩:=hd
   simp only[acN]at hd
   exact⟨false,hd.symm,hd▸h2⟩
 obtain⟨u,hdu,hok⟩:=hmk
 have hlen:d.length=l.length:=by rw[hdu];simp[ph]
 have hfst:∀(i:Nat) o dd,d[i]?=some (o,dd)→l[i]?=some o:=by
  intro i o dd hi
  rw[hdu]at hi
  unfold ph at hi
  simp only[ad2,acq,List.getElem?_zipIdx]at hi
  obtain⟨p,⟨q,hq,rfl⟩,hp⟩:=hi
  cases hp
  exact hq
 have RG:fZ C rec f nt ops d es hs out Ns:=by
  refine⟨fun i o dd hi=>?_,by rw[hlen,g1];simp,uY hok,h4,by rw[h3,h2]⟩
  have hli:=hfst i o dd hi
  have hlt:=(acm.1 hli).1
  have hops:ops.toList[i]?=some ops.toList[i]:=acK (by omega)
  exact⟨_,by simpa using hops,g2 i _ _ hops hli⟩
 refine wpIn_region_any hmix ?_
 obtain⟨ρ,F,q1,q2,q3,q4,q5⟩:=hrel
 obtain⟨z1,z2⟩:=q1.same (w':={w with drawn:=w.drawn+1}) (acH _) (fun _ _=>rfl)
 refine AR hrec RG (B:=B) (fun a' w' hr'=>hk .normal _ _ a' w' h5 hr') ops.size _ a _ (by simp) ?_ ?_
 ·unfold HZ;simp
 ·have hS:(fun k=>(Array.replicate ops.size false).getD k false=true)=(fun _=>False):=by
   funext k
   by_cases hk:k<ops.size<;>simp[hk]
  rw[hS]
  subst h1;subst h2
  obtain⟨μ,γ,hj⟩:=J.begin RG (B:=B) (S:=fun _=>False) (a:=a) (w:={w with drawn:=w.drawn+1}) (ρ:=ρ) (F:=F) (β:=0) (aei _) (fun _ _ h=>h.elim) (fun _ h=>by omega) (fun _ _ h=>h.elim) h3 (fun h=>RG.nm.NY h) z1 (q3.trans z2)
   (fun t s m hW=>by
    rcases hW with⟨_,_,_,_,h,_⟩|⟨_,rfl,rfl⟩
    ·exact h.elim
    ·exact(z2.er q1 q2 t).mono (fun _ _=>rfl) (fun _ h=>h) (fun b l h=>⟨l,by rw[ka (q1.jT b l h)];exact h,.inl rfl⟩))
   q4 (q5.ext z2.toExt0)
  exact⟨ρ,F,0,μ,γ,hj⟩
end
end
section
section
variable{rec:Rec}{e e' e1 e2:Env}{H H' H1 H2:ab}
def gV(rec:Rec)(o:aL)(e:Env)(H:ab):Option (SV×ab):=match o.g with
 |none=>au rec e H o.op
 |some (t,w)=>match get e t with
  | .bool b=>bif b==w then au rec e H o.op else some (.jy,H)
  | .jy=>some (.jy,H)
  |_=>none
def stepG(rec:Rec)(o:aL)(e:Env)(H:ab):Option (Env×ab):=(gV rec o e H).map fun r=>(cf e o.dst r.1,r.2)
theorem xw{R:Type}{o:aL}{os:List aL}{k:Env→ab→Option R}:cg rec (o::os) e H k ()=(stepG rec o e H).bind fun s=>cg rec os s.1 s.2 k ():=by
 unfold stepG gV
 cases hg:o.g with
 |none=>
  simp only[cg,hg]
  cases au rec e H o.op<;>rfl
 |some p=>
  obtain⟨t,w⟩:=p
  simp only[cg,hg,fI,fork]
  cases get e t<;>try rfl
  rename_i b
  simp only
  cases(b==w)with
  |true=>cases au rec e H o.op<;>rfl
  |false=>rfl
def cX(rec:Rec):List aL→Env→ab→Option (Env×ab)
 |[],e,H=>some (e,H)
 |o::os,e,H=>(stepG rec o e H).bind fun s=>cX rec os s.1 s.2
theorem nP{R:Type}{k:Env→ab→Option R}:∀(os:List aL) (e:Env) (H:ab),cg rec os e H k ()=(cX rec os e H).bind fun s=>k s.1 s.2
 |[],e,H=>rfl
 |o::os,e,H=>by
  rw[xw,cX]
  cases stepG rec o e H with
  |none=>rfl
  |some s=>exact nP os s.1 s.2
theorem dx:∀(a b:List aL) (e:Env) (H:ab),cX rec (a++b) e H=(cX rec a e H).bind fun s=>cX rec b s.1 s.2
 |[],b,e,H=>rfl
 |o::a,b,e,H=>by
  rw[adE,cX,cX]
  cases stepG rec o e H with
  |none=>rfl
  |some s=>exact dx a b s.1 s.2
def wS(e e':Env):Prop:=∀t,get e t=get e' t
theorem wS.bind(h:wS e e')(d:Option Nat)(v:SV):wS (cf e d v) (cf e' d v):=by
 intro t
 cases d with
 |none=>exact h t
 |some d=>
  simp only[cf,get]
  rw[h t]
theorem gG{o:aL}(h:∀t∈bW o,get e t=get e' t):gV rec o e H=gV rec o e' H:=by
 have h1:=pK (rec:=rec) (H:=H) (o:=o) (e:=e) (e':=e') h
 unfold gV
 cases hg:o.g with
 |none=>exact h1
 |some p=>
  obtain⟨t,w⟩:=p
  have ht:get e t=get e' t:=h t (by unfold bW;rw[hg];simp)
  simp only[ht,h1]
theorem sF{o:aL}(h:wS e e')(hs:stepG rec o e' H=some (e2,H2)):∃e1,stepG rec o e H=some (e1,H2)∧wS e1 e2:=by
 unfold stepG at hs⊢
 rw[gG (e:=e) (e':=e') (fun t _=>h t)]
 obtain⟨r,h1,h2⟩:=acq.1 hs
 cases h2
 exact⟨_,by rw[h1];rfl,h.bind _ _⟩
theorem rN:∀(l:List aL) {e e':Env} {H:ab},wS e e'→cX rec l e' H=some (e2,H2)→∃e1,cX rec l e H=some (e1,H2)∧wS e1 e2
 |[],e,e',H,h,hs=>by
  simp only[cX,acN,acY]at hs
  obtain⟨rfl,rfl⟩:=hs
  exact⟨e,rfl,h⟩
 |o::l,e,e',H,h,hs=>by
  rw[cX]at hs
  obtain⟨s,h1,h2⟩:=acu.1 hs
  obtain⟨e3,h3,h4⟩:=sF h h1
  obtain⟨e4,h5,h6⟩:=rN l h4 h2
  exact⟨e4,by rw[cX,h3];exact h5,h6⟩
theorem jN{o:aL}{v:SV}(hp:gK o.op=true)(h:gV rec o e H=some (v,H')):H'=H∧∀H2,gV rec o e H2=some (v,H2):=by
 unfold gV at h⊢
 split at h
 ·exact od hp h
 ·rename_i t w hg
  split at h
  ·rename_i b hb
   cases hbw:(b==w)with
   |true=>rw[hbw]at h;exact od hp h
   |false=>rw[hbw]at h;cases h;exact⟨rfl,fun _=>rfl⟩
  ·cases h;exact⟨rfl,fun _=>rfl⟩
  ·cases h
theorem mU{a b:aL}(h:fp a b=true):(∀d,a.dst=some d→d∉bW b∧b.dst≠some d)∧(∀d,b.dst=some d→d∉bW a):=by
 unfold fp at h
 simp only[ac8,Bool.or_eq_false_iff]at h
 refine⟨fun d hd=>?_,fun d hd=>?_⟩
 ·have:=h.1
  rw[hd]at this
  simp only[Bool.or_eq_false_iff,aea]at this
  exact⟨by simpa using this.1,this.2⟩
 ·have:=h.2
  rw[hd]at this
  simpa using this
theorem iO{d:Option Nat}{v:SV}{t:Nat}(h:∀x,d=some x→x≠t):get (cf e d v) t=get e t:=by
 cases d with
 |none=>rfl
 |some x=>
  have:(t==x)=false:=by simpa using(h x rfl).symm
  simp only[cf,get,this,acJ]
theorem FP{x y:aL}(hi:fp x y=true∨fp y x=true)(hp:gK x.op=true∨gK y.op=true)(h1:stepG rec y e H=some (e1,H1))(h2:stepG rec x e1 H1=some (e2,H2)) :
 ∃e3 H3 e4,stepG rec x e H=some (e3,H3)∧stepG rec y e3 H3=some (e4,H2)∧wS e4 e2:=by
 have hxy:(∀d,x.dst=some d→d∉bW y∧y.dst≠some d)∧(∀d,y.dst=some d→d∉bW x∧x.dst≠some d):=by
  rcases hi with hi|hi
  ·obtain⟨a,b⟩:=mU hi
   exact⟨a,fun d hd=>⟨b d hd,fun hx=>(a d hx).2 hd⟩⟩
  ·obtain⟨a,b⟩:=mU hi
   exact⟨fun d hd=>⟨b d hd,fun hy=>(a d hy).2 hd⟩,a⟩
 obtain⟨hx,hy⟩:=hxy
 unfold stepG at h1 h2
 obtain⟨⟨vy,K1⟩,k1,k2⟩:=acq.1 h1
 obtain⟨⟨vx,K2⟩,k3,k4⟩:=acq.1 h2
 simp only[acY]at k2 k4
 obtain⟨rfl,rfl⟩:=k2
 obtain⟨rfl,rfl⟩:=k4
 have gx:∀v t,t∈bW x→get (cf e y.dst v) t=get e t:=fun v t ht=>iO (fun d hd hdt=>(hy d hd).1 (hdt▸ht))
 have gy:∀v t,t∈bW y→get (cf e x.dst v) t=get e t:=fun v t ht=>iO (fun d hd hdt=>(hx d hd).1 (hdt▸ht))
 rw[gG (e':=e) (gx vy)]at k3
 have heq:wS (cf (cf e x.dst vx) y.dst vy) (cf (cf e y.dst vy) x.dst vx):=by
  intro t
  cases hdx:x.dst with
  |none=>rfl
  |some a=>
   cases hdy:y.dst with
   |none=>rfl
   |some b=>
    have hab:a≠b:=fun h=>(hx a hdx).2 (by rw[hdy,h])
    simp only[cf,get]
    by_cases ha:(t==a)=true
    ·by_cases hb:(t==b)=true
     ·exfalso;apply hab
      rw[adK]at ha hb;omega
     ·rw[aeB]at hb;rw[ha,hb];rfl
    ·rw[aeB]at ha;rw[ha];rfl
 rcases hp with hp|hp
 ·obtain⟨rfl,k5⟩:=jN hp k3
  refine⟨_,H,_,by unfold stepG;rw[k5 H];rfl,?_,heq⟩
  unfold stepG
  rw[gG (e':=e) (gy vx),k1];rfl
 ·obtain⟨rfl,k5⟩:=jN hp k1
  refine⟨_,K2,_,by unfold stepG;rw[k3];rfl,?_,heq⟩
  unfold stepG
  rw[gG (e':=e) (gy vx),k5 K2];rfl
theorem EC{x:aL}{b:List aL}:∀(a:List aL) {e:Env} {H:ab},(∀y∈a,(fp x y=true∨fp y x=true)∧(gK x.op=true∨gK y.op=true))→cX rec (a++x::b) e H=some (e2,H2)→
 ∃e1,cX rec (x::(a++b)) e H=some (e1,H2)∧wS e1 e2
 |[],e,H,_,h=>⟨_,h,fun _=>rfl⟩
 |y::a,e,H,hi,h=>by
  rw[adE,cX]at h
  obtain⟨s,h1,h2⟩:=acu.1 h
  obtain⟨e3,h3,h4⟩:=EC a (fun z hz=>hi z (ade _ hz)) h2
  rw[cX]at h3
  obtain⟨s2,h5,h6⟩:=acu.1 h3
  obtain⟨c1,c2⟩:=hi y (ac5 ..)
  obtain⟨f1,K1,f2,g1,g2,g3⟩:=FP (e:=e) (H:=H) c1 c2 (by rw[h1]) (by rw[h5])
  obtain⟨f3,g4,g5⟩:=rN (a++b) g3 h6
  refine⟨f3,?_,fun t=>(g5 t).trans (h4 t)⟩
  rw[cX,g1]
  show cX rec (y::(a++b)) f1 K1=_
  rw[cX,g2]
  exact g4
end
section
variable{rec:Rec}{l:List aL}{bs:List Nat}
def dep(bs:List Nat)(i j:Nat):Prop:=(bs.getD j 0).testBit i=true
theorem cK(l:List aL):∀a b:List Nat,cH l (a++b)=cH l a++cH l b
 |[],b=>rfl
 |i::a,b=>by
  simp only[adE,cH,cK l a b]
  cases l[i]?<;>rfl
theorem fy{i:Nat}{o:aL}{r:List Nat}(h:l[i]?=some o):cH l (i::r)=o::cH l r:=by
 rw[cH,h];rfl
theorem gE{o:aL}:∀{a:List Nat},o∈cH l a→∃i∈a,l[i]?=some o
 |[],h=>by simp[cH]at h
 |i::a,h=>by
  simp only[cH]at h
  cases hl:l[i]? with
  |none=>
   rw[hl]at h
   obtain⟨j,h1,h2⟩:=gE h
   exact⟨j,ade _ h1,h2⟩
  |some o'=>
   rw[hl]at h
   simp only[zu,adj]at h
   rcases h with rfl|h
   ·exact⟨i,ac5 ..,hl⟩
   ·obtain⟨j,h1,h2⟩:=gE h
    exact⟨j,ade _ h1,h2⟩
theorem reduce(hind:∀i j a b,l[i]?=some a→l[j]?=some b→i≠j→dep bs i j∨dep bs j i∨fp a b=true∨fp b a=true) :
 ∀(τ σ:List Nat),(∀i∈τ,i<l.length)→τ.Nodup→τ.Perm σ→τ.Pairwise (fun j i=>¬dep bs i j)→σ.Pairwise (fun j i=>¬dep bs i j)→τ.filter (jc l)=σ.filter (jc l)→
  ∀{e e' e2:Env} {H H2:ab},wS e e'→cX rec (cH l σ) e' H=some (e2,H2)→∃e1,cX rec (cH l τ) e H=some (e1,H2)∧wS e1 e2
 |[],σ,_,_,hp,_,_,_,e,e',e2,H,H2,he,h=>by
  have:σ=[]:=hp.nil_eq.symm
  subst this
  exact rN _ he h
 |x::τ,σ,hlt,hnd,hp,h1,h2,hf,e,e',e2,H,H2,he,h=>by
  have hx:x∈σ:=hp.mem_iff.1 (ac5 ..)
  obtain⟨a,b,rfl⟩:=List.append_of_mem hx
  obtain⟨ox,hox⟩:∃ox,l[x]?=some ox:=⟨_,acK (hlt x (ac5 ..))⟩
  have hnd2:(a++x::b).Nodup:=hp.nodup_iff.1 hnd
  have hxa:x∉a:=by
   intro hxa
   rw[ad8]at hnd2
   exact hnd2.2.2 x hxa x (ac5 ..) rfl
  have hpure:jc l x=true→∀y∈a,jc l y=false:=by
   intro hn y hy
   rw[aeF hn,acO,aeF hn]at hf
   cases ha:a.filter (jc l)with
   |nil=>
    cases hny:jc l y with
    |false=>rfl
    |true=>
     have:y∈a.filter (jc l):=adO.2 ⟨hy,hny⟩
     rw[ha]at this;cases this
   |cons z r=>
    rw[ha]at hf
    simp only[adE,afH]at hf
    have hz:z∈a.filter (jc l):=by rw[ha];exact ac5 ..
    exact absurd (hf.1▸(adO.1 hz).1) hxa
  have hτ:τ.Perm (a++b):=(hp.trans List.perm_middle).cons_inv
  rw[cK,fy hox]at h
  obtain⟨e3,g1,g2⟩:=EC (cH l a) (fun o ho=>by
   obtain⟨y,hy,hoy⟩:=gE ho
   have hne:y≠x:=fun h=>hxa (h▸hy)
   have hyt:y∈τ:=hτ.mem_iff.2 (adW _ hy)
   have q1:¬dep bs y x:=(adx.1 h1).1 y hyt
   have q2:¬dep bs x y:=by
    rw[ad6]at h2
    exact h2.2.2 y hy x (ac5 ..)
   refine⟨?_,?_⟩
   ·rcases hind x y ox o hox hoy (Ne.symm hne)with h|h|h|h
    ·exact absurd h q2
    ·exact absurd h q1
    ·exact .inl h
    ·exact .inr h
   ·cases hnx:jc l x with
    |false=>
     left
     unfold jc at hnx;rw[hox]at hnx;simpa using hnx
    |true=>
     right
     have:=hpure hnx y hy
     unfold jc at this;rw[hoy]at this;simpa using this) h
  rw[←cK]at g1
  rw[fy hox,cX]
  rw[cX]at g1
  obtain⟨s,k1,k2⟩:=acu.1 g1
  obtain⟨e4,k3,k4⟩:=sF he (show stepG rec ox e' H=some (s.1,s.2)from k1)
  have hf2:τ.filter (jc l)=(a++b).filter (jc l):=by
   cases hnx:jc l x with
   |false=>
    rw[List.filter_cons_of_neg (by simp[hnx]),acO,List.filter_cons_of_neg (by simp[hnx]),←acO]at hf
    exact hf
   |true=>
    have ha:a.filter (jc l)=[]:=by
     apply List.filter_eq_nil_iff.2
     intro y hy
     rw[hpure hnx y hy];simp
    rw[aeF hnx,acO,aeF hnx,ha]at hf
    simp only[adu,afH,true_and]at hf
    rw[acO,ha,adu];exact hf
  have hsub:(a++b).Sublist (a++x::b):=List.Sublist.append_left (List.sublist_cons_self x b) a
  obtain⟨e5,k5,k6⟩:=reduce hind τ (a++b) (fun i hi=>hlt i (ade _ hi)) (aee.1 hnd).2 hτ (adx.1 h1).2 (h2.sublist hsub) hf2 k4 k2
  exact⟨e5,by rw[k3];exact k5,fun t=>(k6 t).trans (g2 t)⟩
theorem rU:∀(n:Nat) (rem τ:List Nat),τ.length=n→τ.Perm rem→τ.Nodup→τ.Pairwise (fun j i=>¬dep bs i j)→τ∈mO bs n rem
 |0,rem,τ,hl,_,_,_=>by
  rw[List.length_eq_zero_iff.1 hl];simp[mO]
 |n+1,rem,[],hl,_,_,_=>by simp at hl
 |n+1,rem,m::τ,hl,hp,hnd,hc=>by
  simp only[mO,List.mem_flatMap]
  refine⟨m,hp.mem_iff.1 (ac5 ..),?_⟩
  have hall:rem.all (fun k=>k==m||!(bs.getD m 0).testBit k)=true:=by
   apply acZ.2
   intro k hk
   have hk2:=hp.mem_iff.2 hk
   rcases adj.1 hk2 with rfl|hk3
   ·simp
   ·have:=(adx.1 hc).1 k hk3
    unfold dep at this
    rw[aeB]at this
    rw[this];simp
  rw[hall]
  simp only[acG]
  apply adt.2
  refine⟨τ,rU n (rem.erase m) τ (by simpa using hl) ?_ (aee.1 hnd).2 (adx.1 hc).2,rfl⟩
  have:=hp.erase m
  simpa using this
theorem rG{n:Nat}:∀(τ done:List Nat),qt bs n done τ=true→done.Nodup→(∀i∈done,i<n)→(done.reverse++τ).Nodup∧(∀i∈τ,i<n)∧(done.reverse++τ).length=n∧
 τ.Pairwise (fun j i=>¬((i<n)∧dep bs i j))
 |[],done,h,hnd,hlt=>by
  simp only[qt,acr]at h
  exact⟨by simpa using(List.reverse_perm done).nodup_iff.2 hnd,by simp,by simpa using h,List.Pairwise.nil⟩
 |i::r,done,h,hnd,hlt=>by
  simp only[qt,acw,acr,ac8]at h
  obtain⟨⟨⟨h1,h2⟩,h3⟩,h4⟩:=h
  have h2':i∉done:=by simpa using h2
  obtain⟨g1,g2,g3,g4⟩:=rG r (i::done) h4 (aee.2 ⟨h2',hnd⟩) (fun j hj=>by
   rcases adj.1 hj with rfl|hj
   ·exact h1
   ·exact hlt j hj)
  rw[afq,aco]at g1 g3
  refine⟨g1,fun j hj=>?_,g3,adx.2 ⟨fun j hj hd=>?_,g4⟩⟩
  ·rcases adj.1 hj with rfl|hj
   ·exact h1
   ·exact g2 j hj
  ·have h5:=acZ.1 h3 j (ac2.2 hd.1)
   have hdj:(bs.getD i 0).testBit j=true:=hd.2
   rw[hdj]at h5
   simp only[adp,ad0,List.contains_eq_mem,acr]at h5
   rw[ad8]at g1
   exact g1.2.2 j (List.mem_reverse.2 h5) j (by simp[hj]) rfl
end
section
variable{rec:Rec}
theorem xf{o:aL}{e e1:Env}{H H1:ab}(h:stepG rec o e H=some (e1,H1)){t:Nat}(ht:o.dst≠some t):get e1 t=get e t:=by
 unfold stepG at h
 obtain⟨r,h1,h2⟩:=acq.1 h
 cases h2
 exact iO (fun x hx hxt=>ht (hxt▸hx))
theorem fX:∀(l:List aL) {e e1:Env} {H H1:ab},cX rec l e H=some (e1,H1)→∀t,(∀o∈l,o.dst≠some t)→get e1 t=get e t
 |[],e,e1,H,H1,h,t,_=>by simp only[cX,acN,acY]at h;rw[h.1]
 |o::l,e,e1,H,H1,h,t,ht=>by
  rw[cX]at h
  obtain⟨s,h1,h2⟩:=acu.1 h
  rw[fX l h2 t (fun o' ho=>ht o' (ade _ ho)),xf (show stepG rec o e H=some (s.1,s.2)from h1) (ht o (ac5 ..))]
theorem na:∀(l:List aL) (e e0:Env) (t:Nat),get (eZ l e e0) t=get e t∨((∀o∈l,o.dst≠some t)∧get (eZ l e e0) t=get e0 t)
 |[],e,e0,t=>.inr ⟨by simp,rfl⟩
 |⟨some d,op,g⟩::l,e,e0,t=>by
  simp only[eZ,get]
  by_cases h:t=d
  ·subst h
   left;simp
  ·have hb:(t==d)=false:=by simpa using h
   rw[hb]
   simp only[acJ]
   rcases na l e e0 t with h1|⟨h1,h2⟩
   ·exact .inl h1
   ·refine .inr ⟨fun o ho=>?_,h2⟩
    rcases adj.1 ho with rfl|ho
    ·simp only[ne_eq,acN];exact fun h'=>h h'.symm
    ·exact h1 o ho
 |⟨none,op,g⟩::l,e,e0,t=>by
  simp only[eZ]
  rcases na l e e0 t with h1|⟨h1,h2⟩
  ·exact .inl h1
  ·refine .inr ⟨fun o ho=>?_,h2⟩
   rcases adj.1 ho with rfl|ho
   ·simp
   ·exact h1 o ho
theorem qZ{l:List aL}{σ:List Nat}{e e1:Env}{H H1:ab}(h:cX rec (cH l σ) e H=some (e1,H1)):wS (eZ l e1 e) e1:=by
 intro t
 rcases na l e1 e t with h1|⟨h1,h2⟩
 ·exact h1
 ·rw[h2]
  exact(fX _ h t (fun o ho=>by
   obtain⟨i,_,hi⟩:=gE ho
   exact h1 o (acy hi))).symm
theorem tU{A:Type}:∀(l:List (Option A)) {s:A},jq l=some s→∀x∈l,x=some s
 |[],s,h=>by simp[jq]at h
 |[a],s,h=>by intro x hx;simp only[adH]at hx;subst hx;exact h
 |a::b::r,s,h=>by
  rw[jq]at h
  split at h
  ·rename_i hab
   intro x hx
   have ih:=tU (b::r) h
   rcases adj.1 hx with rfl|hx
   ·rw[hab];exact ih b (ac5 ..)
   ·exact ih x hx
  ·cases h
end
theorem cN:∀(a b:List Nat),a.Nodup→(∀x∈a,x∈b)→a.length≤b.length
 |[],b,_,_=>aei _
 |x::a,b,hn,hs=>by
  have hx:=hs x (ac5 ..)
  have h1:=cN a (b.erase x) (aee.1 hn).2 (fun y hy=>(List.mem_erase_of_ne (fun h:y=x=>(aee.1 hn).1 (by rw[←h];exact hy))).2 (hs y (ade _ hy)))
  rw[List.length_erase_of_mem hx]at h1
  have:=List.length_pos_of_mem hx
  simp only[acR]
  omega
theorem mQ:∀(a b:List Nat),a.Nodup→(∀x∈a,x∈b)→a.length=b.length→a.Perm b
 |[],b,_,_,hl=>by rw[List.length_eq_zero_iff.1 hl.symm]
 |x::a,b,hn,hs,hl=>by
  have hx:=hs x (ac5 ..)
  have:=List.length_pos_of_mem hx
  have h1:=mQ a (b.erase x) (aee.1 hn).2 (fun y hy=>(List.mem_erase_of_ne (fun h:y=x=>(aee.1 hn).1 (by rw[←h];exact hy))).2 (hs y (ade _ hy))) (by
   rw[List.length_erase_of_mem hx];simp only[acR]at hl;omega)
  exact(h1.cons x).trans (List.perm_cons_erase hx).symm
section
variable{rec:Rec}{l:List aL}{bs:List Nat}{e:Env}{H:ab}
theorem yZ{o:aL}{e:Env}{H H':ab}{v:SV}(hp:G5 o.op=true)(h:gV rec o e H=some (v,H')):H'=H:=by
 have key:au rec e H o.op=some (v,H')→H'=H:=by
  intro h
  cases ed:o.op<;>rw[ed]at hp h<;>try (exfalso;simp only[G5,adh]at hp;done)
  all_goals simp only[au,cb]at h
  all_goals first
   |(obtain⟨_,_,h2⟩:=acq.1 h;cases h2;rfl)
   |(replace h:=(aj h).2;obtain⟨_,_,h2⟩:=acq.1 h;cases h2;rfl)
   |(replace h:=(aj h).2;obtain⟨_,_,h2⟩:=acu.1 h;obtain⟨_,_,h3⟩:=acq.1 h2;cases h3;rfl)
 unfold gV at h
 split at h
 ·exact key h
 ·rename_i t w hg
  split at h
  ·rename_i b hb
   cases hbw:(b==w)with
   |true=>rw[hbw]at h;exact key h
   |false=>rw[hbw]at h;cases h;rfl
  ·cases h;rfl
  ·cases h
theorem mr(p:Nat→Bool)(n:Nat):((List.range n).filter p).Pairwise (· < ·):=List.Pairwise.filter _ List.pairwise_lt_range
def dQ(W a:List Nat):Nat:=(a.filter W.contains).length
theorem nv(W a b:List Nat):dQ W (a++b)=dQ W a+dQ W b:=by simp[dQ]
section
variable{W:List Nat}(hsort:W.Pairwise (· < ·))(hchain:∀w∈W,∀w'∈W,w<w'→dep bs w w')
include hsort hchain
theorem dE{p q x y:Nat}(hx:W[p]?=some x)(hy:W[q]?=some y)(h:p<q):x<y:=by
 obtain⟨h1,rfl⟩:=acm.1 hx
 obtain⟨h2,rfl⟩:=acm.1 hy
 exact aeP.1 hsort p q h1 h2 h
theorem nO{a b:List Nat}(hnd:(a++b).Nodup)(hall:∀w∈W,w∈a++b)(hp:(a++b).Pairwise (fun j i=>¬dep bs i j)){w:Nat}(hw:w∈W):w∈a↔w∈W.take (dQ W a):=by
 have hnd1:=(ad8.1 hnd).1
 have clo:∀w∈W,∀w'∈W,w'<w→w∈a→w'∈a:=by
  intro w hw w' hw' hlt ha
  rcases ady.1 (hall w' hw')with h|h
  ·exact h
  ·exact absurd (hchain w' hw' w hw hlt) ((ad6.1 hp).2.2 w ha w' h)
 obtain⟨p,hpw⟩:=ac4 hw
 have hpl:=(acm.1 hpw).1
 constructor
 ·intro ha
  have hsub:∀x∈W.take (p+1),x∈a.filter W.contains:=by
   intro x hx
   obtain⟨q,hq⟩:=ac4 hx
   rw[acX]at hq
   split at hq
   ·rename_i hlt
    have hxW:=acy hq
    refine adO.2 ⟨?_,by simpa using hxW⟩
    rcases acz q p with h|h
    ·exact clo w hw x hxW (dE hsort hchain hq hpw h) ha
    ·obtain rfl:q=p:=by omega
     rw[hpw]at hq;cases hq;exact ha
   ·cases hq
  have h1:=cN (W.take (p+1)) (a.filter W.contains) ((hsort.imp (fun h=>ael h)).sublist (List.take_sublist _ _)) hsub
  rw[adA]at h1
  have:p<dQ W a:=by unfold dQ;omega
  refine acy (i:=p) ?_
  rw[acX,if_pos this,hpw]
 ·intro ht
  obtain⟨q,hq⟩:=ac4 ht
  rw[acX]at hq
  split at hq
  ·rename_i hlt
   have hqp:q=p:=by
    rcases ad7 q p with h|h|h
    ·exact absurd (dE hsort hchain hq hpw h) (aeL _)
    ·exact h
    ·exact absurd (dE hsort hchain hpw hq h) (aeL _)
   subst hqp
   apply aef
   intro hna
   have hsub:∀x∈a.filter W.contains,x∈W.take q:=by
    intro x hx
    obtain⟨hxa,hxW⟩:=adO.1 hx
    have hxW:x∈W:=by simpa using hxW
    obtain⟨r,hr⟩:=ac4 hxW
    have hrq:r<q:=by
     rcases ad7 r q with h|h|h
     ·exact h
     ·subst h;rw[hr]at hq;cases hq;exact absurd hxa hna
     ·exact absurd (clo x hxW w hw (dE hsort hchain hpw hr h) hxa) hna
    refine acy (i:=r) ?_
    rw[acX,if_pos hrq,hr]
   have h1:=cN (a.filter W.contains) (W.take q) (hnd1.filter _) hsub
   rw[adA]at h1
   unfold dQ at hlt
   omega
  ·cases hq
theorem xT{a b:List Nat}{i:Nat}(hnd:(a++i::b).Nodup)(hall:∀w∈W,w∈a++i::b)(hp:(a++i::b).Pairwise (fun j i=>¬dep bs i j))(hi:i∈W):W[dQ W a]?=some i:=by
 obtain⟨p,hpw⟩:=ac4 hi
 have hpl:=(acm.1 hpw).1
 have hia:i∉a:=fun h=>(ad8.1 hnd).2.2 i h i (ac5 ..) rfl
 have h1:¬p<dQ W a:=fun h=>hia ((nO hsort hchain hnd hall hp hi).2 (acy (i:=p) (by rw[acX,if_pos h,hpw])))
 rcases acz (dQ W a) p with h|h
 ·obtain⟨w,hw⟩:∃w,W[dQ W a]?=some w:=⟨_,acK (by omega)⟩
  have hwW:=acy hw
  have hd:=hchain w hwW i hi (dE hsort hchain hw hpw h)
  have hwa:w∈a:=by
   rcases ady.1 (hall w hwW)with h2|h2
   ·exact h2
   ·rcases adj.1 h2 with rfl|h2
    ·exact absurd (dE hsort hchain hw hpw h) (aeL _)
    ·have:=(ad6.1 hp).2.1
     exact absurd hd ((adx.1 this).1 w h2)
  have h3:=(nO hsort hchain hnd hall hp hwW).1 hwa
  obtain⟨q,hq⟩:=ac4 h3
  rw[acX]at hq
  split at hq
  ·rename_i hlt
   exact absurd (dE hsort hchain hq hw hlt) (aeL _)
  ·cases hq
 ·rw[show dQ W a=p by omega];exact hpw
end
def kf(rec:Rec)(l:List aL)(W:List Nat)(S:Env)(H:ab):Nat→ab
 |0=>H
 |j+1=>match(W[j]?).bind (l[·]?)with
  |some o=>match gV rec o S (kf rec l W S H j)with
   |some r=>r.2
   |none=>kf rec l W S H j
  |none=>kf rec l W S H j
theorem yv{os:List (List Nat)}{W:List Nat}(hW:W=Hj l)
 (hdst:∀(i k:Nat) (a b:aL) (d:Nat),l[k]?=some a→l[i]?=some b→k≤i→b.dst=some d→d∉bW a∧(k≠i→a.dst≠some d))
 (hind:∀i j a b,i<j→l[i]?=some a→l[j]?=some b→dep bs i j∨fp a b=true)
 (hchain:∀w∈W,∀w'∈W,w<w'→dep bs w w') (hne:os≠[])
 (hst:∀r o j,l[r]?=some o→G5 o.op=true→j≤W.length→(∀w∈W.take j,¬dep bs r w)→(∀w∈W.drop j,¬dep bs w r)→∃σ∈os,ui W σ r=j)
 (hlin:∀σ∈os,σ.Nodup∧(∀i∈σ,i<l.length)∧σ.length=l.length∧σ.Pairwise (fun j i=>¬dep bs i j))
 {S:Env} {H2:ab} (hrun:∀σ∈os,∃e2,cX rec (cH l σ) e H=some (e2,H2)∧wS S e2) :
 ∀τ:List Nat,τ.Nodup→(∀i∈τ,i<l.length)→τ.length=l.length→τ.Pairwise (fun j i=>¬dep bs i j)→∃e1,cX rec (cH l τ) e H=some (e1,H2)∧wS S e1:=by
 have hsort:W.Pairwise (· < ·):=by rw[hW];exact mr _ _
 have hWl:∀w∈W,w<l.length:=fun w hw=>by rw[hW]at hw;exact ac2.1 (adO.1 hw).1
 have hfull:∀τ:List Nat,τ.Nodup→(∀i∈τ,i<l.length)→τ.length=l.length→∀i,i<l.length→i∈τ:=by
  intro τ h1 h2 h3 i hi
  exact(mQ τ (List.range l.length) h1 (fun j hj=>ac2.2 (h2 j hj)) (by simp[h3])).mem_iff.2 (ac2.2 hi)
 have hkind:∀(i:Nat) (o:aL),l[i]?=some o→gK o.op=true∨G5 o.op=true∨i∈W:=by
  intro i o ho
  cases h1:gK o.op with
  |true=>exact .inl rfl
  |false=>
   cases h2:G5 o.op with
   |true=>exact .inr (.inl rfl)
   |false=>
    refine .inr (.inr ?_)
    rw[hW]
    refine adO.2 ⟨ac2.2 (acm.1 ho).1,?_⟩
    rw[ho];simp[h1,h2]
 have hWno:∀(i:Nat) (o:aL),l[i]?=some o→i∈W→gK o.op=false∧G5 o.op=false:=by
  intro i o ho hi
  rw[hW]at hi
  have:=(adO.1 hi).2
  rw[ho]at this
  simpa using this
 have hdep:∀(i k:Nat) (a b:aL) (d:Nat),l[k]?=some a→l[i]?=some b→a.dst=some d→d∈bW b→dep bs k i:=by
  intro i k a b d ha hb hd ht
  rcases acz k i with h|h
  ·rcases hind k i a b h ha hb with h2|h2
   ·exact h2
   ·exact absurd ht ((mU h2).1 d hd).1
  ·exact absurd ht (hdst k i b a d hb ha h hd).1
 have hS:∀t,(∀(i:Nat) (o:aL),l[i]?=some o→o.dst≠some t)→get S t=get e t:=by
  intro t ht
  obtain⟨σ,hσ⟩:=aeQ os hne
  obtain⟨e2,h1,h2⟩:=hrun σ hσ
  rw[h2 t]
  exact fX _ h1 t (fun o ho=>by obtain⟨i,_,hi⟩:=gE ho;exact ht i o hi)
 have hin:∀(a b:List Nat) (i:Nat) (o:aL) (ea:Env) (Ha:ab),(∀k,k<l.length→k∈a++i::b)→(a++i::b).Pairwise (fun j i=>¬dep bs i j)→l[i]?=some o→cX rec (cH l a) e H=some (ea,Ha)→
  (∀k∈a,∀(ok:aL) (d:Nat),l[k]?=some ok→ok.dst=some d→get ea d=get S d)→∀hh,gV rec o ea hh=gV rec o S hh:=by
  intro a b i o ea Ha hall hp ho hra hva hh
  refine gG (fun t ht=>?_)
  by_cases hx:∃(k:Nat) (ok:aL),l[k]?=some ok∧ok.dst=some t
  ·obtain⟨k,ok,hk,hkd⟩:=hx
   have hd:=hdep i k ok o t hk ho hkd ht
   rcases ady.1 (hall k (acm.1 hk).1)with h|h
   ·exact hva k h ok t hk hkd
   ·rcases adj.1 h with rfl|h
    ·exact absurd ht (hdst k k o ok t ho hk (acH _) hkd).1
    ·have:=(ad6.1 hp).2.1
     exact absurd hd ((adx.1 this).1 k h)
  ·have h1:∀(j:Nat) (oj:aL),l[j]?=some oj→oj.dst≠some t:=fun j oj hj hjd=>hx ⟨j,oj,hj,hjd⟩
   rw[hS t h1]
   exact fX _ hra t (fun o' ho'=>by obtain⟨j,_,hj⟩:=gE ho';exact h1 j o' hj)
 have hval:∀σ∈os,∀a b ea Ha,σ=a++b→cX rec (cH l a) e H=some (ea,Ha)→∀k∈a,∀(ok:aL) (d:Nat),l[k]?=some ok→ok.dst=some d→get ea d=get S d:=by
  intro σ hσ a b ea Ha hab hra k hk ok d hok hd
  obtain⟨e2,h1,h2⟩:=hrun σ hσ
  rw[hab,cK,dx,hra]at h1
  simp only[adq]at h1
  rw[h2 d,fX _ h1 d (fun o ho hod=>?_)]
  obtain⟨j,hj,hoj⟩:=gE ho
  have hnd:=(hlin σ hσ).1
  rw[hab]at hnd
  have hne:k≠j:=fun h=>(ad8.1 hnd).2.2 k hk j hj h
  rcases acz k j with h|h
  ·exact(hdst j k ok o d hok hoj (Nat.le_of_lt h) hod).2 hne hd
  ·exact(hdst k j o ok d hoj hok h hd).2 (Ne.symm hne) hod
 have hmemW:∀σ∈os,∀w∈W,w∈σ:=fun σ hσ w hw=>hfull σ (hlin σ hσ).1 (hlin σ hσ).2.1 (hlin σ hσ).2.2.1 w (hWl w hw)
 have hheap:∀σ∈os,∀(n:Nat) (a b:List Nat) ea Ha,a.length=n→σ=a++b→cX rec (cH l a) e H=some (ea,Ha)→Ha=kf rec l W S H (dQ W a):=by
  intro σ hσ n
  induction n with
  |zero=>
   intro a b ea Ha hn hab hra
   cases adR hn
   simp only[cH,cX,acN,acY]at hra
   rw[←hra.2];rfl
  |succ n ih=>
   intro a' b ea Ha hn hab hra
   obtain⟨a,i,rfl⟩:∃a i,a'=a++[i]:=by
    rcases afz a' with rfl|⟨a,i,h⟩
    ·cases hn
    ·exact⟨a,i,by simpa using h⟩
   have hn':a.length=n:=by simpa using hn
   have hil:i<l.length:=(hlin σ hσ).2.1 i (by rw[hab];simp)
   obtain⟨o,ho⟩:∃o,l[i]?=some o:=⟨_,acK hil⟩
   rw[cK,dx]at hra
   obtain⟨⟨e3,H3⟩,h3,h4⟩:=acu.1 hra
   rw[fy ho,cX]at h4
   obtain⟨⟨e5,H5⟩,h5,h6⟩:=acu.1 h4
   simp only[cH,cX,acN,acY]at h6
   obtain⟨rfl,rfl⟩:=h6
   have hab2:σ=a++i::b:=by rw[hab];simp
   have hH3:=ih a (i::b) e3 H3 hn' hab2 h3
   unfold stepG at h5
   obtain⟨⟨v,H6⟩,h7,h8⟩:=acq.1 h5
   simp only[acY]at h8
   obtain⟨_,rfl⟩:=h8
   rw[nv]
   rcases hkind i o ho with hk|hk|hk
   ·have hnW:i∉W:=fun h=>by rw[(hWno i o ho h).1]at hk;cases hk
    have:dQ W [i]=0:=by simp[dQ,hnW]
    rw[this,(jN hk h7).1]
    exact hH3
   ·have hnW:i∉W:=fun h=>by rw[(hWno i o ho h).2]at hk;cases hk
    have:dQ W [i]=0:=by simp[dQ,hnW]
    rw[this,yZ hk h7]
    exact hH3
   ·have h1:dQ W [i]=1:=by simp[dQ,hk]
    have hnx:=xT hsort hchain (a:=a) (b:=b) (i:=i) (by rw[←hab2];exact(hlin σ hσ).1) (fun w hw=>by rw[←hab2];exact hmemW σ hσ w hw) (by rw[←hab2];exact(hlin σ hσ).2.2.2) hk
    have hag:=hin a b i o e3 H3 (fun k hk=>by rw[←hab2];exact hfull σ (hlin σ hσ).1 (hlin σ hσ).2.1 (hlin σ hσ).2.2.1 k hk) (by rw[←hab2];exact(hlin σ hσ).2.2.2) ho h3 (hval σ hσ a (i::b) e3 H3 hab2 h3) H3
    rw[hag,hH3]at h7
    rw[h1]
    show H6=kf rec l W S H (dQ W a+1)
    unfold kf
    rw[hnx]
    simp only[adq,ho,h7]
 have hH2:H2=kf rec l W S H W.length:=by
  obtain⟨σ,hσ⟩:=aeQ os hne
  obtain⟨e2,h1,_⟩:=hrun σ hσ
  have:=hheap σ hσ σ.length σ [] e2 H2 rfl (by simp) h1
  rw[this]
  congr 1
  have h3:=cN W (σ.filter W.contains) (hsort.imp (fun h=>ael h)) (fun w hw=>adO.2 ⟨hmemW σ hσ w hw,by simpa using hw⟩)
  have h4:=cN (σ.filter W.contains) W ((hlin σ hσ).1.filter _) (fun w hw=>by simpa using(adO.1 hw).2)
  unfold dQ
  omega
 intro τ t1 t2 t3 t4
 have tall:=hfull τ t1 t2 t3
 have main:∀(n:Nat) (a b:List Nat),a.length=n→τ=a++b→∃ea,cX rec (cH l a) e H=some (ea,kf rec l W S H (dQ W a))∧∀k∈a,∀(ok:aL) (d:Nat),l[k]?=some ok→ok.dst=some d→get ea d=get S d:=by
  intro n
  induction n with
  |zero=>
   intro a b hn hab
   cases adR hn
   exact⟨e,rfl,fun k hk=>by cases hk⟩
  |succ n ih=>
   intro a' b hn hab
   obtain⟨a,i,rfl⟩:∃a i,a'=a++[i]:=by
    rcases afz a' with rfl|⟨a,i,h⟩
    ·cases hn
    ·exact⟨a,i,by simpa using h⟩
   have hn':a.length=n:=by simpa using hn
   have hab2:τ=a++i::b:=by rw[hab];simp
   have hil:i<l.length:=t2 i (by rw[hab];simp)
   have hp2:(a++i::b).Pairwise (fun j i=>¬dep bs i j):=by rw[←hab2];exact t4
   have hn2:(a++i::b).Nodup:=by rw[←hab2];exact t1
   obtain⟨o,ho⟩:∃o,l[i]?=some o:=⟨_,acK hil⟩
   obtain⟨ea,h1,h2⟩:=ih a (i::b) hn' hab2
   have hag:=hin a b i o ea _ (fun k hk=>by rw[←hab2];exact tall k hk) (by rw[←hab2];exact t4) ho h1 h2
   have hobs:∀σ∈os,∃a1 b1 v,σ=a1++i::b1∧gV rec o S (kf rec l W S H (dQ W a1))=some (v,kf rec l W S H (dQ W (a1++[i])))∧∀d,o.dst=some d→v=get S d:=by
    intro σ hσ
    obtain⟨q1,q2,q3,q4⟩:=hlin σ hσ
    obtain⟨a1,b1,hs⟩:=List.append_of_mem (hfull σ q1 q2 q3 i hil)
    obtain⟨e2,r1,r2⟩:=hrun σ hσ
    rw[hs,cK,dx]at r1
    obtain⟨⟨e3,H3⟩,r3,r4⟩:=acu.1 r1
    rw[fy ho,cX]at r4
    obtain⟨⟨e5,H5⟩,r5,r6⟩:=acu.1 r4
    have hH3:=hheap σ hσ _ a1 (i::b1) e3 H3 rfl hs r3
    have hr:cX rec (cH l (a1++[i])) e H=some (e5,H5):=by
     rw[cK,dx,r3]
     show cX rec (cH l [i]) e3 H3=_
     rw[fy ho,cX,r5];rfl
    have hH5:=hheap σ hσ _ (a1++[i]) b1 e5 H5 rfl (by rw[hs];simp) hr
    have hv5:=hval σ hσ (a1++[i]) b1 e5 H5 (by rw[hs];simp) hr i (by simp)
    have hag1:=hin a1 b1 i o e3 H3 (fun k hk=>by rw[←hs];exact hfull σ q1 q2 q3 k hk) (by rw[←hs];exact q4) ho r3 (hval σ hσ a1 (i::b1) e3 H3 hs r3) H3
    unfold stepG at r5
    obtain⟨⟨v,H6⟩,r7,r8⟩:=acq.1 r5
    simp only[acY]at r8
    obtain⟨r9,rfl⟩:=r8
    rw[hag1,hH3]at r7
    refine⟨a1,b1,v,hs,by rw[←hH5];exact r7,fun d hd=>?_⟩
    rw[←hv5 o d ho hd,←r9,hd]
    simp[cf,get]
   have hstep:∃v,gV rec o S (kf rec l W S H (dQ W a))=some (v,kf rec l W S H (dQ W (a++[i])))∧∀d,o.dst=some d→v=get S d:=by
    rcases hkind i o ho with hk|hk|hk
    ·obtain⟨σ,hσ⟩:=aeQ os hne
     obtain⟨a1,b1,v,hs,r1,r2⟩:=hobs σ hσ
     have hnW:i∉W:=fun h=>by rw[(hWno i o ho h).1]at hk;cases hk
     have:dQ W [i]=0:=by simp[dQ,hnW]
     refine⟨v,?_,r2⟩
     rw[nv,this]
     exact(jN hk r1).2 _
    ·have hnW:i∉W:=fun h=>by rw[(hWno i o ho h).2]at hk;cases hk
     have hc0:dQ W [i]=0:=by simp[dQ,hnW]
     have hwall:∀w∈W,w∈a++i::b:=fun w hw=>by rw[←hab2];exact tall w (hWl w hw)
     have hle:dQ W a≤W.length:=cN (a.filter W.contains) W ((ad8.1 hn2).1.filter _) (fun w hw=>by simpa using(adO.1 hw).2)
     obtain⟨σ,hσ,hstg⟩:=hst i o (dQ W a) ho hk hle
      (fun w hw hd=>by
       have hwW:=afa hw
       have hwa:=(nO hsort hchain hn2 hwall hp2 hwW).2 hw
       exact(ad6.1 hp2).2.2 w hwa i (ac5 ..) hd)
      (fun w hw hd=>by
       have hwW:=afE hw
       have hwna:w∉a:=fun hwa=>by
        have h3:=(nO hsort hchain hn2 hwall hp2 hwW).1 hwa
        obtain⟨p,hp⟩:=ac4 h3
        obtain⟨q,hq⟩:=ac4 hw
        rw[acX]at hp
        split at hp
        ·rw[ado]at hq
         exact absurd (dE hsort hchain hp hq (by omega)) (aeL _)
        ·cases hp
       rcases ady.1 (hwall w hwW)with h3|h3
       ·exact hwna h3
       ·rcases adj.1 h3 with rfl|h3
        ·exact hnW hwW
        ·have:=(ad6.1 hp2).2.1
         exact(adx.1 this).1 w h3 hd)
     obtain⟨a1,b1,v,hs,r1,r2⟩:=hobs σ hσ
     have hst1:ui W σ i=dQ W a1:=by
      have hnd:=(hlin σ hσ).1
      rw[hs]at hnd⊢
      unfold ui dQ
      have:(a1++i::b1).takeWhile (fun x=>x != i)=a1:=by
       have h3:∀x∈a1,(x != i)=true:=fun x hx=>by
        have:=(ad8.1 hnd).2.2 x hx i (ac5 ..)
        simpa using this
       rw[List.takeWhile_append_of_pos h3,List.takeWhile_cons_of_neg (by simp)]
       simp
      rw[this]
     rw[hst1]at hstg
     refine⟨v,?_,r2⟩
     rw[nv,hc0]at r1⊢
     rw[hstg]at r1
     exact r1
    ·obtain⟨σ,hσ⟩:=aeQ os hne
     obtain⟨a1,b1,v,hs,r1,r2⟩:=hobs σ hσ
     obtain⟨q1,q2,q3,q4⟩:=hlin σ hσ
     have n1:=xT hsort hchain (a:=a) (b:=b) (i:=i) hn2 (fun w hw=>by rw[←hab2];exact tall w (hWl w hw)) hp2 hk
     have n2:=xT hsort hchain (a:=a1) (b:=b1) (i:=i) (hs▸q1) (fun w hw=>by rw[←hs];exact hmemW σ hσ w hw) (hs▸q4) hk
     have:dQ W a=dQ W a1:=by
      rcases ad7 (dQ W a) (dQ W a1)with h|h|h
      ·exact absurd (dE hsort hchain n1 n2 h) (aeL _)
      ·exact h
      ·exact absurd (dE hsort hchain n2 n1 h) (aeL _)
     refine⟨v,?_,r2⟩
     rw[nv]at r1⊢
     rw[this];exact r1
   obtain⟨v,s1,s2⟩:=hstep
   refine⟨cf ea o.dst v,?_,?_⟩
   ·rw[cK,dx,h1]
    show cX rec (cH l [i]) ea _=_
    rw[fy ho,cX]
    unfold stepG
    rw[hag,s1]
    rfl
   ·intro k hk ok d hok hd
    rcases ady.1 hk with hk|hk
    ·have hki:k≠i:=fun h=>(ad8.1 hn2).2.2 k hk i (ac5 ..) h
     have hod:o.dst≠some d:=by
      rcases acz k i with h|h
      ·exact fun hod=>(hdst i k ok o d hok ho (Nat.le_of_lt h) hod).2 hki hd
      ·exact fun hod=>(hdst k i o ok d ho hok h hd).2 (Ne.symm hki) hod
     rw[iO (fun x hx hxd=>hod (by rw[hx,hxd]))]
     exact h2 k hk ok d hok hd
    ·simp only[adH]at hk
     subst hk
     rw[ho]at hok;cases hok
     rw[hd]
     simp only[cf,get,adL,acG]
     exact s2 d hd
 obtain⟨e1,h1,h2⟩:=main τ.length τ [] rfl (by simp)
 refine⟨e1,?_,fun t=>?_⟩
 ·rw[h1,hH2]
  congr 3
  have h3:=cN W (τ.filter W.contains) (hsort.imp (fun h=>ael h)) (fun w hw=>adO.2 ⟨tall w (hWl w hw),by simpa using hw⟩)
  have h4:=cN (τ.filter W.contains) W (t1.filter _) (fun w hw=>by simpa using(adO.1 hw).2)
  unfold dQ
  omega
 ·by_cases hx:∃(k:Nat) (ok:aL),l[k]?=some ok∧ok.dst=some t
  ·obtain⟨k,ok,hk,hkd⟩:=hx
   exact(h2 k (tall k (acm.1 hk).1) ok t hk hkd).symm
  ·have h3:∀(j:Nat) (oj:aL),l[j]?=some oj→oj.dst≠some t:=fun j oj hj hjd=>hx ⟨j,oj,hj,hjd⟩
   rw[hS t h3]
   exact(fX _ h1 t (fun o' ho'=>by obtain⟨j,_,hj⟩:=gE ho';exact h3 j o' hj)).symm
end
section
variable{C:Ctx}{rec:Rec}{f:FuncId}{nt:Nat}{ops:Array Oper}{B:kp}
theorem Rel.eqv{e e':Env}{H:ab}{a:Act}{w:World}(h:Rel C nt B e H a w)(he:wS e' e):Rel C nt B e' H a w:=by
 obtain⟨ρ,F,h1,h2,h3,h4,h5⟩:=h
 exact⟨ρ,F,h1,fun t=>by rw[he t];exact h2 t,h3,h4,h5⟩
theorem DG(hrec:fW C rec){i:Nat}{op:Oper}{o:aL}{e e1:Env}{H H1:ab}{a:Act}{w:World}{ro:Option Nat}{n:Nat}{Q:Exit→Act→World→Prop}{K:Act→World→Prop}
 (hi:ops[i]?=some op) (hco:iX C.P C.dL f nt ops op=some o) (hs:stepG rec o e H=some (e1,H1)) (hrel:Rel C nt B e H a w) (hK:∀a' w',Rel C nt B e1 H1 a' w'→K a' w') :
 wpOpIn (WF ro) n C.P ops Q i K a w:=by
 unfold wpOpIn
 simp only[hi]
 unfold iX at hco
 replace hco:=fa hco
 obtain⟨hdst,hco⟩:=hco
 have hd:∀d,op.dst=some d→d<nt:=fun d hd=>by
  rw[hd]at hdst;simpa using hdst
 obtain⟨ρ,F,hr,he,hput⟩:=hrel.step (P:=fun _ _=>True)
 unfold stepG gV at hs
 have hgo:∀op1,op1=wh (lk C.dL f op.dst) ((oW C.P op.op).getD .bad)→(au rec e H op1).map (fun r=>(cf e op.dst r.1,r.2))=some (e1,H1)→op.wpIn (WF ro) n C.P a w K Q:=by
  intro op1 ed h
  obtain⟨⟨s,H'⟩,h1,h2⟩:=acq.1 h
  simp only[acY]at h2
  obtain⟨rfl,rfl⟩:=h2
  exact jz hrec ed h1 hr he (fun val w' hdn=>hK _ _ (hput op.dst s H' val w' hd hdn))
 split at hco
 ·rename_i hg
  cases hco
  have hw:Region.wanted op (yielded ops a.tmps)=true:=by simp[Region.wanted,hg]
  rw[hw,if_pos rfl]
  exact hgo _ rfl hs
 ·rename_i j' want hg
  split at hco
  ·rename_i t ht
   cases hco
   simp only at hs
   split at hs
   ·rename_i b hb
    have htv:a.tmps.getD t undef=.bool b:=by
     have:=he t
     rw[hb]at this
     exact eQ this
    have hy:yielded ops a.tmps j'=some b:=by
     simp only[yielded,ht,adq,l7 htv]
    cases hbw:(b==want)with
    |true=>
     rw[hbw]at hs
     have hw:Region.wanted op (yielded ops a.tmps)=true:=by
      simp only[Region.wanted,hg,hy];simpa using hbw
     rw[hw,if_pos rfl]
     exact hgo _ rfl hs
    |false=>
     rw[hbw]at hs
     have hw:¬Region.wanted op (yielded ops a.tmps)=true:=by
      simp only[Region.wanted,hg,hy];simpa using hbw
     rw[if_neg hw]
     simp only[acJ,adm,acN,acY]at hs
     obtain⟨rfl,rfl⟩:=hs
     exact⟨fun _ _=>trivial,hK _ _ (hput op.dst .jy H undef w hd (dJ.same hr .jy))⟩
   ·rename_i hb
    have htv:a.tmps.getD t undef=undef:=by
     have:=he t
     rw[hb]at this
     exact y9 this
    have hy:yielded ops a.tmps j'=none:=pF ht htv
    have hw:¬Region.wanted op (yielded ops a.tmps)=true:=by
     simp only[Region.wanted,hg,hy];simp
    rw[if_neg hw]
    simp only[adm,acN,acY]at hs
    obtain⟨rfl,rfl⟩:=hs
    exact⟨fun _ _=>trivial,hK _ _ (hput op.dst .jy H undef w hd (dJ.same hr .jy))⟩
   ·cases hs
  ·cases hco
theorem Gx(hmix:C.P.follows .mixedOrders=true)(hrec:fW C rec){id:Nat}{c:ct}(hc:Dl C.P C.dL f nt ops=some c):gS C rec nt (.region id ops true) c:=by
 unfold Dl at hc
 split at hc
 ·cases hc
 rename_i l hl
 obtain⟨bs,hbs⟩:∃bs,bK ops.toList=bs:=⟨_,rfl⟩
 rw[hbs]at hc
 obtain⟨os,rfl,hos⟩:∃os,c=.perm l os∧(xm bs ops.toList l os=true∨uK bs ops.toList l os=true):=by
  cases hf:xm bs ops.toList l (vd bs l)with
  |true=>rw[hf]at hc;cases hc;exact⟨_,rfl,.inl hf⟩
  |false=>
   rw[hf]at hc
   simp only[acJ]at hc
   replace hc:=aj hc
   obtain⟨hok,hc⟩:=hc
   cases hc
   exact⟨_,rfl,.inr hok⟩
 intro ro n Bs Q R k r e H a w hro hrun hk hrel
 simp only[run]at hrun
 obtain⟨g1,g2⟩:=eb hl
 have hlen:l.length=ops.size:=by rw[g1];simp
 have He:(ops.toList.zipIdx.all fun p=>p.1.after.toList.all fun e=>!Region.binds .any e||decide (e.on<p.2))=true∧
  ((List.range l.length).all fun j=>(List.range j).all fun i=>match l[i]?,l[j]? with
    |some a,some b=>(bs.getD j 0).testBit i||fp a b
    |_,_=>false)=true∧(os.all fun o=>qt bs l.length [] o)=true:=by
  rcases hos with hok|hok
  ·unfold xm at hok
   simp only[acw]at hok
   exact⟨hok.1.1.1.1.1.1,hok.1.1.1.1.1.2,hok.1.1.1.1.2⟩
  ·unfold uK at hok
   simp only[acw]at hok
   exact⟨hok.1.1.1,hok.1.1.2,hok.1.2⟩
 obtain⟨c1,c2,c3⟩:=He
 have hedge:∀(j:Nat) o,ops.toList[j]?=some o→∀e∈o.after,Region.binds .any e=true→e.on<j:=by
  intro j o ho e he hb
  have h1:=acZ.1 c1 (o,j) (List.mem_zipIdx_iff_getElem?.2 (by simpa using ho))
  have h2:=acZ.1 h1 e (by simpa using he)
  rw[hb]at h2
  simpa using h2
 have hbk:∀i j,dep bs i j→i<j:=by
  intro i j h
  rw[←hbs]at h
  exact yC (fun j o ho e he hb=>hedge j o ho e he hb) j i h
 have hind:∀i j x y,l[i]?=some x→l[j]?=some y→i≠j→dep bs i j∨dep bs j i∨fp x y=true∨fp y x=true:=by
  have key:∀i j x y,i<j→l[i]?=some x→l[j]?=some y→dep bs i j∨fp x y=true:=by
   intro i j x y hij hx hy
   have hjl:=(acm.1 hy).1
   have h1:=acZ.1 c2 j (ac2.2 hjl)
   have h2:=acZ.1 h1 i (ac2.2 hij)
   rw[hx,hy]at h2
   simp only[adw]at h2
   exact h2
  intro i j x y hx hy hne
  rcases afK hne with h|h
  ·rcases key i j x y h hx hy with h|h
   ·exact .inl h
   ·exact .inr (.inr (.inl h))
  ·rcases key j i y x h hy hx with h|h
   ·exact .inr (.inl h)
   ·exact .inr (.inr (.inr h))
 cases hsm:jq (os.map (jY rec l e H))with
 |none=>rw[hsm]at hrun;cases hrun
 |some s=>
 rw[hsm]at hrun
 have hall:=tU _ hsm
 have hrunσ:∀σ∈os,∃e2 H2,cX rec (cH l σ) e H=some (e2,H2)∧s=(eZ l e2 e,H2):=by
  intro σ hσ
  have h1:=hall _ (adt.2 ⟨σ,hσ,rfl⟩)
  unfold jY at h1
  rw[nP]at h1
  obtain⟨s2,h2,h3⟩:=acu.1 h1
  simp only[acN]at h3
  exact⟨s2.1,s2.2,h2,h3.symm⟩
 have hlin:∀σ∈os,σ.Nodup∧(∀i∈σ,i<l.length)∧σ.length=l.length∧σ.Pairwise (fun j i=>¬dep bs i j):=by
  intro σ hσ
  obtain⟨q1,q2,q3,q4⟩:=rG σ [] (acZ.1 c3 σ hσ) aft (by simp)
  refine⟨by simpa using q1,q2,by simpa using q3,?_⟩
  exact q4.imp_of_mem (fun{j i} hj hi h hd=>h ⟨q2 i hi,hd⟩)
 have hperm:∀τ:List Nat,τ.Nodup→(∀i∈τ,i<l.length)→τ.length=l.length→τ.Perm (List.range l.length):=by
  intro τ h1 h2 h3
  exact mQ τ _ h1 (fun i hi=>ac2.2 (h2 i hi)) (by simp[h3])
 have hfull:∀τ:List Nat,τ.Nodup→(∀i∈τ,i<l.length)→τ.length=l.length→τ.Pairwise (fun j i=>¬dep bs i j)→∃e1,cX rec (cH l τ) e H=some (e1,s.2)∧wS s.1 e1:=by
  rcases hos with hok|hok
  ·unfold xm at hok
   simp only[acw]at hok
   obtain⟨⟨⟨⟨_,c4⟩,c5⟩,c6⟩,c7⟩:=hok
   refine yv (S:=s.1) (H2:=s.2) rfl ?_ ?_ ?_ ?_ ?_ hlin ?_
   ·intro i k x y d hx hy hki hd
    have hil:=(acm.1 hy).1
    have h1:=acZ.1 c4 i (ac2.2 hil)
    have h2:=acZ.1 h1 k (ac2.2 (by omega))
    rw[hx,hy]at h2
    simp only[hd,acw,adw,ac8,adK,aea]at h2
    exact⟨by simpa using h2.1,fun hne hxd=>by
     rcases h2.2 with h3|h3
     ·exact hne h3
     ·exact h3 hxd⟩
   ·intro i j x y hij hx hy
    have hjl:=(acm.1 hy).1
    have h1:=acZ.1 c2 j (ac2.2 hjl)
    have h2:=acZ.1 h1 i (ac2.2 hij)
    rw[hx,hy]at h2
    simp only[adw]at h2
    exact h2
   ·intro w hw w' hw' hlt
    have h1:=acZ.1 (acZ.1 c5 w hw) w' hw'
    rw[acp hlt]at h1
    simpa[dep]using h1
   ·intro h
    rw[h]at c6
    simp at c6
   ·intro r o j hro' DU hj h1 h2
    have hrl:=(acm.1 hro').1
    have h3:=acZ.1 c7 r (ac2.2 hrl)
    rw[hro']at h3
    simp only[DU,adp,ad0]at h3
    have h4:=acZ.1 h3 j (ac2.2 (by omega))
    have h5:qC bs (Hj l) r j=true:=by
     unfold qC
     rw[acw]
     refine⟨acZ.2 fun w hw=>?_,acZ.2 fun w hw=>?_⟩
     ·have:=h1 w hw;unfold dep at this;simpa using this
     ·have:=h2 w hw;unfold dep at this;simpa using this
    rw[h5]at h4
    simp only[adp,ad0]at h4
    obtain⟨σ,hσ,h6⟩:=adT.1 h4
    exact⟨σ,hσ,by simpa using h6⟩
   ·intro σ hσ
    obtain⟨e2,H2,r1,r2⟩:=hrunσ σ hσ
    exact⟨e2,by rw[r2];exact r1,by rw[r2];exact qZ r1⟩
  unfold uK at hok
  simp only[acw]at hok
  obtain⟨_,c4⟩:=hok
  intro τ h1 h2 h3 h4
  have hp:=hperm τ h1 h2 h3
  have hmem:τ.filter (jc l)∈mO bs ((List.range l.length).filter (jc l)).length ((List.range l.length).filter (jc l)):=
   rU _ _ _ (hp.filter _).length_eq (hp.filter _) (h1.filter _) (h4.filter _)
  have h5:=acZ.1 c4 _ hmem
  obtain⟨σ,hσ,h6⟩:=adT.1 h5
  obtain⟨q1,q2,q3,q4⟩:=hlin σ hσ
  obtain⟨e2,H2,r1,r2⟩:=hrunσ σ hσ
  obtain⟨e1,r3,r4⟩:=reduce hind τ σ h2 h1 (hp.trans (hperm σ q1 q2 q3).symm) h4 q4 (by simpa using(adK.1 h6).symm) (fun _=>rfl) r1
  refine⟨e1,by rw[r2];exact r3,fun t=>?_⟩
  rw[r2,r4 t]
  exact qZ r1 t
 refine wpIn_region_any hmix ?_
 have hrel0:Rel C nt Bs e H a {w with drawn:=w.drawn+1}:=by
  obtain⟨ρ,F,q1,q2,q3,q4,q5⟩:=hrel
  obtain⟨z1,z2⟩:=q1.same (w':={w with drawn:=w.drawn+1}) (acH _) (fun _ _=>rfl)
  exact⟨ρ,F,z1,z2.er q1 q2,q3.trans z2,q4,q5.ext z2.toExt0⟩
 have main:∀(fuel:Nat) (listed:Array Bool) (a:Act) (w:World),listed.size=ops.size→HZ listed≤fuel→
  (∃τ:List Nat,τ.Nodup∧(∀j,listed.getD j false=true↔j∈τ)∧(∀j∈τ,j<l.length)∧τ.Pairwise (fun j i=>¬dep bs i j)∧(∀j∈τ,∀o,ops.toList[j]?=some o→∀e∈o.after,Region.binds .any e=true→e.on∈τ)∧
   ∃e1 H1,cX rec (cH l τ) e H=some (e1,H1)∧Rel C nt Bs e1 H1 a w)→wpAnyIn (WF ro) n C.P .any ops Q fuel listed a w:=by
  have hlast:∀(listed:Array Bool) (a:Act) (w:World),listed.size=ops.size→
   (∃τ:List Nat,τ.Nodup∧(∀j,listed.getD j false=true↔j∈τ)∧(∀j∈τ,j<l.length)∧τ.Pairwise (fun j i=>¬dep bs i j)∧(∀j∈τ,∀o,ops.toList[j]?=some o→∀e∈o.after,Region.binds .any e=true→e.on∈τ)∧
    ∃e1 H1,cX rec (cH l τ) e H=some (e1,H1)∧Rel C nt Bs e1 H1 a w)→Region.ready .any ops listed=[]→Q .normal a w:=by
   intro listed a w hsz ⟨τ,t1,t2,t3,t4,t5,e1,H1,t6,t7⟩ hnil
   have hall2:∀j,j<l.length→j∈τ:=by
    intro j
    induction j using Nat.strongRecOn with
    |_ j ih=>
     intro hj
     apply aef
     intro hn
     have hjs:j<listed.size:=by omega
     have hnl:listed.getD j false=false:=by
      cases hx:listed.getD j false with
      |false=>rfl
      |true=>exact absurd ((t2 j).1 hx) hn
     have hmem:j∈Region.ready .any ops listed:=by
      rw[mem_ready]
      have hoj:ops[j]?=some (ops[j]'(by omega)):=adD (by omega)
      refine⟨by simpa[hjs]using hnl,_,hoj,fun e' he' hb=>?_⟩
      have h1:=hedge j _ (by simpa using hoj) e' he' hb
      exact(t2 e'.on).2 (ih e'.on h1 (by omega))
     rw[hnil]at hmem
     cases hmem
   have hlenτ:τ.length=l.length:=by
    have h1:=cN (List.range l.length) τ afB (fun j hj=>hall2 j (ac2.1 hj))
    have h2:=cN τ (List.range l.length) t1 (fun j hj=>ac2.2 (t3 j hj))
    rw[afr]at h1 h2
    omega
   obtain⟨e3,r1,r2⟩:=hfull τ t1 t3 hlenτ t4
   rw[t6]at r1
   cases r1
   exact hk .normal s.1 s.2 a w hrun (t7.eqv r2)
  intro fuel
  induction fuel with
  |zero=>
   intro listed a w hsz hu hj
   have hnil:Region.ready .any ops listed=[]:=by
    apply List.eq_nil_iff_forall_not_mem.2
    intro j hjr
    have h1:=(mem_ready.1 hjr).1
    have hks:j<listed.size:=by
     rcases acz j listed.size with h|h
     ·exact h
     ·simp[aeW h]at h1
    have:false∈listed.toList:=by
     simp[hks]at h1
     rw[←h1];simp
    have:=List.count_pos_iff.2 this
    unfold HZ at hu
    omega
   exact⟨hnil,hlast listed a w hsz hj hnil⟩
  |succ fuel ih=>
   intro listed a w hsz hu hj
   refine⟨hlast listed a w hsz hj,fun i hi=>?_⟩
   obtain⟨h1,o,ho,hafter⟩:=mem_ready.1 hi
   have hks:i<listed.size:=by
    rcases acz i listed.size with h|h
    ·exact h
    ·simp[aeW h]at h1
   have hfl:listed[i]=false:=by simpa[hks]using h1
   obtain⟨τ,t1,t2,t3,t4,t5,e1,H1,t6,t7⟩:=hj
   have hiτ:i∉τ:=fun h=>by have:=(t2 i).2 h;simp[hks,hfl]at this
   have hclo:∀k,dep bs k i→k∈τ:=by
    intro k hk
    have h2:((bK ops.toList).getD i 0).testBit k=true:=by rw[hbs];exact hk
    refine jS (S:=fun k=>k∈τ) (fun j o' hj ho' e' he' hb=>t5 j hj o' ho' e' he' hb) i k (fun o' ho' e' he' hb=>?_) h2
    ·have:ops.toList[i]?=some o:=by simpa using ho
     rw[this]at ho';cases ho'
     exact(t2 _).1 (hafter e' he' hb)
   have hil:i<l.length:=by omega
   have hdc:∀j∈τ,∀k,dep bs k j→k∈τ:=by
    intro j hj k hk
    have h2:((bK ops.toList).getD j 0).testBit k=true:=by rw[hbs];exact hk
    exact jS (S:=fun k=>k∈τ) (fun j o' hj ho' e' he' hb=>t5 j hj o' ho' e' he' hb) j k (fun o' ho' e' he' hb=>t5 j hj o' ho' e' he' hb) h2
   obtain⟨oi,hoi⟩:∃oi,l[i]?=some oi:=⟨_,acK hil⟩
   obtain⟨rest,hrest⟩:∃rest,(List.range l.length).filter (fun k=>decide (k∉τ++[i]))=rest:=⟨_,rfl⟩
   have hrm:∀k,k∈rest↔k<l.length∧k∉τ∧k≠i:=by
    intro k
    rw[←hrest]
    simp[adO]
   have hnd:(τ++[i]++rest).Nodup:=by
    rw[ad8]
    refine⟨ad8.2 ⟨t1,by simp,fun x hx y hy=>?_⟩,?_,fun x hx y hy=>?_⟩
    ·simp at hy;subst hy;exact fun h=>hiτ (h▸hx)
    ·rw[←hrest];exact afB.filter _
    ·have:=(hrm y).1 hy
     rcases ady.1 hx with hx|hx
     ·exact fun h=>this.2.1 (h▸hx)
     ·simp at hx;subst hx;exact fun h=>this.2.2 h.symm
   have hltall:∀k∈τ++[i]++rest,k<l.length:=by
    intro k hk'
    rcases ady.1 hk' with hk'|hk'
    ·rcases ady.1 hk' with hk'|hk'
     ·exact t3 k hk'
     ·simp at hk';omega
    ·exact((hrm k).1 hk').1
   have hlen2:(τ++[i]++rest).length=l.length:=by
    have h1:=cN (List.range l.length) (τ++[i]++rest) afB (fun j hj=>by
     by_cases hj1:j∈τ
     ·simp[hj1]
     ·by_cases hj2:j=i
      ·simp[hj2]
      ·exact aex _ ((hrm j).2 ⟨ac2.1 hj,hj1,hj2⟩))
    have h2:=cN (τ++[i]++rest) (List.range l.length) hnd (fun j hj=>ac2.2 (hltall j hj))
    rw[afr]at h1 h2
    omega
   have hcons:(τ++[i]++rest).Pairwise (fun j i=>¬dep bs i j):=by
    rw[ad6]
    refine⟨ad6.2 ⟨t4,by simp,fun j hj k hk' hd=>?_⟩,?_,fun j hj k hk' hd=>?_⟩
    ·simp at hk';subst hk'
     exact hiτ (hdc j hj _ hd)
    ·rw[←hrest]
     refine List.Pairwise.filter _ (List.pairwise_lt_range.imp (fun{a b} hab hd=>?_))
     have:=hbk _ _ hd;omega
    ·have h3:=(hrm k).1 hk'
     rcases ady.1 hj with hj|hj
     ·exact h3.2.1 (hdc j hj _ hd)
     ·simp at hj;subst hj;exact h3.2.1 (hclo _ hd)
   obtain⟨e3,r1,r2⟩:=hfull _ hnd hltall hlen2 hcons
   rw[cK,cK,aco,dx,t6]at r1
   simp only[adq]at r1
   rw[dx]at r1
   obtain⟨s4,r3,_⟩:=acu.1 r1
   rw[fy hoi,cX]at r3
   obtain⟨s5,r4,r5⟩:=acu.1 r3
   have hops:ops[i]?=some (ops[i]'(by omega)):=adD (by omega)
   have hco:iX C.P C.dL f nt ops (ops[i]'(by omega))=some oi:=g2 i _ _ (by simpa using hops) hoi
   refine DG hrec hops hco (show stepG rec oi e1 H1=some (s5.1,s5.2)from r4) t7 (fun a' w' hrel'=>ih _ a' w' (by simpa using hsz) ?_ ⟨τ++[i],?_,?_,?_,?_,?_,s5.1,s5.2,?_,hrel'⟩)
   ·unfold HZ at hu⊢
    rw[Array.toList_setIfInBounds,List.count_set (by simpa using hks)]
    have hq:listed.toList[i]'(by simpa using hks)=false:=by simpa using hfl
    rw[hq]
    simp only[adL,if_true]
    have:((true==false)=true)=False:=by simp
    simp only[this,if_false]
    omega
   ·exact(ad8.1 hnd).1
   ·intro j
    by_cases hji:j=i
    ·subst hji;simp[hks]
    ·have:(listed.setIfInBounds i true).getD j false=listed.getD j false:=by simp[adv (Ne.symm hji)]
     rw[this,t2 j]
     simp[hji]
   ·intro j hj;exact hltall j (adW _ hj)
   ·exact(ad6.1 hcons).1
   ·intro j hj o' ho' e' he' hb
    rcases ady.1 hj with hj|hj
    ·exact adW _ (t5 j hj o' ho' e' he' hb)
    ·simp at hj;subst hj
     have:ops.toList[j]?=some o:=by simpa using ho
     rw[this]at ho';cases ho'
     exact adW _ ((t2 _).1 (hafter e' he' hb))
   ·rw[cK,dx,t6]
    simp only[adq]
    rw[fy hoi,cX,r4]
    rfl
 refine main ops.size _ a _ (by simp) ?_ ⟨[],aft,fun j=>?_,by simp,List.Pairwise.nil,by simp,e,H,rfl,hrel0⟩
 ·unfold HZ;simp
 ·by_cases hj:j<ops.size<;>simp[hj]
end
end
section
section
variable{C:Ctx}{rec:Rec}{f:FuncId}{nt:Nat}
theorem DW{c:Code}{c1:ct}(h:gS C rec nt c c1):∀vs,gS C rec nt c (CJ c1 vs)
 |[]=>h
 |v::vs=>by
  intro ro n B Q R k r e H a w hro hrun hk hrel
  simp only[CJ,run]at hrun
  refine h ro n B Q R _ r e H a w hro hrun (fun x e' H' a' w' hx hr=>?_) hrel
  cases x with
  |exit id=>exact hk _ _ _ _ _ hx hr
  |ret=>exact hk _ _ _ _ _ hx hr
  |normal=>
   simp only at hx
   unfold aN at hx
   split at hx
   ·rename_i p hp
    exact hk .normal _ _ _ _ hx (nU (v::vs) hp hr)
   ·cases hx
theorem Cu{ρ:Map}{F:Nat→Prop}{H:ab}{w:World}{c:SV}{v:Value}{em:Bool}(hr:HR C ρ F H w)(hs:AT H c=some em)(hv:VR w F ρ c v):∃q n cap,v=.slice q n cap∧(em=false→q.isNone=false):=by
 unfold AT at hs
 split at hs
 ·rename_i z L f
  cases hs
  cases hv with
  |ao V hcap hfull hz hat h1 hv=>
   rename_i q cap
   refine⟨q,_,_,rfl,fun hL=>?_⟩
   rcases hat with h0|⟨B,o,ha,_⟩
   ·subst h0;cases hL
   ·subst ha;rfl
 ·rename_i b' v' off n
  replace hs:=aj hs
  obtain⟨hc,hs⟩:=hs
  cases hs
  obtain⟨l,z2,L2,ex2,hl,hb2,hbr,g1,g2⟩:=ep hr hc hv
  cases hvi:l.bC with
  |true=>
   obtain⟨q,p1,p2,p3⟩:=g1 hvi
   exact⟨q,0,0,p1,fun h=>by simp at h;omega⟩
  |false=>
   obtain⟨p1,q,p2,p3⟩:=g2 hvi
   refine⟨q,_,_,p2,fun h=>?_⟩
   have hn:n≠0:=by simpa using h
   have:=p3 (by omega)
   subst this
   rfl
 ·cases hs
theorem Kt{x:Code}{y:Code}{y1:ct}{ops:Array Oper}{l:List Oper}{l1:List aL}{d:Nat}{neg:Bool}{x':bX}(hrec:fW C rec)(hp:zj C.P nt x=some (ops,l,d,neg,x'))(hl:bR (l.map (iX C.P C.dL f nt ops))=some l1)
 (hy:gS C rec nt y y1):gS C rec nt (.seq x y) (.seq (.ops l1) (.G6 d neg x' y1)):=by
 intro ro n B Q R k r e H a w hro hrun hk hrel
 unfold zj at hp
 split at hp
 rotate_left
 ·cases hp
 rename_i id ops'
 split at hp
 rotate_left
 ·cases hp
 rename_i o ho
 split at hp
 rotate_left
 ·cases hp
 rename_i d0 op t xo yo yt hd hg ed
 split at hp
 rotate_left
 ·cases hp
 rename_i x0 el hx0 hu
 split at hp
 rotate_left
 ·cases hp
 rename_i nk neg0 x2 hcn
 replace hp:=aj hp
 obtain⟨hdn,hp⟩:=hp
 replace hdn:=acQ hdn
 simp only[acN,acY]at hp
 obtain⟨rfl,rfl,rfl,rfl,rfl⟩:=hp
 have hx2:x2=x0∧nk=.s:=by
  unfold w6 at hcn
  split at hcn<;>simp_all
 obtain⟨rfl,rfl⟩:=hx2
 have hne:ops'.toList≠[]:=by intro h;rw[h]at ho;cases ho
 have hsz:0<ops'.size:=by
  rcases Nat.eq_zero_or_pos ops'.size with h|h
  ·exact absurd (by simpa using h) hne
  ·exact h
 have hlast:ops'[ops'.size-1]?=some o:=by
  rw[List.getLast?_eq_getElem?]at ho
  simpa using ho
 have hdl:ops'.toList.dropLast=ops'.toList.take (ops'.size-1):=by rw[List.dropLast_eq_take];simp
 rw[hdl]at hl
 refine wpIn_seq (wpIn_region ?_)
 obtain⟨m,hm⟩:∃m,ops'.size=m+1:=⟨ops'.size-1,by omega⟩
 have hrange:List.range ops'.size=List.range' 0 m++[m]:=by
  rw[hm,afD,List.range'_1_concat]
  simp
 rw[hrange]
 rw[hm,afi]at hlast hl
 simp only[run]at hrun
 refine pA hrec (f:=f) (ops:=ops') (m:=m) (by omega) (fun e' H' a' w' h hr=>?_) m 0 l1 (by omega) (by simpa using hl) e H a w hrun hrel
 simp only[wpOpsIn,hlast]
 have hw:Region.wanted o (yielded ops' a'.tmps)=true:=by simp[Region.wanted,hg]
 rw[hw,if_pos rfl]
 refine⟨fun _ _=>trivial,?_⟩
 rw[Oper.semAt_eq _ _ _ (fun c hc=>by rw[ed]at hc;cases hc)]
 obtain⟨ρ,F,hr1,he1,hput⟩:=hr.step (P:=fun _ _=>True)
 have hv:=aZ hx0 he1
 unfold qx at h
 have fin:∀b,Bg .s (a'.eval xo)=some b→run rec y1 ((d0,.bool (neg0 ^^ b))::e') H' k ()=some r→y.wpIn (WF ro) n C.P Q (a'.put o.dst (.bool (neg0 ^^ b))) w'∧(execOp a'.eval o).run C.P w'=.ok (.value (.bool (neg0 ^^ b))) w':=by
  intro b hb hrun'
  have hx:(execOp a'.eval o).run C.P w'=.ok (.value (.bool (neg0 ^^ b))) w':=by
   simp only[execOp,ed]
   have:=vN (C:=C) (w:=w') (a:=a') (x:=xo) hcn hu hb
   rw[Sem.run_bind,this]
   rfl
  refine⟨?_,hx⟩
  have h2:=hput o.dst (.bool (neg0 ^^ b)) H' (.bool (neg0 ^^ b)) w' (fun d hd'=>by rw[hd]at hd';cases hd';exact hdn) (dJ.same hr1 (.bool _))
  rw[hd]at h2⊢
  exact hy ro n B Q R k r _ H' _ w' hro hrun' hk h2
 split at h
 ·cases h
 ·rename_i hem
  obtain⟨q,m1,cap,hq,hno⟩:=Cu hr1 hem hv
  obtain⟨g1,g2⟩:=fin false (by rw[hq,Bg,hno rfl]) (by simpa using h)
  rw[g2]
  exact g1
 ·rename_i hem
  obtain⟨q,m1,cap,hq,hno⟩:=Cu hr1 hem hv
  split at h
  ·rename_i heq
   have hb:run rec y1 ((d0,.bool (neg0 ^^ q.isNone))::e') H' k ()=some r:=by
    cases hx:(neg0 ^^ q.isNone)with
    |true=>exact h
    |false=>exact heq.symm.trans h
   obtain⟨g1,g2⟩:=fin q.isNone (by rw[hq,Bg]) hb
   rw[g2]
   exact g1
  ·cases h
theorem gD{P:Program}{b:Frame}{a:Act}{k:List Item}{cs:List Frame}{w:World}{c:Code}:step P (lone (b.atR a (.code (.scope c)::k)) cs w)=.next (lone (b.atR a (.code c::.inScope c::k)) cs w):=
 step_lone_go (by simp[Go.stepG,Go.stepG.exec,Frame.atR])
theorem sf{P:Program}{b:Frame}{a:Act}{k:List Item}{cs:List Frame}{w:World}{c:Code}:step P (lone (b.atR a (.inScope c::k)) cs w)=.next (lone (b.atR a k) cs w):=
 step_lone_go (by simp[Go.stepG,Go.stepG.exec,Frame.atR])
def TY(Q:Exit→Act→World→Prop):Exit→Act→World→Prop
 | .goto _,_,_=>False
 |e,a,w=>Q e a w
theorem xR{F:Fence}{n:Nat}{P:Program}{Q:Exit→Act→World→Prop}{a:Act}{w:World}{c:Code}(h:c.wpIn F n P (TY Q) a w):(Code.scope c).wpIn F n P Q a w:=by
 intro b k cs hro hb hr
 have h0:(lone (b.atR a (.code (.scope c)::k)) cs w).fenced P F:=fenced_calm hb hr rfl
 obtain⟨e,a₁,w₁,hq,harr⟩:=h b (.inScope c::k) cs hro hb hr
 cases e with
 |normal=>exact⟨.normal,a₁,w₁,hq,.head h0 gD (StepsIn.trans harr (.one (fenced_calm hb hr rfl) sf))⟩
 |exit id=>exact⟨_,a₁,w₁,hq,.of_steps (.one h0 gD) ⟨fun k' hk=>harr.1 k' (by simp[exitTo,hk]),fun hr hk=>harr.2 hr (by simp[exitTo,hk])⟩⟩
 |goto l=>exact hq.elim
 |ret=>exact⟨_,a₁,w₁,hq,.of_steps (.one h0 gD) harr⟩
 |panic ch=>exact⟨_,a₁,w₁,hq,.of_steps (.one h0 gD) harr⟩
 |outgrown=>exact⟨_,a₁,w₁,hq,.of_steps (.one h0 gD) harr⟩
theorem qc(hmix:C.P.follows .mixedOrders=true)(hrec:fW C rec):∀(c:Code) (c1:ct),eG C.P C.dL f nt c=some c1→gS C rec nt c c1:=by
 intro c
 induction c with
 |skip=>
  intro c1 h ro n B Q R k r e H a w hro hrun hk hrel
  cases h
  exact wpIn_skip (hk .normal e H a w hrun hrel)
 |label l=>
  intro c1 h ro n B Q R k r e H a w hro hrun hk hrel
  cases h
  exact wpIn_label (hk .normal e H a w hrun hrel)
 |scope x ih=>
  intro c1 h ro n B Q R k r e H a w hro hrun hk hrel
  exact xR (ih c1 h ro n B _ R k r e H a w hro hrun (fun x e' H' a' w' h hr=>by
   have:=hk x e' H' a' w' h hr
   cases x<;>exact this) hrel)
 |region id ops draw=>
  intro c1 h
  simp only[eG,acq]at h
  obtain⟨c2,h,rfl⟩:=h
  apply DW
  apply q9
  cases hprm:(draw&&C.dL.U7 f id)with
  |true=>
   rw[hprm]at h
   simp only[acG]at h
   rw[acw]at hprm
   obtain⟨rfl,_⟩:=hprm
   exact Gx hmix hrec h
  |false=>
  rw[hprm]at h
  simp only[acJ]at h
  unfold zQ at h
  split at h
  ·cases h
  ·rename_i l hl
   cases draw with
   |true=>
    simp only[acG,acq]at h
    obtain⟨d,hd,rfl⟩:=h
    exact E0 hmix hrec hl hd
   |false=>
    simp only[acJ,acN]at h
    subst h
    intro ro n B Q R k r e H a w hro hrun hk hrel
    refine wpIn_region ?_
    rw[afD]
    exact AZ hrec (k:=k .normal) (r:=r) (fun e' H' a' w' h hr=>hk .normal e' H' a' w' h hr) ops.size 0 l (by simp) (by simpa using hl) e H a w hrun hrel
 |seq x y ihx ihy=>
  intro c1 h
  simp only[eG]at h
  split at h
  ·rename_i ops l d neg x' hp
   split at h
   ·rename_i l1 y1 h1 h2
    cases h
    exact Kt hrec hp h1 (ihy y1 h2)
   ·cases h
  split at h
  ·rename_i x1 y1 h1 h2
   cases h
   intro ro n B Q R k r e H a w hro hrun hk hrel
   simp only[run]at hrun
   refine wpIn_seq (ihx x1 h1 ro n B _ R _ r e H a w hro hrun (fun x e' H' a' w' h hr=>?_) hrel)
   cases x with
   |normal=>exact ihy y1 h2 ro n B Q R k r e' H' a' w' hro h hk hr
   |exit id=>exact hk (.exit id) e' H' a' w' h hr
   |ret=>exact hk .ret e' H' a' w' h hr
  ·cases h
 |cond c x y ihx ihy=>
  intro c1 h ro n B Q R k r e H a w hro hrun hk hrel
  simp only[eG]at h
  split at h
  ·rename_i c' x1 y1 h0 h1 h2
   cases h
   simp only[run]at hrun
   unfold rW at hrun
   split at hrun
   ·rename_i b hb
    obtain⟨ρ,F,hr,he,_⟩:=id hrel
    have hv:=aZ h0 he
    rw[hb]at hv
    have hv:=eQ hv
    dsimp only at hrun
    unfold fork at hrun
    cases b with
    |true=>exact wpIn_cond_true hv (ihx x1 h1 ro n B Q R k r e H a w hro hrun hk hrel)
    |false=>exact wpIn_cond_false hv (ihy y1 h2 ro n B Q R k r e H a w hro hrun hk hrel)
   ·cases hrun
  ·cases h
 |block id x ih=>
  intro c1 h ro n B Q R k r e H a w hro hrun hk hrel
  simp only[eG,acq]at h
  obtain⟨x1,h1,rfl⟩:=h
  simp only[run]at hrun
  refine wpIn_block (ih x1 h1 ro n B _ R _ r e H a w hro hrun (fun x e' H' a' w' h hr=>?_) hrel)
  cases x with
  |normal=>exact hk .normal e' H' a' w' h hr
  |exit j=>
   simp only[CT,Exit.inBlock]
   dsimp only at h
   cases hj:(j==id)with
   |true=>
    rw[hj]at h
    have:j=id:=by simpa using hj
    rw[if_pos this]
    exact hk .normal e' H' a' w' h hr
   |false=>
    rw[hj]at h
    have:¬j=id:=by simpa using hj
    rw[if_neg this]
    exact hk (.exit j) e' H' a' w' h hr
  |ret=>exact hk .ret e' H' a' w' h hr
 |loop x ih=>
  intro c1 h
  simp only[eG,acq]at h
  obtain⟨x1,h1,rfl⟩:=h
  exact Fv (ih x1 h1)
 |rangeFunc g ps x y ihx ihy=>
  intro c1 h
  simp only[eG]at h
  split at h
  ·rename_i g' x1 y1 h0 h1 h2
   replace h:=fa h
   obtain⟨hp,h⟩:=h
   cases h
   exact AQ hrec h0 (fun t ht=>by
    have:=List.any_eq_false.1 hp t ht
    simpa using this) h1 h2
  ·cases h
 |exit id=>
  intro c1 h ro n B Q R k r e H a w hro hrun hk hrel
  cases h
  exact wpIn_exit (hk (.exit id) e H a w hrun hrel)
 |ret=>
  intro c1 h ro n B Q R k r e H a w hro hrun hk hrel
  cases h
  exact wpIn_ret (hk .ret e H a w hrun hrel)
 |_=>intro c1 h;simp[eG]at h
end
end
section
section
variable{C:Ctx}{ρ ρ0 ρ':Map}{F F0 F':Nat→Prop}{H H0 H' H1:ab}{w w0 w':World}
theorem CC(xs:List SV):∀(k t:Nat),get (eo.go k xs) t=if k≤t then(xs[t-k]?).getD .undef else .undef:=by
 induction xs with
 |nil=>intro k t;simp[eo.go,get]
 |cons x r ih=>
  intro k t
  simp only[eo.go,get,ih]
  cases h:(t==k)with
  |true=>
   have:t=k:=by simpa using h
   subst this;simp
  |false=>
   have:t≠k:=by simpa using h
   simp only[acJ]
   by_cases hk:k≤t
   ·rw[if_pos hk,if_pos (by omega),show t-k=(t-(k+1))+1 by omega];rfl
   ·rw[if_neg hk,if_neg (by omega)]
theorem zO{xs:List SV}{args:Array Value}{n:Nat}(h:iA w F ρ xs args):ER w F ρ (eo xs) (args++Array.replicate n undef):=by
 intro t
 unfold eo
 rw[CC]
 simp only[aei,if_true,Nat.sub_zero]
 cases hx:xs[t]? with
 |none=>exact .undef _
 |some c=>
  have hlt:=(acm.1 hx).1
  have hn:=h.1
  have hv:args[t]?=some args[t]:=adD (by omega)
  have:=h.2 t c _ hx hv
  rw[adN,ae7 (by omega),hv]
  exact this
def Gi(tmps:Array Value):ResultVar→Sem Value
 | .tmp t=>pure (tmps.getD t undef)
 | .cell a t=>do loadVar t (←asAddr (tmps.getD a undef))
theorem yr(fn:Func)(tmps:Array Value):results fn tmps=(do let vs←fn.results.mapM (Gi tmps);pure (if h:vs.size=1 then vs[0]else .tuple vs)):=by
 unfold results
 congr 1
theorem CO{e:Env}{tmps:Array Value}{rv:ResultVar}{r1:wL}{s:SV}(hr:HR C ρ F H w)(he:ER w F ρ e tmps)(h1:AW C.P rv=some r1)(h2:dR e H r1=some s) :
 ∃val,(Gi tmps rv).run C.P w=.ok val w∧VR w F ρ s val:=by
 unfold AW at h1
 split at h1
 ·cases h1
  cases h2
  exact⟨_,rfl,he _⟩
 ·split at h1
  ·rename_i ag n hag hsz
   cases h1
   obtain⟨q,val,hu,k1,k2⟩:=zy hag hsz hr (he _) h2
   refine⟨val,?_,k2⟩
   simp only[Gi,hu,asAddr,Sem.run_bind,Sem.run_pure,Result.andThen]
   exact k1
  ·cases h1
theorem Aa{e:Env}{tmps:Array Value}(hr:HR C ρ F H w)(he:ER w F ρ e tmps):∀(rvs:List ResultVar) (r1s:List wL) (ss:List SV),bR (rvs.map (AW C.P))=some r1s→bR (r1s.map (dR e H))=some ss→
 ∃fR:List Value,(rvs.mapM (Gi tmps)).run C.P w=.ok fR w∧ss.length=fR.length∧
  ∀(j:Nat) c v,ss[j]?=some c→fR[j]?=some v→VR w F ρ c v
 |[],r1s,ss,h1,h2=>by
  simp[bR]at h1;subst h1
  simp[bR]at h2;subst h2
  exact⟨[],rfl,rfl,by simp⟩
 |rv::rvs,r1s,ss,h1,h2=>by
  simp only[ada]at h1
  cases hc:AW C.P rv with
  |none=>rw[hc]at h1;simp[bR]at h1
  |some r1=>
   rw[hc]at h1
   simp only[bR,acq]at h1
   obtain⟨r1s',h1',rfl⟩:=h1
   simp only[ada]at h2
   cases hs:dR e H r1 with
   |none=>rw[hs]at h2;simp[bR]at h2
   |some s=>
    rw[hs]at h2
    simp only[bR,acq]at h2
    obtain⟨ss',h2',rfl⟩:=h2
    obtain⟨val,k1,k2⟩:=CO hr he hc hs
    obtain⟨fR,q1,q2,q3⟩:=Aa hr he rvs r1s' ss' h1' h2'
    refine⟨val::fR,?_,by simp[q2],fun j c v hj hv=>?_⟩
    ·simp only[List.mapM_cons,Sem.run_bind,k1,q1,Result.andThen,Sem.run_pure]
    ·cases j with
     |zero=>simp at hj hv;subst hj;subst hv;exact k2
     |succ j=>simp at hj hv;exact q3 j c v hj hv
theorem rD{e:Env}{tmps:Array Value}{fn:Func}{r1s:List wL}{s:SV}(hr:HR C ρ F H w)(he:ER w F ρ e tmps)(h1:bR (fn.results.toList.map (AW C.P))=some r1s)(h2:results1 e H r1s=some s) :
 ∃val,(results fn tmps).run C.P w=.ok val w∧VR w F ρ s val:=by
 unfold results1 at h2
 simp only[acq]at h2
 obtain⟨ss,h2,h3⟩:=h2
 obtain⟨fR,k1,k2,k3⟩:=Aa hr he _ _ _ h1 h2
 refine⟨if h:fR.toArray.size=1 then fR.toArray[0]else .tuple fR.toArray,?_,?_⟩
 ·rw[yr]
  simp only[Sem.run_bind,Array.mapM_eq_mapM_toList,Sem.run_map]
  rw[k1]
  rfl
 ·split at h3
  ·rename_i v
   subst h3
   have hl:fR.length=1:=by simpa using k2.symm
   match fR,hl with
   |[x],_=>exact k3 0 v x rfl rfl
  ·rename_i hne
   subst h3
   have:¬fR.toArray.size=1:=by
    intro h
    simp only[List.size_toArray]at h
    match ss,k2 with
    |[v],_=>exact hne v rfl
    |[],k2=>simp at k2;omega
    |_::_::_,k2=>simp at k2;omega
   rw[dif_neg this]
   exact .bc (by simpa using k2) (fun j c v hj hv=>k3 j c v hj (by simpa using hv))
theorem oS{P:Program}{fn:Func}{tmps:Array Value}{R:Ending→World→Prop}{n:Nat}:∀(Ds:List Nat) (ds:List Deferred) (w:World),ds.map (·.target)=Ds.map Target.collected→Ds.Nodup→
 (∀D∈Ds,w.heap[D]?=some (.deferred (some [])))→
 (∀w':World,w'.heap.size=w.heap.size→(w'.os=w.os∧w'.output=w.output)→(∀B,B∉Ds→w'.heap[B]?=w.heap[B]?)→LeavesIn Fence.wide n P fn tmps R [] .returning w')→LeavesInM Fence.wide n P fn tmps R ds .returning w
 |[],ds,w,h1,_,_,hf=>by
  have:ds=[]:=by simpa using h1
  subst this
  exact hf w rfl ⟨rfl,rfl⟩ (fun _ _=>rfl)
 |D::Ds,ds,w,h1,h2,h3,hf=>by
  cases ds with
  |nil=>simp at h1
  |cons d ds=>
   simp only[ada,afH]at h1
   have hnd:=aee.1 h2
   refine⟨by simp,.inl ⟨D,_,h1.1,run_takeDeferred (h3 D (ac5 ..)),oS Ds ds _ h1.2 hnd.2 (fun D' hD'=>?_) (fun w' hs ho hh=>hf w' (by rw[hs];simp) ho (fun B hB=>?_))⟩⟩
   ·rw[World.putObj_heap_other (by intro e;subst e;exact hnd.1 hD')]
    exact h3 D' (ade _ hD')
   ·rw[hh B (fun h=>hB (ade _ h)),World.putObj_heap_other (by intro e;subst e;exact hB (ac5 ..))]
def Hw(P:Program)(k:Nat)(f:FuncId):Prop:=∀(xs:List SV) (v:SV) (args:Array Value) (w:World),su k xs=some v→bR (xs.map pE)=some args.toList→
 (callFunc f args).run P w=.ok (.enter f args) w∧∃val,pE v=some val∧Calls P f args w (fun e w'=>e=.returned val∧w'.os=w.os∧w'.output=w.output∧w.heap.size≤w'.heap.size∧∀B,B<w.heap.size→w'.heap[B]?=w.heap[B]?)
def uP(C:Ctx):Prop:=∀f k,C.dL.ext f=some k→Hw C.P k f
theorem qh{k:Nat}{xs:List SV}{v:SV}(h:su k xs=some v):(∀x∈xs,∃y,pE x=some y)∧∃y,pE v=some y:=by
 unfold su at h
 split at h
 ·replace h:=aj h
  obtain⟨_,h⟩:=h
  cases h
  exact⟨fun x hx=>by simp at hx;rcases hx with rfl|rfl<;>exact⟨_,rfl⟩,_,rfl⟩
 ·cases h
theorem zC:∀(xs:List SV) (as1:List Value),xs.length=as1.length→(∀(j:Nat) c v,xs[j]?=some c→as1[j]?=some v→VR w F ρ c v)→(∀x∈xs,∃y,pE x=some y)→bR (xs.map pE)=some as1
 |[],[],_,_,_=>rfl
 |[],_::_,h,_,_=>by simp at h
 |_::_,[],h,_,_=>by simp at h
 |x::xs,a::as1,h,hv,hs=>by
  obtain⟨y,hy⟩:=hs x (by simp)
  have:=EF (hv 0 x a rfl rfl) hy
  subst this
  simp only[ada,hy,bR]
  rw[zC xs as1 (by simpa using h) (fun j c v hc hv'=>hv (j+1) c v (by simpa using hc) (by simpa using hv')) (fun z hz=>hs z (by simp[hz]))]
  rfl
theorem wD(xs:List SV):(eo xs).map (·.2)=xs:=by
 have:∀(xs:List SV) k,(eo.go k xs).map (·.2)=xs:=by
  intro xs
  induction xs with
  |nil=>intro k;rfl
  |cons x r ih=>intro k;simp only[eo.go,ada,ih]
 exact this xs 0
theorem Gt{c:SV}{y:Value}(hs:pE c=some y):c.refs=0:=by
 unfold pE at hs
 split at hs<;>first|rfl|cases hs
theorem vu:∀(xs:List SV),(∀x∈xs,∃y,pE x=some y)→SV.refs.av xs=0
 |[],_=>rfl
 |x::xs,h=>by
  obtain⟨y,hy⟩:=h x (by simp)
  simp only[SV.refs.av,Gt hy,vu xs (fun z hz=>h z (by simp[hz]))]
  rfl
theorem IJ{N d:Nat}{c:SV}{y:Value}(hs:pE c=some y):ez N H (d+1) c=some c:=by
 unfold pE at hs
 split at hs<;>first|rfl|(simp[ez,SV.refs];done)|cases hs
theorem CY{f:FuncId}{k:Nat}{xs:List SV}{v:SV}{args:Array Value}(hx:Hw C.P k f)(h:su k xs=some v)(hr:HR C ρ F H w)(ha:iA w F ρ xs args) :
 (callFunc f args).run C.P w=.ok (.enter f args) w∧∀n,CallsIn Fence.wide n C.P f args w (fun e w'=>∃val,e=.returned val∧dJ C ρ F H w v H val w'):=by
 obtain⟨h1,val,h2,h3⟩:=hx xs v args w h (zC xs args.toList (by simpa using ha.1) (fun j c v hc hv=>ha.2 j c v hc (by simpa using hv)) (qh h).1)
 refine⟨h1,fun n=>(callsIn_wide.2 h3).mono (fun e w' he=>?_)⟩
 obtain⟨rfl,ho,hq,hs,hb⟩:=he
 obtain⟨p1,p2⟩:=hr.same hs hb ⟨ho,hq⟩
 exact⟨val,rfl,ρ,F,Pw h2,p1,p2⟩
variable{T:FuncId→Option aB}{m:Nat}
theorem GN(hmix:C.P.follows .mixedOrders=true)(hext:uP C)(hT:∀f F1,T f=some F1→wk C.P C.dL f=some F1)(hrec:fW C (aa T m)):EK C (aa T (m+1)):=by
 intro f xs H v H' h ρ F w args hr ha
 simp only[aa]at h
 split at h
 ·cases h
 rename_i F1 hF1
 have hc:=hT f F1 hF1
 unfold wk at hc
 split at hc
 ·rename_i k hk
  cases hc
  have hrun:∀{R:Type} (e:Env) (H:ab) (K:mA→Env→ab→Option R),run (aa T m) (.ext k) e H K ()=aN (su k (e.map (·.2))) (fun v=>K .ret ((0,v)::e) H) ():=fun _ _ _=>rfl
  simp only[hrun,wD]at h
  cases hv:su k xs with
  |none=>rw[hv]at h;simp[aN]at h
  |some v0=>
   obtain⟨y,hy⟩:=(qh hv).2
   rw[hv]at h
   have hp:eI ⟨[.tmp 0],.ext k,false⟩ xs=true:=by
    unfold eI;rw[vu xs (qh hv).1];rfl
   rw[hp]at h
   have hd:cG=7+1:=rfl
   simp only[acG,aN,results1,ada,aeK,dR,get,adL,bR,adm,adq,hd,IJ hy,acN,acY]at h
   obtain⟨rfl,rfl⟩:=h
   exact CY (hext _ _ hk) hv hr ha
 split at hc
 ·cases hc
 rename_i fn hfn
 split at hc
 ·cases hc
 rename_i body hbody
 replace hc:=fa hc
 obtain⟨hname,hc⟩:=hc
 split at hc
 rotate_left
 ·cases hc
 rename_i b1 rs hb1 hrs
 cases hc
 refine⟨?_,fun n=>?_⟩
 ·unfold callFunc
  have hname':¬fn.name= "runtime.NumGoroutine" :=by simpa using hname
  simp[Sem.run_bind,Sem.run,hfn,hname',hbody]
 ·have go:∀(R:Type) (fin:SV→ab→Option R) (r:R) (Q:Value→World→Prop) (ρ:Map) (H:ab),HR C ρ F H w→iA w F ρ xs args→
        run (aa T m) b1 (eo xs) {bl:=H.bl,bT:=[],ro:=min H.ro H.bl.length} (fun x e H'=>match x with
         | .exit _=>none
         |_=>(results1 e H' rs).bind fun v=>fin v H') ()=some r→
        (∀v0 ρ2 F2 H2 w2 val,HR C ρ2 F2 H2 w2→Ext C ρ F {bl:=H.bl,bT:=[],ro:=min H.ro H.bl.length} w ρ2 F2 H2 w2→VR w2 F2 ρ2 v0 val→fin v0 H2=some r→Q val w2)→
        CallsIn Fence.wide n C.P f args w (fun e w'=>∃val,e=.returned val∧Q val w'):=by
   intro R fin r Q ρ H hr ha h hfin
   refine callsIn_of_wp_marks hfn hbody trivial ?_
   let B:kp:=⟨ρ,F,{bl:=H.bl,bT:=[],ro:=min H.ro H.bl.length},w,w.heap.size⟩
   refine qc hmix hrec body b1 hb1 none n B _ _ _ r (eo xs) B.H _ w (fun l hl=>by cases hl) h (fun x e' H2 a' w' hk hrel=>?_)
    ⟨ρ,F,hr.bl rfl,zO ha,Ext.refl _ _ _ _,by simp;omega,acH _,[],rfl,aft,by simp⟩
   have hgo:((results1 e' H2 rs).bind fun v=>fin v H2)=some r→
    LeavesInM Fence.wide n C.P fn a'.tmps (fun e w'=>∃val,e=.returned val∧Q val w') a'.defers .returning w':=by
    intro hk
    simp only[acu]at hk
    obtain⟨v0,h1,h2⟩:=hk
    obtain⟨ρ2,F2,q1,q2,q3,q4,q5,Ds,q6,q7,q8⟩:=hrel
    refine oS Ds _ _ q6 q7 (fun D hD=>(q8 D hD).2.1) (fun w2 hs ho hh=>?_)
    obtain⟨z1,z2⟩:=q1.other q3 hs ho (fun Bk hB=>hh Bk (fun hD=>by
     obtain⟨g1,g2,g3,g4⟩:=q8 Bk hD
     rcases hB with hB|⟨b,l,ho,e⟩|hB
     ·exact g3 hB
     ·exact g4 b l ho e
     ·have:Bk<w.heap.size:=hB
      have:w.heap.size≤Bk:=g1
      omega))
    have he2:ER w2 F2 ρ2 e' a'.tmps:=fun t=>(q2 t).mono (fun Bk hB=>hh Bk (fun hD=>(q8 Bk hD).2.2.1 hB)) (fun _ h=>h) (Map.le_refl _)
    obtain⟨val,r1,r2⟩:=rD z1 he2 hrs h1
    exact⟨val,r1,val,rfl,hfin v0 ρ2 F2 H2 w2 val z1 z2 r2 h2⟩
   cases x with
   |normal=>exact hgo hk
   |ret=>exact hgo hk
   |exit id=>cases hk
  cases hp:eI ⟨rs,b1,(C.dL.keep f).isSome⟩ xs with
  |false=>
   rw[hp]at h
   exact go _ (fun v H2=>da (C.dL.keep f).isSome H v H2) (v,H') _ ρ H hr ha h (fun v0 ρ2 F2 H2 w2 val k1 k2 k3 k4=>nR hr k1 k2 k3 k4)
  |true=>
   rw[hp]at h
   simp only[acG,acq,acY]at h
   obtain⟨v',h,rfl,rfl⟩:=h
   unfold eI at hp
   simp only[acw,adK,ac8]at hp
   obtain⟨h0,hkeep⟩:=hp
   have hcut:ρ.cut 0=dH:=by funext b;simp[Map.cut]
   have hr0:HR C dH F ah w:=⟨(fun b l h=>by cases h),(fun b x h=>by simp[ah]at h),(fun b b' l l' h=>by cases h.2.1),(fun b l h=>by cases h.2.1),hr.iM⟩
   have ha0:iA w F dH xs args:=⟨ha.1,fun j c v hc hv=>by
    have:=(ha.2 j c v hc hv).cut 0 (fh (aes h0) j c hc)
    rwa [hcut]at this⟩
   refine(go _ (fun v H2=>ez 0 H2 cG v) v' (fun val w2=>dJ C dH F ah w v' ah val w2) dH ah hr0 ha0 h (fun v0 ρ2 F2 H2 w2 val k1 k2 k3 k4=>nR (keep:=false) (v:=v0) hr0 k1 k2 k3 ?_)).mono (fun e w' he=>?_)
   ·have hall:H2.bT.all (fun p=>!(decide (p.1<0)&&decide (0<p.2)))=true:=acZ.2 (fun p _=>by simp)
    have hfil:H2.bT.filter (fun p=>decide (p.1<0))=[]:=List.filter_eq_nil_iff.2 (fun p _=>by simp)
    have htr:di 0 ah H2=some ah:=by
     unfold di
     rw[hall,hfil]
     simp[ah]
    show((ez 0 H2 cG v0).bind fun v=>(di 0 ah H2).map fun H=>(v,H))=_
    rw[k4,htr]
    rfl
   ·obtain⟨val,rfl,ρ1,F1,d1,d2,d3⟩:=he
    have hnone:∀b,ρ1 b=none:=by
     intro b
     cases hb:ρ1 b with
     |none=>rfl
     |some l=>have:=d2.jT b l hb;simp[ah]at this
    have hno:∀b l,¬Own dH ah b l:=fun b l h=>by cases h.2.1
    obtain⟨p1,p2⟩:=hr.same d3.size (fun B hB=>d3.frame B hB (fun b l ho=>absurd ho (hno b l))) d3.out
    have bJ:∀B,F1 B→F B∨w.heap.size≤B:=fun B hB=>by
     rcases d3.new B hB with h|h|⟨b,l,ho,_⟩
     ·exact .inl h
     ·exact .inr h
     ·exact absurd ho (hno b l)
    refine⟨val,rfl,ρ,F1,d1.mono (fun _ _=>rfl) (fun _ h=>h) (fun b l h=>by rw[hnone b]at h;cases h),p1.more d3.iM (fun B hB=>?_),p2.more d3.iM bJ⟩
    rcases bJ B hB with h|h
    ·exact .inl h
    ·exact .inr ⟨d2.iM B hB,fun b l ho e=>by have:=(hr.own b l ho).2;omega⟩
theorem G8(hmix:C.P.follows .mixedOrders=true)(hext:uP C)(hT:∀f F1,T f=some F1→wk C.P C.dL f=some F1)(hrec:fW C (aa T m)):EU C (aa T (m+1)):=by
 intro f xs H v H' h ρ F w args hr ha
 simp only[aa]at h
 split at h
 ·cases h
 rename_i F1 hF1
 have hc:=hT f F1 hF1
 unfold wk at hc
 split at hc
 ·rename_i k hk
  cases hc
  have hrun:∀{R:Type} (e:Env) (H:ab) (K:mA→Env→ab→Option R),run (aa T m) (.ext k) e H K ()=aN (su k (e.map (·.2))) (fun v=>K .ret ((0,v)::e) H) ():=fun _ _ _=>rfl
  simp only[hrun,wD]at h
  cases hv:su k xs with
  |none=>rw[hv]at h;simp[aN]at h
  |some v0=>
   obtain⟨y,hy⟩:=(qh hv).2
   rw[hv]at h
   simp only[aN,results1,ada,aeK,dR,get,adL,acG,bR,adm,adq,da,tj,adn,acN,acY]at h
   obtain⟨rfl,rfl⟩:=h
   exact CY (hext _ _ hk) hv hr ha
 split at hc
 ·cases hc
 rename_i fn hfn
 split at hc
 ·cases hc
 rename_i body hbody
 replace hc:=fa hc
 obtain⟨hname,hc⟩:=hc
 split at hc
 rotate_left
 ·cases hc
 rename_i b1 rs hb1 hrs
 cases hc
 refine⟨?_,fun n=>?_⟩
 ·unfold callFunc
  have hname':¬fn.name= "runtime.NumGoroutine" :=by simpa using hname
  simp[Sem.run_bind,Sem.run,hfn,hname',hbody]
 ·have go:∀(R:Type) (fin:SV→ab→Option R) (r:R) (Q:Value→World→Prop) (ρ:Map) (H:ab),HR C ρ F H w→iA w F ρ xs args→
        run (aa T m) b1 (eo xs) {bl:=H.bl,bT:=[],ro:=min H.ro H.bl.length} (fun x e H'=>match x with
         | .exit _=>none
         |_=>(results1 e H' rs).bind fun v=>fin v H') ()=some r→
        (∀v0 ρ2 F2 H2 w2 val,HR C ρ2 F2 H2 w2→Ext C ρ F {bl:=H.bl,bT:=[],ro:=min H.ro H.bl.length} w ρ2 F2 H2 w2→VR w2 F2 ρ2 v0 val→fin v0 H2=some r→Q val w2)→
        CallsIn Fence.wide n C.P f args w (fun e w'=>∃val,e=.returned val∧Q val w'):=by
   intro R fin r Q ρ H hr ha h hfin
   refine callsIn_of_wp_marks hfn hbody trivial ?_
   let B:kp:=⟨ρ,F,{bl:=H.bl,bT:=[],ro:=min H.ro H.bl.length},w,w.heap.size⟩
   refine qc hmix hrec body b1 hb1 none n B _ _ _ r (eo xs) B.H _ w (fun l hl=>by cases hl) h (fun x e' H2 a' w' hk hrel=>?_)
    ⟨ρ,F,hr.bl rfl,zO ha,Ext.refl _ _ _ _,by simp;omega,acH _,[],rfl,aft,by simp⟩
   have hgo:((results1 e' H2 rs).bind fun v=>fin v H2)=some r→
    LeavesInM Fence.wide n C.P fn a'.tmps (fun e w'=>∃val,e=.returned val∧Q val w') a'.defers .returning w':=by
    intro hk
    simp only[acu]at hk
    obtain⟨v0,h1,h2⟩:=hk
    obtain⟨ρ2,F2,q1,q2,q3,q4,q5,Ds,q6,q7,q8⟩:=hrel
    refine oS Ds _ _ q6 q7 (fun D hD=>(q8 D hD).2.1) (fun w2 hs ho hh=>?_)
    obtain⟨z1,z2⟩:=q1.other q3 hs ho (fun Bk hB=>hh Bk (fun hD=>by
     obtain⟨g1,g2,g3,g4⟩:=q8 Bk hD
     rcases hB with hB|⟨b,l,ho,e⟩|hB
     ·exact g3 hB
     ·exact g4 b l ho e
     ·have:Bk<w.heap.size:=hB
      have:w.heap.size≤Bk:=g1
      omega))
    have he2:ER w2 F2 ρ2 e' a'.tmps:=fun t=>(q2 t).mono (fun Bk hB=>hh Bk (fun hD=>(q8 Bk hD).2.2.1 hB)) (fun _ h=>h) (Map.le_refl _)
    obtain⟨val,r1,r2⟩:=rD z1 he2 hrs h1
    exact⟨val,r1,val,rfl,hfin v0 ρ2 F2 H2 w2 val z1 z2 r2 h2⟩
   cases x with
   |normal=>exact hgo hk
   |ret=>exact hgo hk
   |exit id=>cases hk
  exact go _ (fun v H2=>da true H v H2) (v,H') _ ρ H hr ha h (fun v0 ρ2 F2 H2 w2 val k1 k2 k3 k4=>nR hr k1 k2 k3 k4)
theorem xg{b:Nat}{l:Loc}{q:fj}{st st':LoopState}{pend pend':mA}{Q:Loop}{p':Option Code}(hr:HR C ρ F H w)(hl:ρ b=some l)(hg:bk H b=some (.loop q st pend))(hH:ca H b (.loop q st' pend') 0=some H')
 (hQ:w.heap[l.cm]?=some (.loop Q)) (hp:p'=nV pend') :
 HR C ρ F H' (w.putObj l.cm (.loop {Q with state:=st',pending:=p'}))∧Ext C ρ F H w ρ F H' (w.putObj l.cm (.loop {Q with state:=st',pending:=p'})):=by
 obtain⟨l4,m4,m5⟩:=hr.live _ _ hg rfl
 rw[hl]at m4;cases m4
 obtain⟨hv,harr,Q2,g1,g2,g3,g4,g5,g6⟩:=id m5
 rw[hQ]at g1;cases g1
 have hlt:l.cm<w.heap.size:=(ac6.1 hQ).1
 have hown:Own ρ H b l:=⟨⟨_,hg,rfl⟩,hl,hv⟩
 have hkeep:∀Bk,Bk≠l.cm→(w.putObj l.cm (.loop {Q with state:=st',pending:=p'})).heap[Bk]?=w.heap[Bk]?:=fun Bk hne=>World.putObj_heap_other hne
 have hkk:dO F w (w.putObj l.cm (.loop {Q with state:=st',pending:=p'})):=fun Bk hB=>hkeep Bk (fun e=>(hr.own _ _ hown).1 (e▸hB))
 obtain⟨z1,z2⟩:=hr.set (w':=w.putObj l.cm (.loop {Q with state:=st',pending:=p'})) (l':=l) hH hg rfl hl (by simp) (fun Bk _ h=>hkeep Bk (h hv)) (fun h=>.inl ⟨h,rfl⟩) (.inl rfl)
  (fun _=>by
   rw[bY hl]
   exact⟨hv,harr,_,World.putObj_heap_same hlt,rfl,hp,g4,g5,fun t=>(g6 t).mono hkk (fun _ h=>h) (Map.le_refl _)⟩)
  (fun _ N _ _ hbr=>by
   rw[bY hl]
   obtain⟨_,_,q',b1,b2,b3,b4,b5,b6⟩:=hbr
   rw[hQ]at b1;cases b1
   exact⟨hv,harr,_,World.putObj_heap_same hlt,rfl,hp,b4,b5,fun t=>(b6 t).mono hkk (fun _ h=>h) (Map.le_refl _)⟩)
  (fun _=>⟨_,_,_,rfl⟩)
 rw[bY hl]at z1 z2
 exact⟨z1,z2⟩
theorem E7:∀(ps:List Nat) (xs:List SV) (args:List Value) (e:Env) (tmps:Array Value),ER w F ρ e tmps→xs.length=args.length→(∀t∈ps,t<tmps.size)→
 (∀(j:Nat) c v,xs[j]?=some c→args[j]?=some v→VR w F ρ c v)→ER w F ρ ((ps.zip xs).reverse++e) ((ps.zip args).foldl (fun tmps (p:Nat×Value)=>tmps.setIfInBounds p.1 p.2) tmps)∧((ps.zip args).foldl (fun tmps (p:Nat×Value)=>tmps.setIfInBounds p.1 p.2) tmps).size=tmps.size
 |[],xs,args,e,tmps,he,_,_,_=>by simpa using he
 |p::ps,[],[],e,tmps,he,_,_,_=>by simpa using he
 |p::ps,x::xs,a::args,e,tmps,he,hl,hp,hv=>by
  have he':ER w F ρ ((p,x)::e) (tmps.setIfInBounds p a):=DR (a:={tmps:=tmps,defers:=[]}) he (hp p (by simp)) (hv 0 x a rfl rfl)
  obtain⟨h1,h2⟩:=E7 ps xs args ((p,x)::e) (tmps.setIfInBounds p a) he' (by simpa using hl) (fun t ht=>by simpa using hp t (by simp[ht])) (fun j c v hc hv'=>hv (j+1) c v (by simpa using hc) (by simpa using hv'))
  refine⟨?_,by simpa using h2⟩
  simp only[List.zip_cons_cons,afq,aco,aey,adB]
  exact h1
 |p::ps,[],a::args,e,tmps,he,hl,_,_=>by simp at hl
 |p::ps,x::xs,[],e,tmps,he,hl,_,_=>by simp at hl
theorem AB{b:Nat}{l:Loc}{q:fj}{st:LoopState}{pend:mA}(hr:HR C ρ F H w)(hx:Ext C ρ0 F0 H0 w0 ρ F H w)(hl:ρ0 b=some l)(hla:l.arr=false)(hg:bk H b=some (.loop q st pend)) :
 ρ b=some l∧∃Q:Loop,w.heap[l.cm]?=some (.loop Q)∧Q.state=st∧Q.pending=nV pend:=by
 obtain⟨l3,m1,m2⟩:=hx.map b l hl
 have m3:l3=l:=by
  rcases m2 with h|⟨_,h,_⟩
  ·exact h
  ·rw[hla]at h;cases h
 subst m3
 obtain⟨l4,m4,m5⟩:=hr.live _ _ hg rfl
 rw[m1]at m4;cases m4
 obtain⟨hv,harr,Q2,g1,g2,g3,g4,g5,g6⟩:=m5
 exact⟨m1,Q2,g1,g2,g3⟩
theorem yl{b:Nat}{st':LoopState}{pend':mA}(h:fM b st' pend' H=some H'):∃q st pend,bk H b=some (.loop q st pend)∧ca H b (.loop q st' pend') 0=some H':=by
 unfold fM at h
 split at h
 ·rename_i q st pend hg;exact⟨q,st,pend,hg,h⟩
 ·cases h
theorem Ki(hmix:C.P.follows .mixedOrders=true)(hrec:fW C (aa T m)):Ir C (aa T (m+1)):=by
 intro b xs H v H' h ρ F w args l hr ha hl
 simp only[aa]at h
 split at h
 rotate_left
 ·cases h
 rename_i q pend hb
 replace h:=aj h
 obtain⟨hlen,h⟩:=h
 have hlen:q.ps.length=xs.length:=by simpa using hlen
 obtain⟨l',hl',hbr⟩:=hr.live b _ hb rfl
 rw[hl]at hl';cases hl'
 obtain⟨hv,harr,Q,g1,g2,g3,g4,⟨g,nt,g5,g6,g7,g8⟩,g9⟩:=hbr
 have hsz:args.size=Q.params.size:=by
  rw[←ha.1,←hlen,←g4,aeG]
 refine⟨_,_,_,_,run_yield g1 hsz,fun n=>?_⟩
 refine roundIn_of_wpIn trivial ?_
 let B:kp:=⟨ρ,F,{bl:=H.bl,bT:=[],ro:=min H.ro H.bl.length},w,w.heap.size⟩
 have hroB:∀l',some l.cm=some l'→∃q,B.w.heap[l']?=some (.loop q):=fun l' hl'=>by cases hl';exact⟨Q,g1⟩
 have hz:=E7 q.ps xs args.toList q.env Q.tmps g9 (by simp[ha.1]) (fun t ht=>adJ (g6 t ht) g5) (fun j c v hc hv=>ha.2 j c v hc (by simpa using hv))
 have hfold:(Q.params.zip args).foldl (fun tmps (t,a)=>tmps.setIfInBounds t a) Q.tmps=(q.ps.zip args.toList).foldl (fun tmps (p:Nat×Value)=>tmps.setIfInBounds p.1 p.2) Q.tmps:=by
  rw[←Array.foldl_toList,Array.toList_zip,g4]
 rw[hfold]
 refine qc hmix hrec Q.assign q.assign g7 (some l.cm) n B _ _ _ (v,H') _ B.H _ w hroB h (fun x e' H2 a' w' hk hrel=>?_)
  ⟨ρ,F,hr.bl rfl,hz.1,Ext.refl _ _ _ _,by simpa[hz.2]using g5,acH _,[],rfl,aft,by simp⟩
 cases x with
 |exit id=>cases hk
 |ret=>cases hk
 |normal=>
  simp only[acu]at hk
  obtain⟨H3,hH3,hk⟩:=hk
  obtain⟨ρ2,F2,q1,q2,q3,q4,q5⟩:=hrel
  unfold eR at hH3
  split at hH3
  rotate_left
  ·cases hH3
  rename_i qq pp hg3
  obtain⟨k1,Q3,k2,k3,k4⟩:=AB q1 q3 hl harr hg3
  obtain⟨z1,z2⟩:=xg (p':=Q3.pending) q1 k1 hg3 hH3 k2 k4
  refine⟨_,run_beginRound k2 k3,?_⟩
  refine qc hmix hrec Q.body q.body g8 (some l.cm) n B _ _ _ (v,H') e' H3 a' _ hroB hk (fun x e4 H4 a4 w4 hk4 hrel4=>?_) ⟨ρ2,F2,z1,z2.er q1 q2,q3.trans z2,q4,q5.ext z2.toExt0⟩
  simp only[acu,acq,acY]at hk4
  obtain⟨H5,hH5,H6,ht,hvv,rfl⟩:=hk4
  obtain⟨ρ4,F4,p1,p2,p3,p4,p5⟩:=hrel4
  obtain⟨qq4,st4,pp4,hg4,hset4⟩:=yl hH5
  obtain⟨y1,Q4,y2,y3,y4⟩:=AB p1 p3 hl harr hg4
  have fin:∀jump:Option Code,jump=nV x→ca H4 b (.loop qq4 (if jump.isNone then .ready else .done) x) 0=some H5→
   ∃v w',(Instr.endRound l.cm jump).run C.P w4=.ok v w'∧∃val,Ending.returned v=.returned val∧dJ C ρ F H w (.bool jump.isNone) H6 val w':=by
   intro jump hj hset5
   obtain⟨u1,u2⟩:=xg (p':=jump) p1 y1 hg4 hset5 y2 hj
   refine⟨_,_,run_endRound jump y2,_,rfl,?_⟩
   obtain⟨o1,o2⟩:=pQ hr u1 (p3.trans u2) ht
   exact⟨_,_,.bool _,o1,o2⟩
  cases x with
  |normal=>subst hvv;exact fin none rfl hset4
  |exit id=>subst hvv;exact fin (some (.exit id)) rfl hset4
  |ret=>subst hvv;exact fin (some .ret) rfl hset4
theorem vc(hmix:C.P.follows .mixedOrders=true)(hext:uP C)(hT:∀f F1,T f=some F1→wk C.P C.dL f=some F1):∀m,fW C (aa T m)
 |0=>⟨fun f xs H v H' h=>by simp[aa]at h,fun f xs H v H' h=>by simp[aa]at h,fun b xs H v H' h=>by simp[aa]at h⟩
 |m+1=>⟨GN hmix hext hT (vc hmix hext hT m),G8 hmix hext hT (vc hmix hext hT m),Ki hmix (vc hmix hext hT m)⟩
end
end
section
inductive KI where|code (c:ct)|cm (id:Nat)
noncomputable def xY {R:Type} (rec:Rec) (fin:mA→Env→ab→Option R):(K:List KI)→mA→Env→ab→Option R
 |[],x,e,H=>fin x e H
 | .code b::K,.normal,e,H=>run rec b e H (xY rec fin K) ()
 | .code _::K,x,e,H=>xY rec fin K x e H
 | .cm id::K,.exit j,e,H=>bif j==id then xY rec fin K .normal e H else xY rec fin K (.exit j) e H
 | .cm _::K,x,e,H=>xY rec fin K x e H
noncomputable def runK {R:Type} (rec:Rec) (fin:mA→Env→ab→Option R) (c:ct) (K:List KI) (e:Env) (H:ab) (_:oH (fin,c,K)):Option R:=run rec c e H (xY rec fin K) ()
noncomputable def iv {R:Type} (rec:Rec) (fin:mA→Env→ab→Option R) (K:List KI) (x:mA) (e:Env) (H:ab) (_:oH (fin,K)):Option R:=xY rec fin K x e H
noncomputable section
variable{R:Type}(rec:Rec)(fin:mA→Env→ab→Option R)(K:List KI)(e:Env)(H:ab)
theorem kP(c:ct)(k:mA→Env→ab→Option R):run rec c e H k ()=runK rec k c [] e H ():=Eq.trans rfl rfl
@[go_sem] theorem RX (t):runK rec fin .skip K e H t=iv rec fin K .normal e H ():=Eq.trans rfl rfl
@[go_sem] theorem SS (l t):runK rec fin (.ops l) K e H t=cg rec l e H (fun e H=>iv rec fin K .normal e H ()) ():=Eq.trans rfl rfl
@[go_sem] theorem PO (l t):runK rec fin (.drawn l) K e H t=bZ rec l H.bl.length e H (fun e H=>iv rec fin K .normal e H ()) ():=Eq.trans rfl rfl
@[go_sem] theorem Ue (a b t):runK rec fin (.seq a b) K e H t=runK rec fin a (.code b::K) e H ():=by
  show run rec a e H _ _=run rec a e H _ _
  congr 1
  funext x e' H'
  cases x<;>rfl
@[go_sem] theorem QS (c a b t):runK rec fin (.cond c a b) K e H t=rW (ev e c) (fun t=>fork t (runK rec fin a K e H ()) (runK rec fin b K e H ()) ()) ():=Eq.trans rfl rfl
@[go_sem] theorem ND (id a t):runK rec fin (.block id a) K e H t=runK rec fin a (.cm id::K) e H ():=by
  show run rec a e H _ _=run rec a e H _ _
  congr 1
  funext x e' H'
  cases x<;>rfl
@[go_sem] theorem KU (x t):runK rec fin (.freeze x) K e H t=aN (tZ H (get e x)) (fun r=>iv rec fin K .normal ((x,r.1)::e) r.2 ()) ():=Eq.trans rfl rfl
@[go_sem] theorem QX (l os t):runK rec fin (.perm l os) K e H t=aN (jq (os.map (jY rec l e H))) (fun s=>iv rec fin K .normal s.1 s.2 ()) ():=Eq.trans rfl rfl
def Qm(rec:Rec)(p l:List aL)(e:Env)(H:ab):Option (Env×ab):=cg rec p e H (fun e' H'=>some (eZ l e' e,H')) ()
@[go_sem] theorem Zz (l o):jY rec l e H o=Qm rec (cH l o) l e H:=Eq.trans rfl rfl
@[go_sem] theorem QA (o p l):Qm rec (o::p) l e H=cg rec (o::p) e H (fun e' H'=>some (eZ l e' e,H')) ():=Eq.trans rfl rfl
@[go_sem] theorem Sz (l):cH l []=[]:=Eq.trans rfl rfl
@[go_sem] theorem QK (l i r):cH l (i::r)=zu l[i]? (cH l r):=Eq.trans rfl rfl
@[go_sem] theorem MF (o r):zu (some o) r=o::r:=Eq.trans rfl rfl
@[go_sem] theorem T1 (e e0):eZ [] e e0=e0:=Eq.trans rfl rfl
@[go_sem] theorem R3 (d op g l e e0):eZ (⟨some d,op,g⟩::l) e e0=(d,get e d)::eZ l e e0:=Eq.trans rfl rfl
@[go_sem] theorem RM (op g l e e0):eZ (⟨none,op,g⟩::l) e e0=eZ l e e0:=Eq.trans rfl rfl
@[go_sem] theorem KO {A:Type}(a:Option A):jq [a]=a:=Eq.trans rfl rfl
@[go_sem] theorem KJ {A:Type}(a:Option A)(r):jq (a::a::r)=jq (a::r):=by rw[jq,if_pos rfl]
@[go_sem] theorem Rn (id t):runK rec fin (.exit id) K e H t=iv rec fin K (.exit id) e H ():=Eq.trans rfl rfl
@[go_sem] theorem SF (t):runK rec fin .ret K e H t=iv rec fin K .ret e H ():=Eq.trans rfl rfl
@[go_sem] theorem Rq (vs t):runK rec fin (.bC vs) K e H t=aN (fF vs e H) (fun s=>iv rec fin K .normal s.1 s.2 ()) ():=Eq.trans rfl rfl
@[go_sem] theorem VE (d neg x c t):runK rec fin (.G6 d neg x c) K e H t=qx (AT H (ev e x)) neg (fun b=>runK rec fin c K ((d,.bool b)::e) H ()) ():=Eq.trans rfl rfl
def fo(p:cu)(N:Nat)(H0:ab)(rec:Rec)(a:ct)(s':Env×ab):Option Out:=(eu p N H0 s').bind fun s'=>run rec a s'.1 s'.2 (fun x e H=>some (x,e,H)) ()
@[go_sem] theorem RB (p a t):runK rec fin (.loop p a) K e H t=aN (fF p.bC e H) (fun s=>aN (kR (fo p s.2.bl.length {bl:=s.2.bl,bT:=[],ro:=s.2.ro} rec a) (s.1,{bl:=s.2.bl,bT:=[],ro:=s.2.ro}))
 (fun o=>iv rec fin K o.1 o.2.1 {bl:=o.2.2.bl,bT:=s.2.bT++o.2.2.bT,ro:=o.2.2.ro} ()) ()) ():=Eq.trans rfl rfl
@[go_sem] theorem KL (f ps x y t):runK rec fin (.iE f ps x y) K e H t=aN (pI rec (ev e f) [.fP H.bl.length] (bJ H (.loop ⟨e,ps,x,y⟩ .ready .normal))) (fun r=>
 match bk r.2 H.bl.length with
 |some (.loop q st pend)=>match st with
  | .busy=>none
  |_=>aN (ca r.2 H.bl.length (.loop q .exhausted pend) 0) (fun H=>iv rec fin K pend e H ()) ()
 |_=>none) ():=Eq.trans rfl rfl
@[go_sem] theorem Ur (x t):iv rec fin [] x e H t=fin x e H:=Eq.trans rfl rfl
@[go_sem] theorem Ew (b t):iv rec fin (.code b::K) .normal e H t=runK rec fin b K e H ():=Eq.trans rfl rfl
@[go_sem] theorem HL (b t):iv rec fin (.code b::K) .ret e H t=iv rec fin K .ret e H ():=Eq.trans rfl rfl
@[go_sem] theorem Hv (b id t):iv rec fin (.code b::K) (.exit id) e H t=iv rec fin K (.exit id) e H ():=Eq.trans rfl rfl
@[go_sem] theorem Fo (b t):iv rec fin (.cm b::K) .normal e H t=iv rec fin K .normal e H ():=Eq.trans rfl rfl
@[go_sem] theorem Jq (b t):iv rec fin (.cm b::K) .ret e H t=iv rec fin K .ret e H ():=Eq.trans rfl rfl
@[go_sem] theorem Ih (b id t):iv rec fin (.cm b::K) (.exit id) e H t=bif id==b then iv rec fin K .normal e H ()else iv rec fin K (.exit id) e H ():=Eq.trans rfl rfl
end
section
variable{R:Type}
@[go_sem] theorem Kv (x y:R)(t:oH (x,y)):fork true x y t=x:=Eq.trans rfl rfl
@[go_sem] theorem IM (x y:R)(t:oH (x,y)):fork false x y t=y:=Eq.trans rfl rfl
theorem aD{b:Bool}{x y r:R}{t:oH (x,y)}(h1:b=true→x=r)(h2:b=false→y=r):fork b x y t=r:=by
 cases b
 ·exact h2 rfl
 ·exact h1 rfl
@[go_sem] theorem GS (b w:Bool)(f:Bool→Option R)(t:oH f):fI (.bool b) w f t=f (b==w):=Eq.trans rfl rfl
@[go_sem] theorem HS (w:Bool)(f:Bool→Option R)(t:oH f):fI .jy w f t=f false:=Eq.trans rfl rfl
@[go_sem] theorem Iv (b:Bool)(f:Bool→Option R)(t:oH f):rW (.bool b) f t=f b:=Eq.trans rfl rfl
@[go_sem] theorem H9 (neg:Bool)(f:Bool→Option R)(t:oH f):qx (some false) neg f t=f neg:=Eq.trans rfl rfl
theorem ya{neg:Bool}{f:Bool→Option R}{t:oH f}{r:Option R}(h1:f true=r)(h2:f false=r):qx (some true) neg f t=r:=by
 unfold qx
 simp[h1,h2]
@[go_sem] theorem HH {A:Type}(v:A)(f:A→Option R)(t:oH f):aN (some v) f t=f v:=Eq.trans rfl rfl
@[go_sem] theorem JX {A B:Type}(v:Option B)(g:B→A)(f:A→Option R)(t:oH f):aN (v.map g) f t=aN v (fun x=>f (g x)) ():=by cases v<;>rfl
@[go_sem] theorem Ic {A B:Type}(v:Option B)(g:B→Option A)(f:A→Option R)(t:oH f):aN (v.bind g) f t=aN v (fun x=>aN (g x) f ()) ():=by cases v<;>rfl
@[go_sem] theorem LW {A:Type}(x y:A):(bif true then x else y)=x:=Eq.trans rfl rfl
@[go_sem] theorem KX {A:Type}(x y:A):(bif false then x else y)=y:=Eq.trans rfl rfl
end
@[go_sem] theorem aaD (e:Env)(n:Nat):ev e (.t n)=get e n:=Eq.trans rfl rfl
@[go_sem] theorem ZZ (e:Env)(v:SV):ev e (.c v)=v:=Eq.trans rfl rfl
@[go_sem] theorem LY (j i:Nat)(v:SV)(e:Env):get ((j,v)::e) i=bif i==j then v else get e i:=Eq.trans rfl rfl
@[go_sem] theorem JO (e:Env)(v:SV):cf e none v=e:=Eq.trans rfl rfl
@[go_sem] theorem JW (e:Env)(d:Nat)(v:SV):cf e (some d) v=(d,v)::e:=Eq.trans rfl rfl
@[go_sem] theorem Lc (x:SV)(r:List SV):eo (x::r)=(0,x)::eo.go 1 r:=Eq.trans rfl rfl
@[go_sem] theorem MR:eo []=[]:=Eq.trans rfl rfl
@[go_sem] theorem RN (i:Nat)(x:SV)(r:List SV):eo.go i (x::r)=(i,x)::eo.go (i+1) r:=Eq.trans rfl rfl
@[go_sem] theorem VZ (i:Nat):eo.go i []=[]:=Eq.trans rfl rfl
section
variable{R:Type}(rec:Rec)(e:Env)(H:ab)(k:Env→ab→Option R)
@[go_sem] theorem Th (t):cg rec [] e H k t=k e H:=Eq.trans rfl rfl
@[go_sem] theorem Rw (d:Option Nat)(op:mi)(os:List aL)(t):cg rec (⟨d,op,none⟩::os) e H k t=aN (au rec e H op) (fun r=>cg rec os (cf e d r.1) r.2 k ()) ():=Eq.trans rfl rfl
@[go_sem] theorem PF (d:Option Nat)(x:Nat)(w:Bool)(op:mi)(os:List aL)(t):cg rec (⟨d,op,some (x,w)⟩::os) e H k t=fI (get e x) w (fun b=>fork b (aN (au rec e H op) (fun r=>cg rec os (cf e d r.1) r.2 k ()) ())
 (cg rec os (cf e d .jy) H k ()) ()) ():=Eq.trans rfl rfl
@[go_sem] theorem UU (N t):bZ rec [] N e H k t=k e H:=Eq.trans rfl rfl
@[go_sem] theorem Sl (d:Option Nat)(op:mi)(q:bH)(os:List (aL×bH))(N t):bZ rec ((⟨d,op,none⟩,q)::os) N e H k t=aN (b9 rec N q e H op) (fun r=>bZ rec os (fS q N r.2) (cf e d r.1) r.2 k ()) ():=Eq.trans rfl rfl
@[go_sem] theorem PX (d:Option Nat)(x:Nat)(w:Bool)(op:mi)(q:bH)(os:List (aL×bH))(N t):bZ rec ((⟨d,op,some (x,w)⟩,q)::os) N e H k t=
 fI (get e x) w (fun b=>fork b (aN (b9 rec N q e H op) (fun r=>bZ rec os (fS q N r.2) (cf e d r.1) r.2 k ()) ())
  (bif iZ q then bZ rec os (fS q N H) (cf e d .jy) H k ()else none) ()) ():=Eq.trans rfl rfl
@[go_sem] theorem Q8 (h n o N):fS ⟨.pure,h,n,o⟩ N H=N:=Eq.trans rfl rfl
@[go_sem] theorem SX (h n o N):fS ⟨.j6,h,n,o⟩ N H=N:=Eq.trans rfl rfl
@[go_sem] theorem SO (h n o N):fS ⟨.gU,h,n,o⟩ N H=H.bl.length:=Eq.trans rfl rfl
@[go_sem] theorem RP (h n o):iZ ⟨.pure,h,n,o⟩=true:=Eq.trans rfl rfl
@[go_sem] theorem WL (h n o):iZ ⟨.gU,h,n,o⟩=true:=Eq.trans rfl rfl
@[go_sem] theorem SG (h o):iZ ⟨.j6,h,0,o⟩=true:=Eq.trans rfl rfl
@[go_sem] theorem RD (op N h n o):b9 rec N ⟨.pure,h,n,o⟩ e H op=au rec e H op:=Eq.trans rfl rfl
theorem ym(N:Nat)(H:ab):∀d,ez N H d=ez N ⟨H.bl,[],0⟩ d
 |0=>by funext v;rfl
 |d+1=>by
  have ih:=ym N H d
  funext v
  simp only[ez]
  rw[ih]
  rfl
theorem Db(N o f xs):b9 rec N ⟨.j6,[],0,o⟩ e H (.lu f xs)=au rec e H (.lu f xs):=by
 simp only[b9,au,sX,cE,af4]
 rw[ym 0 {bl:=H.bl,bT:=[],ro:=H.bl.length},ym 0 H]
 cases bR ((xs.map (ev e)).map (ez 0 ⟨H.bl,[],0⟩ cG))with
 |none=>rfl
 |some vs=>
  simp only[adq]
  cases rec (.fn f) vs ⟨[],[],0⟩with
  |none=>rfl
  |some r=>
   simp only[adq]
   cases zn r.1<;>simp
attribute [go_sem] Db
theorem rC(N:Nat):∀(h:List Nat) (l:List aC),(cE N h l).length=l.length
 |[],_=>rfl
 |d::h,l=>by
  have:=rC N h (l.set (N+d) .dead)
  simp only[cE,adB]at this⊢
  rw[this,acU]
def xW:mi→Bool
 | .load .. | .af .. | .bw .. | .gP .. | .len .. | .eV .. | .eh .. | .isNil .. =>true
 |_=>false
theorem Da{op:mi}(h:xW op=true):∃g:List aC→Option SV,∀H:ab,au rec e H op=(g H.bl).map (·,H):=by
 cases op<;>try (exfalso;simp only[xW,adh]at h;done)
 case load ag n a=>exact⟨fun bl=>dg ag n ⟨bl,[],0⟩ (ev e a),fun H=>by
  simp only[au,cb];congr 1⟩
 case isNil k neg x=>exact⟨fun bl=>(gg ⟨bl,[],0⟩ k (ev e x)).map fun b=>.bool (neg ^^ b),fun H=>by
  simp only[au,cb]
  have:gg H k (ev e x)=gg ⟨H.bl,[],0⟩ k (ev e x):=rfl
  rw[this];cases gg ⟨H.bl,[],0⟩ k (ev e x)<;>rfl⟩
 case eh x=>exact⟨fun bl=>bif cur ⟨bl,[],0⟩ (ev e x)then lZ (ev e x)else none,fun H=>by
  simp only[au,cb]
  have:cur H (ev e x)=cur ⟨H.bl,[],0⟩ (ev e x):=rfl
  rw[this];cases cur ⟨H.bl,[],0⟩ (ev e x)<;>rfl⟩
 case eV bP x lo hi mx=>exact⟨fun bl=>bif ew ⟨bl,[],0⟩ bP (ev e x)then(lj (ev e x) (lo.map (ev e)) (hi.map (ev e)) (mx.map (ev e))).orElse fun _=>gr ⟨bl,[],0⟩ (ev e x) (lo.map (ev e)) (hi.map (ev e)) (mx.map (ev e))else none,fun H=>by
  simp only[au,cb]
  have:ew H bP (ev e x)=ew ⟨H.bl,[],0⟩ bP (ev e x):=rfl
  rw[this];cases ew ⟨H.bl,[],0⟩ bP (ev e x)<;>rfl⟩
 case af off x=>exact⟨fun bl=>bif cur ⟨bl,[],0⟩ (ev e x)then fK off (ev e x)else none,fun H=>by
  simp only[au,cb]
  have:cur H (ev e x)=cur ⟨H.bl,[],0⟩ (ev e x):=rfl
  rw[this];cases cur ⟨H.bl,[],0⟩ (ev e x)<;>rfl⟩
 case bw bP x ix=>exact⟨fun bl=>bif ew ⟨bl,[],0⟩ bP (ev e x)then ja (ev e x) (ev e ix)else none,fun H=>by
  simp only[au,cb]
  have:ew H bP (ev e x)=ew ⟨H.bl,[],0⟩ bP (ev e x):=rfl
  rw[this];cases ew ⟨H.bl,[],0⟩ bP (ev e x)<;>rfl⟩
 case gP len bP x ix=>exact⟨fun bl=>bif cur ⟨bl,[],0⟩ (ev e x)then(jG len (ev e ix)).bind fun i=>fK (i*bP) (ev e x)else none,fun H=>by
  simp only[au,cb]
  have:cur H (ev e x)=cur ⟨H.bl,[],0⟩ (ev e x):=rfl
  rw[this];cases cur ⟨H.bl,[],0⟩ (ev e x)with
  |true=>simp only[acG];cases jG len (ev e ix)<;>rfl
  |false=>rfl⟩
 case len x=>exact⟨fun bl=>bif cur ⟨bl,[],0⟩ (ev e x)then(pY (ev e x)).map fun(n:Nat)=>.int .i64 n else none,fun H=>by
  simp only[au,cb]
  have:cur H (ev e x)=cur ⟨H.bl,[],0⟩ (ev e x):=rfl
  rw[this];cases cur ⟨H.bl,[],0⟩ (ev e x)with
  |true=>simp only[acG];cases pY (ev e x)<;>rfl
  |false=>rfl⟩
theorem l8{op:mi}(h:xW op=true)(N o):b9 rec N ⟨.j6,[],0,o⟩ e H op=au rec e H op:=by
 obtain⟨g,hg⟩:=Da rec e h
 simp only[b9,hg,cE,af4]
 cases hq:g H.bl with
 |none=>rfl
 |some v=>simp
@[go_sem] theorem Rj (N o ag n a):b9 rec N ⟨.j6,[],0,o⟩ e H (.load ag n a)=au rec e H (.load ag n a):=l8 rec e H (by rfl) N o
@[go_sem] theorem OW (N o n a):b9 rec N ⟨.j6,[],0,o⟩ e H (.af n a)=au rec e H (.af n a):=l8 rec e H (by rfl) N o
@[go_sem] theorem KA (N o n a b):b9 rec N ⟨.j6,[],0,o⟩ e H (.bw n a b)=au rec e H (.bw n a b):=l8 rec e H (by rfl) N o
@[go_sem] theorem S4 (N o a):b9 rec N ⟨.j6,[],0,o⟩ e H (.len a)=au rec e H (.len a):=l8 rec e H (by rfl) N o
@[go_sem] theorem KP (N o n a x y z):b9 rec N ⟨.j6,[],0,o⟩ e H (.eV n a x y z)=au rec e H (.eV n a x y z):=l8 rec e H (by rfl) N o
@[go_sem] theorem K5 (N o a):b9 rec N ⟨.j6,[],0,o⟩ e H (.eh a)=au rec e H (.eh a):=l8 rec e H (by rfl) N o
@[go_sem] theorem Ri (N h n o f xs):b9 rec N ⟨.j6,h,n,o⟩ e H (.call f xs)=aN (kY rec (ev e f) (xs.map (ev e)) {bl:=cE N h H.bl,bT:=[],ro:=H.bl.length}) (fun r=>
 bif r.2.bl.length==H.bl.length+n&&r.2.bT.isEmpty then some (r.1,{bl:=H.bl++r.2.bl.drop H.bl.length,bT:=H.bT,ro:=H.ro})else none) ():=Eq.trans rfl (by cases hq:kY rec (ev e f) (xs.map (ev e)) {bl:=cE N h H.bl,bT:=[],ro:=H.bl.length}<;>simp[aN,b9,au,hq])
theorem zd(N h n o op):b9 rec N ⟨.j6,h,n,o⟩ e H op=aN (au rec e {bl:=cE N h H.bl,bT:=[],ro:=H.bl.length} op) (fun r=>
 bif r.2.bl.length==H.bl.length+n&&r.2.bT.isEmpty then some (r.1,{bl:=H.bl++r.2.bl.drop H.bl.length,bT:=H.bT,ro:=H.ro})else none) ():=by
 show(au rec e _ op).bind _=_
 cases au rec e {bl:=cE N h H.bl,bT:=[],ro:=H.bl.length} op<;>rfl
@[go_sem] theorem Na (N h o z):b9 rec N ⟨.j6,h,1,o⟩ e H (.alloc z)=some (.ptr H.bl.length 0 0 0,{bl:=H.bl++[.box z],bT:=H.bT,ro:=H.ro}):=by
  rw[zd]
  have hl:=rC N h H.bl
  have hd:(cE N h H.bl++[aC.box z]).drop H.bl.length=[.box z]:=by rw[←hl];simp
  simp[au,cb,aN,bJ,hl,hd]
@[go_sem] theorem XK (N h o x):b9 rec N ⟨.j6,h,1,o⟩ e H (.box x)=(cq (ev e x)).map fun cs=>(.ptr H.bl.length 0 0 0,{bl:=H.bl++[.box cs],bT:=H.bT,ro:=H.ro}):=by
  rw[zd]
  have hl:=rC N h H.bl
  simp only[au,cb]
  cases cq (ev e x)with
  |none=>rfl
  |some cs=>
   have hd:(cE N h H.bl++[aC.box cs]).drop H.bl.length=[.box cs]:=by rw[←hl];simp
   simp[aN,bJ,hl,hd]
@[go_sem] theorem J4 (N h n o a b c d f):b9 rec N ⟨.j6,h,n,o⟩ e H (.eO a b c d f)=aN (au rec e {bl:=cE N h H.bl,bT:=[],ro:=H.bl.length} (.eO a b c d f)) (fun r=>
 bif r.2.bl.length==H.bl.length+n&&r.2.bT.isEmpty then some (r.1,{bl:=H.bl++r.2.bl.drop H.bl.length,bT:=H.bT,ro:=H.ro})else none) ():=zd rec e H N h n o _
@[go_sem] theorem Xk (op N h n o):b9 rec N ⟨.gU,h,n,o⟩ e H op=aN (au rec e H op) (fun r=>bif decide (H.bl.length≤r.2.bl.length)then some r else none) ():=by
  show(au rec e H op).bind _=_
  cases au rec e H op<;>rfl
end
end
end Go.Sh
