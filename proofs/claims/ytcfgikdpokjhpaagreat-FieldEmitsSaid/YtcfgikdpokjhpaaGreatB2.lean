/- A part of the proof: texts ShTa, ShU, ShV, ShW, ShX, ShXw, ShX1, ShXp, ShY, ShZ, ShEv. -/
import Derived.LoopNIn
import Derived.RangeFuncNested
import Derived.OrdersIn
import Derived.Test.YtcfgikdpokjhpaaGreatB1
namespace Go.Sh
set_option linter.unusedSectionVars false
set_option linter.unnecessarySimpa false
set_option linter.unusedSimpArgs false
set_option linter.unusedVariables false
set_option maxRecDepth 100000
set_option maxHeartbeats 4000000
section
section
variable{C:Ctx}
theorem HR.UP{ρ:Map}{F:Nat→Prop}{H H1:ab}{w:World}(hr:HR C ρ F H w){b:Nat}{x:aD}{l:Loc}{refs:Nat}(hH:cp H b .dead refs=some H1)(hb:H.bl[b]?=some x)(hx:x.live=true)(hl:ρ b=some l)(hnl:∀r st p,x≠.loop r st p) :
 HR C ρ (fun B=>F B∨(l.bB=false∧B=l.cg)) H1 w∧Ext C ρ F H w ρ (fun B=>F B∨(l.bB=false∧B=l.cg)) H1 w:=by
 obtain⟨p1,p2⟩:=hr.set (w':=w) (l':=l) (y:=.dead) hH hb hx hl (Zp _) (fun _ _ _=>rfl) (fun h=>.inl ⟨h,rfl⟩) (.inl rfl) (fun h=>by cases h) (fun h=>by cases h) (fun⟨r,st,p,h⟩=>absurd h (hnl r st p))
 rw[bW hl]at p1 p2
 have hro:H.ro≤b∧b<H.bl.length∧H1.bl=H.bl.set b .dead:=by
  unfold cp at hH
  replace hH:=aj hH
  obtain⟨h1,h2⟩:=hH
  simp at h1
  cases h2
  exact⟨h1.1,h1.2,rfl⟩
 have hown:∀b' l1,Own ρ H1 b' l1→b'≠b∧Own ρ H b' l1:=by
  intro b' l1 ⟨⟨y,hy,hyl⟩,hm,hv⟩
  have hne:b'≠b:=by
   intro e
   subst e
   rw[hro.2.2]at hy
   simp[hro.2.1]at hy
   subst hy;cases hyl
  rw[hro.2.2,Zg (Ne.symm hne)]at hy
  exact⟨hne,⟨y,hy,hyl⟩,hm,hv⟩
 refine⟨⟨p1.jn,fun b' y hy hyl=>?_,p1.apart,fun b' l1 ho=>⟨fun h=>?_,(p1.own b' l1 ho).2⟩,fun B hB=>?_⟩,?_⟩
 ·obtain⟨l1,h1,h2⟩:=p1.live b' y hy hyl
  exact⟨l1,h1,h2.mono (fun _ _=>rfl) (fun _ h=>.inl h) (Map.le_refl _) (fun _=>rfl)⟩
 ·rcases h with h|⟨hv,h⟩
  ·exact(p1.own b' l1 ho).1 h
  ·obtain⟨h1,h2⟩:=hown b' l1 ho
   exact h1 (hr.apart b' b l1 l h2 ⟨⟨x,hb,hx⟩,hl,hv⟩ h)
 ·rcases hB with h|⟨hv,h⟩
  ·exact p1.gW B h
  ·rw[h];exact(hr.own b l ⟨⟨x,hb,hx⟩,hl,hv⟩).2
 ·refine⟨⟨p2.map,fun _ h=>.inl h,fun B hB=>?_,p2.frame,p2.size,p2.old,p2.ro,p2.bQ,fun N hN hc h0 b' y l1 hb1 hy hyl hm=>(p2.inv N hN hc h0 b' y l1 hb1 hy hyl hm).mono (fun _ _=>rfl) (fun _ h=>.inl h) (Map.le_refl _) (fun _=>rfl),p2.lp,p2.ln,p2.out⟩,p2.nd⟩
  rcases hB with h|⟨hv,h⟩
  ·exact .inl h
  ·exact .inr (.inr ⟨b,l,⟨⟨x,hb,hx⟩,hl,hv⟩,hro.1,h.symm⟩)
theorem zj{ρ ρ':Map}{F F':Nat→Prop}{H:ab}{w:World}(hr:HR C ρ F H w){b cw off n z:Nat}{L:List (List SV)}{ex:Bool}{val:Value}{l:Loc}(hv:VR w F ρ (.bp b cw off n) val)(hb:bk H b=some (.arr cw z L ex))(hle:off+n≤L.length)
 (h0:SV.refs.au ((L.drop off).take n).flatten=0) (hl:ρ b=some l) (hFF:∀B,F B→F' B) (hF:l.bB=false→F' l.cg):VR w F' ρ' (.aA z ((L.drop off).take n) false) val:=by
 obtain⟨l',z',L',ex',hl',hb',hbr,g1,g2⟩:=dV hr (by unfold cur;simp[hb]) hv
 rw[hb]at hb';cases hb'
 rw[hl]at hl';cases hl'
 obtain⟨b1,b2,b3,b4,b5,b6,b7,b8⟩:=hbr
 have hlen:((L.drop off).take n).length=n:=by simp;omega
 have bk:∀(i:Nat) cs,((L.drop off).take n)[i]?=some cs→i<n∧L[off+i]?=some cs:=by
  intro i cs hi
  rw[ZC]at hi
  split at hi
  ·rw[ZT]at hi;exact⟨by assumption,hi⟩
  ·cases hi
 cases hvi:l.bB with
 |true=>
  obtain⟨q,rfl,rfl,rfl⟩:=g1 hvi
  have:VR w F' ρ' (.aA z [] false) (.slice q ([]:List (List SV)).length 0):=.aA (fun _ _=>undef) (Zp _) (fun _=>rfl) (by simp) (.inl rfl) (by simp) (by simp)
  simpa using this
 |false=>
  obtain⟨g3,q,rfl,g4⟩:=g2 hvi
  obtain⟨vs,ty,fz,k1,k2,k3,k4⟩:=b8 hvi
  have hcell:∀(i j:Nat) cs c,((L.drop off).take n)[i]?=some cs→cs[j]?=some c→∃v,vs[l.base+(off+i)*z+j]?=some v∧VR w F ρ c v∧c.iu=true:=fun i j cs c hi hj=>k4 _ cs (bk i cs hi).2 j c hj
  have hq:VR w F' ρ' (.aA z ((L.drop off).take n) false) (.slice q ((L.drop off).take n).length (l.cap-off)):=by
   refine .aA (fun i j=>vs.getD (l.base+(off+i)*z+j) undef) (by omega) (fun h=>by cases h) (fun i cs hi=>b4 _ cs (bk i cs hi).2) ?_ (fun i j cs c hi hj=>?_) (fun i j cs c hi hj=>?_)
   ·by_cases hn:n=0
    ·left;subst hn;simp
    ·right
     refine⟨l.cg,l.base+off*z,?_,hF hvi,fun i j cs c hi hj=>?_⟩
     ·rw[g4 (by omega),b3]
     ·obtain⟨v,h1,_⟩:=hcell i j cs c hi hj
      rw[my k1,show l.base+off*z+i*z+j=l.base+(off+i)*z+j by rw[aac];omega,h1]
      rw[aal,h1];rfl
   ·obtain⟨v,h1,h2,h3⟩:=hcell i j cs c hi hj
    exact h3
   ·obtain⟨v,h1,h2,h3⟩:=hcell i j cs c hi hj
    rw[aal,h1]
    have hm:c∈((L.drop off).take n).flatten:=abH.2 ⟨cs,Zj hi,Zj hj⟩
    obtain⟨m,hm⟩:=ZH hm
    have h5:=eL (aaY h0) m c hm
    have h6:=h2.cut 0 h5
    have:ρ.cut 0=dj:=by funext b;simp[Map.cut]
    rw[this]at h6
    exact h6.mono (fun _ _=>rfl) hFF (Map.le_refl _)
  rw[hlen]at hq
  exact hq
theorem Dn{ρ:Map}{F:Nat→Prop}{w:World}{N:Nat}(hdom:∀b l,ρ b=some l→b<N):ρ.cut N=ρ:=by
 funext b
 unfold Map.cut
 split
 ·rfl
 ·rename_i h
  cases hb:ρ b with
  |none=>rfl
  |some l=>exact absurd (hdom b l hb) h
theorem Dr(ρ:Map){N M:Nat}(h:M≤N):(ρ.cut N).cut M=ρ.cut M:=by
 funext b
 unfold Map.cut
 by_cases hb:b<M
 ·simp[hb,show b<N by omega]
 ·simp[hb]
structure Bi(N:Nat)(H0 H H1:ab):Prop where
 le:N≤H.bl.length
 clean:Clean N H.bQ
 bl:H1.bl=H.bl.take N
 T1:∀p∈H0.bQ,p∈H1.bQ
 SK:∀p∈H.bQ,p.1<N→p∈H1.bQ
 ro:H1.ro=H0.ro
theorem lW{N:Nat}{H0 H H1:ab}(h:cV N H0 H=some H1):Bi N H0 H H1:=by
 unfold cV at h
 replace h:=aj h
 obtain⟨hc,h⟩:=h
 cases h
 simp only[Zh,Ze]at hc
 refine⟨hc.1,fun p hp=>?_,rfl,fun p hp=>aas _ hp,fun p hp hl=>aa5 _ (aaA.2 ⟨hp,by simpa using hl⟩),rfl⟩
 have:=ZA.1 hc.2 p hp
 simp only[ZK,aaU,Zi]at this
 omega
theorem HR.cV{ρ0 ρ:Map}{F0 F:Nat→Prop}{H0 H H1:ab}{w0 w:World}{N:Nat}(hr0:HR C ρ0 F0 H0 w0)(hN:H0.bl.length=N)(hr:HR C ρ F H w)(hx:Ext C ρ0 F0 H0 w0 ρ F H w)(ht:Bi N H0 H H1) :
 HR C (ρ.cut N) F H1 w∧Ext C ρ0 F0 H0 w0 (ρ.cut N) F H1 w:=by
 have hlen:H1.bl.length=N:=by rw[ht.bl,Z8];exact aap ht.le
 have bk:∀(b:Nat) x,H1.bl[b]?=some x→b<N∧H.bl[b]?=some x:=by
  intro b x hb
  rw[ht.bl,ZC]at hb
  split at hb
  ·exact⟨by assumption,hb⟩
  ·cases hb
 have hcut:∀b l,ρ.cut N b=some l→b<N∧ρ b=some l:=by
  intro b l hb
  unfold Map.cut at hb
  split at hb
  ·exact⟨by assumption,hb⟩
  ·cases hb
 have hown:∀b l,Own (ρ.cut N) H1 b l→Own ρ H b l:=by
  intro b l ⟨⟨x,hx,hxl⟩,hm,hv⟩
  exact⟨⟨x,(bk b x hx).2,hxl⟩,(hcut b l hm).2,hv⟩
 have hinv:Bx C N ρ F H w:=hx.inv N ht.le ht.clean (fun _ b x l hb hbx hxl hl=>by
  rw[Dn (F:=F0) (w:=w0) (fun b l h=>hN▸hr0.jn b l h)]
  obtain⟨l',h1,h2⟩:=hr0.live b x hbx hxl
  rw[hl]at h1;cases h1
  exact h2)
 refine⟨⟨fun b l hb=>by rw[hlen];exact(hcut b l hb).1,fun b x hb hxl=>?_,fun b b' l l' h h' e=>hr.apart b b' l l' (hown b l h) (hown b' l' h') e,fun b l ho=>hr.own b l (hown b l ho),hr.gW⟩,?_⟩
 ·obtain⟨h1,h2⟩:=bk b x hb
  obtain⟨l,h3,_⟩:=hr.live b x h2 hxl
  exact⟨l,by unfold Map.cut;rw[if_pos h1];exact h3,hinv b x l h1 h2 hxl h3⟩
 ·refine⟨⟨fun b l hb=>?_,hx.gW,hx.new,hx.frame,hx.size,fun b l ho=>hx.old b l (hown b l ho),ht.ro,ht.T1,fun M hM hc h0 b x l hb hbx hxl hl=>?_,hx.lp,by rw[hlen];omega,hx.out⟩,fun b l hb=>hx.nd b l (hcut b l hb).2⟩
  ·obtain⟨l',h1,h2⟩:=hx.map b l hb
   have:=hr0.jn b l hb
   exact⟨l',by unfold Map.cut;rw[if_pos (by omega)];exact h1,h2⟩
  ·rw[hlen]at hM
   rw[Dr ρ hM]
   refine hx.inv M (ZN hM ht.le) (fun p hp hpc=>?_) h0 b x l hb (bk b x hbx).2 hxl (hcut b l hl).2
   exact hc p (ht.SK p hp (by omega)) hpc
end
section
variable{C:Ctx}{ρ ρ0 ρ':Map}{F F0 F':Nat→Prop}{H H0 H' H1:ab}{w w0 w':World}
theorem Ext.enter(hr:HR C ρ F H w)(h:Ext C ρ F {bl:=H.bl,bQ:=[],ro:=min H.ro H.bl.length} w ρ' F' H' w')(e1:H1.bl=H'.bl)(e2:H1.bQ=H.bQ++H'.bQ)(e3:H1.ro=H.ro):Ext C ρ F H w ρ' F' H1 w':=by
 have hlt:∀b l,Own ρ {bl:=H.bl,bQ:=[],ro:=min H.ro H.bl.length} b l→Own ρ H b l∧b<H.bl.length:=fun b l ho=>⟨ho,hr.jn b l ho.2.1⟩
 have hown:∀b l,Own ρ' H1 b l→Own ρ' H' b l:=fun b l ⟨⟨x,hx,hxl⟩,hm,hv⟩=>⟨⟨x,e1▸hx,hxl⟩,hm,hv⟩
 refine⟨⟨fun b l hb=>?_,h.gW,fun B hB=>?_,fun B hB hno=>h.frame B hB (fun b l ho hm=>hno b l ho (by have:=(hlt b l ho).2;simp only at hm;omega)),h.size,fun b l ho=>h.old b l (hown b l ho),e3,fun p hp=>?_,fun N hN hc h0 b x l hb hx hxl hl=>?_,h.lp,e1▸h.ln,h.out⟩,h.nd⟩
 ·obtain⟨l',h1,h2⟩:=h.map b l hb
  refine⟨l',h1,h2.imp id (fun⟨a,c⟩=>⟨?_,c⟩)⟩
  have:=hr.jn b l hb
  simp only at a
  omega
 ·rcases h.new B hB with h1|h1|⟨b,l,h1,h2,h3⟩
  ·exact .inl h1
  ·exact .inr (.inl h1)
  ·have:=(hlt b l h1).2
   exact .inr (.inr ⟨b,l,h1,by simp only at h2;omega,h3⟩)
 ·rw[e2];exact aas _ hp
 ·rw[e1]at hx hN
  exact h.inv N hN (fun p hp=>hc p (by rw[e2];exact aa5 _ hp)) h0 b x l hb hx hxl hl
theorem HR.bl(hr:HR C ρ F H w)(e1:H1.bl=H.bl):HR C ρ F H1 w:=
 ⟨fun b l h=>e1▸hr.jn b l h,fun b x hb hx=>hr.live b x (e1▸hb) hx,fun b b' l l' h h' e=>hr.apart b b' l l' (by obtain⟨⟨x,h1,h2⟩,h3⟩:=h;exact⟨⟨x,e1▸h1,h2⟩,h3⟩) (by obtain⟨⟨x,h1,h2⟩,h3⟩:=h';exact⟨⟨x,e1▸h1,h2⟩,h3⟩) e,
  fun b l h=>hr.own b l (by obtain⟨⟨x,h1,h2⟩,h3⟩:=h;exact⟨⟨x,e1▸h1,h2⟩,h3⟩),hr.gW⟩
theorem od(hr0:HR C ρ0 F0 H0 w0)(hr:HR C ρ F H w)(hx:Ext C ρ0 F0 {bl:=H0.bl,bQ:=[],ro:=min H0.ro H0.bl.length} w0 ρ F H w)(ht:cV H0.bl.length H0 H=some H1) :
 HR C (ρ.cut H0.bl.length) F H1 w∧Ext C ρ0 F0 H0 w0 (ρ.cut H0.bl.length) F H1 w:=by
 have hts:=lW ht
 unfold Go.Sh.cV at ht
 replace ht:=aj ht
 obtain⟨hc,ht⟩:=ht
 cases ht
 have hT:Bi H0.bl.length {bl:=H0.bl,bQ:=[],ro:=min H0.ro H0.bl.length} H {bl:=H.bl.take H0.bl.length,bQ:=H.bQ.filter (fun p=>decide (p.1<H0.bl.length)),ro:=min H0.ro H0.bl.length}:=
  ⟨hts.le,hts.clean,rfl,(fun _ h=>by cases h),fun p hp hl=>aaA.2 ⟨hp,by simpa using hl⟩,rfl⟩
 obtain⟨p1,p2⟩:=HR.cV (H0:={bl:=H0.bl,bQ:=[],ro:=min H0.ro H0.bl.length}) (hr0.bl rfl) rfl hr hx hT
 exact⟨p1.bl rfl,p2.enter hr0 rfl rfl rfl⟩
theorem HR.more(hr:HR C ρ F H w)(hFF:∀B,F B→F' B)(h:∀B,F' B→F B∨(B<w.heap.size∧∀b l,Own ρ H b l→l.cg≠B)):HR C ρ F' H w:=
 ⟨hr.jn,fun b x hb hx=>let⟨l,h1,h2⟩:=hr.live b x hb hx;⟨l,h1,h2.mono (fun _ _=>rfl) hFF (Map.le_refl _) (fun _=>rfl)⟩,hr.apart,
  fun b l ho=>⟨fun hF=>(h _ hF).elim (hr.own b l ho).1 (fun h1=>h1.2 b l ho rfl),(hr.own b l ho).2⟩,fun B hB=>(h B hB).elim (hr.gW B) (·.1)⟩
theorem Ext.more(hx:Ext C ρ0 F0 H0 w0 ρ F H w)(hFF:∀B,F B→F' B)(h:∀B,F' B→F B∨w0.heap.size≤B):Ext C ρ0 F0 H0 w0 ρ F' H w:=
 ⟨⟨hx.map,fun B hB=>hFF B (hx.gW B hB),fun B hB=>(h B hB).elim (hx.new B) (fun h=>.inr (.inl h)),hx.frame,hx.size,hx.old,hx.ro,hx.bQ,
   fun N hN hc h0 b x l hb hxx hxl hl=>(hx.inv N hN hc h0 b x l hb hxx hxl hl).mono (fun _ _=>rfl) hFF (Map.le_refl _) (fun _=>rfl),hx.lp,hx.ln,hx.out⟩,hx.nd⟩
theorem HR.other(hr:HR C ρ F H w)(hx:Ext C ρ0 F0 H0 w0 ρ F H w)(hs:w'.heap.size=w.heap.size)(ho':w'.os=w.os∧w'.output=w.output)
 (hh:∀B,(F B∨(∃b l,Own ρ H b l∧l.cg=B)∨B<w0.heap.size)→w'.heap[B]?=w.heap[B]?):HR C ρ F H w'∧Ext C ρ0 F0 H0 w0 ρ F H w':=by
 have hk:dy F w w':=fun B hB=>hh B (.inl hB)
 have ho:∀b l x,H.bl[b]?=some x→x.live=true→ρ b=some l→l.bB=false→w'.heap[l.cg]?=w.heap[l.cg]?:=fun b l x h1 h2 h3 h4=>hh _ (.inr (.inl ⟨b,l,⟨⟨x,h1,h2⟩,h3,h4⟩,rfl⟩))
 refine⟨⟨hr.jn,fun b x hb hxl=>?_,hr.apart,fun b l h=>⟨(hr.own b l h).1,hs▸(hr.own b l h).2⟩,fun B hB=>hs▸hr.gW B hB⟩,?_⟩
 ·obtain⟨l,h1,h2⟩:=hr.live b x hb hxl
  exact⟨l,h1,h2.mono hk (fun _ h=>h) (Map.le_refl _) (fun hv=>ho b l x hb hxl h1 hv)⟩
 ·refine⟨⟨hx.map,hx.gW,hx.new,fun B hB hno=>(hh B (.inr (.inr hB))).trans (hx.frame B hB hno),hs▸hx.size,hx.old,hx.ro,hx.bQ,fun N hN hc h0 b x l hb hxx hxl hl=>?_,fun B q hq=>?_,hx.ln,⟨ho'.1.trans hx.out.1,ho'.2.trans hx.out.2⟩⟩,hx.nd⟩
  ·exact(hx.inv N hN hc h0 b x l hb hxx hxl hl).mono hk (fun _ h=>h) (Map.le_refl _) (fun hv=>ho b l x hxx hxl hl hv)
  ·obtain⟨q',h1⟩:=hx.lp B q hq
   exact⟨q',(hh B (.inr (.inr (ZG.1 hq).1))).trans h1⟩
theorem xF{N:Nat}:∀(d:Nat) {v v':SV},ec N H d v=some v'→v.iu=true→v'.iu=true
 |0,v,v',h,_=>by simp[ec]at h
 |d+1,v,v',h,h1=>by
  unfold ec at h
  split at h
  ·cases h1
  ·cases h1
  ·rename_i b cw off n
   cases hb:decide (b<N)with
   |true=>rw[hb]at h;cases h;rfl
   |false=>
    rw[hb]at h
    simp only[Zu]at h
    split at h
    ·replace h:=aj h
     obtain⟨_,h⟩:=h
     simp only[Zd]at h
     obtain⟨L',_,h⟩:=h
     replace h:=aj h
     cases h.2;rfl
    ·cases h
  ·cases h;rfl
  ·cases h;rfl
  ·cases h;rfl
  ·replace h:=aj h
   cases h.2;exact h1
theorem wF{N:Nat}(hr:HR C ρ F H w)(hFF:∀B,F B→F' B)(hF:∀b l,Own ρ H b l→N≤b→F' l.cg):∀(d:Nat) {v v':SV} {val:Value},ec N H d v=some v'→VR w F ρ v val→VR w F' (ρ.cut N) v' val
 |0,v,v',val,h,_=>by simp[ec]at h
 |d+1,v,v',val,h,hv=>by
  have ih:=fun{v v' val}=>wF hr hFF hF d (v:=v) (v':=v') (val:=val)
  have small:∀{v:SV} {val:Value},v.refs≤N→VR w F ρ v val→VR w F' (ρ.cut N) v val:=fun h1 h2=>(h2.cut N h1).mono (fun _ _=>rfl) hFF (Map.le_refl _)
  unfold ec at h
  split at h
  ·rename_i cs
   simp only[Zb]at h
   obtain⟨cs',h1,rfl⟩:=h
   obtain⟨hl,hp⟩:=dO h1
   cases hv with
   |agg hn h1' hv'=>
    have hj:∀(j:Nat) c',cs'[j]?=some c'→∃c,cs[j]?=some c∧ec N H d c=some c':=fun j c' hj=>by
     have hlt:=(Y8.1 hj).1
     have hc:cs[j]?=some cs[j]:=Zq (by omega)
     exact⟨_,hc,hp j _ _ hc hj⟩
    refine .agg (by omega) (fun j c' hjc=>?_) (fun j c' v hjc hjv=>?_)
    ·obtain⟨c,k1,k2⟩:=hj j c' hjc
     exact xF d k2 (h1' j c k1)
    ·obtain⟨c,k1,k2⟩:=hj j c' hjc
     exact ih k2 (hv' j c v k1 hjv)
  ·rename_i cs
   simp only[Zb]at h
   obtain⟨cs',h1,rfl⟩:=h
   obtain⟨hl,hp⟩:=dO h1
   cases hv with
   |ba hn hv'=>
    refine .ba (by omega) (fun j c' v hjc hjv=>?_)
    have hlt:=(Y8.1 hjc).1
    have hc:cs[j]?=some cs[j]:=Zq (by omega)
    exact ih (hp j _ _ hc hjc) (hv' j _ v hc hjv)
  ·rename_i b cw off n
   cases hb:decide (b<N)with
   |true=>
    rw[hb]at h;cases h
    exact small (by simp only[SV.refs];simp at hb;omega) hv
   |false=>
    rw[hb]at h
    simp only[Zi,Nat.not_lt]at hb
    simp only[Zu]at h
    split at h
    ·rename_i ver' z L ex hbl
     replace h:=aj h
     obtain⟨hc,h⟩:=h
     simp only[Zh,aah,Ze]at hc
     obtain⟨rfl,hle⟩:=hc
     simp only[Zd]at h
     obtain⟨L',hL',h⟩:=h
     replace h:=aj h
     obtain⟨h0,h⟩:=h
     cases h
     have h0:SV.refs.au L'.flatten=0:=by simpa using h0
     obtain⟨hl1,hp⟩:=dO hL'
     obtain⟨l,z',L2,ex',hl',hb',hbr,g1,g2⟩:=dV hr (by unfold cur;simp[hbl]) hv
     rw[hbl]at hb';cases hb'
     obtain⟨b1,b2,b3,b4,b5,b6,b7,b8⟩:=hbr
     have hlen:L'.length=n:=by rw[hl1];simp;omega
     have bk:∀(i:Nat) cs',L'[i]?=some cs'→∃cs,L[off+i]?=some cs∧cs'.length=cs.length∧∀(j:Nat) c',cs'[j]?=some c'→∃c,cs[j]?=some c∧ec N H d c=some c':=by
      intro i cs' hi
      have hlt:=(Y8.1 hi).1
      have hsrc:((L.drop off).take n)[i]?=some ((L.drop off).take n)[i]:=Zq (by omega)
      obtain⟨k1,k2⟩:=dO (hp i _ _ hsrc hi)
      refine⟨((L.drop off).take n)[i],?_,k1,fun j c' hj=>?_⟩
      ·rw[←hsrc,ZC,if_pos (by omega),ZT]
      ·have hlt':=(Y8.1 hj).1
       have hcj:(((L.drop off).take n)[i])[j]?=some _:=Zq (by omega)
       exact⟨_,hcj,k2 j _ _ hcj hj⟩
     cases hvi:l.bB with
     |true=>
      obtain⟨q,rfl,rfl,rfl⟩:=g1 hvi
      have:L'=[]:=aan hlen
      subst this
      have:VR w F' (ρ.cut N) (.aA z [] (ex&&0+0==L.length)) (.slice q ([]:List (List SV)).length 0):=.aA (fun _ _=>undef) (Zp _) (fun _=>rfl) (by simp) (.inl rfl) (by simp) (by simp)
      simpa using this
     |false=>
      obtain⟨g3,q,rfl,g4⟩:=g2 hvi
      obtain⟨vs,ty,fz,k1,k2,k3,k4⟩:=b8 hvi
      have hcell:∀(i j:Nat) cs' c',L'[i]?=some cs'→cs'[j]?=some c'→∃v,vs[l.base+(off+i)*z+j]?=some v∧VR w F' (ρ.cut N) c' v∧c'.iu=true:=by
       intro i j cs' c' hi hj
       obtain⟨cs,h1,_,h3⟩:=bk i cs' hi
       obtain⟨c,h4,h5⟩:=h3 j c' hj
       obtain⟨v,h6,h7,h8⟩:=k4 _ cs h1 j c h4
       exact⟨v,h6,ih h5 h7,xF d h5 h8⟩
      have hFl:F' l.cg:=hF b l ⟨⟨_,hbl,rfl⟩,hl',hvi⟩ hb
      have hq:VR w F' (ρ.cut N) (.aA z L' (ex&&off+n==L.length)) (.slice q L'.length (l.cap-off)):=by
       refine .aA (fun i j=>vs.getD (l.base+(off+i)*z+j) undef) (by omega) (fun h=>by
        simp only[Zh,aah]at h
        have:=b6 h.1
        omega) (fun i cs' hi=>?_) ?_ (fun i j cs' c' hi hj=>?_) (fun i j cs' c' hi hj=>?_)
       ·obtain⟨cs,h1,h2,_⟩:=bk i cs' hi
        rw[h2];exact b4 _ cs h1
       ·by_cases hn:n=0
        ·left;exact aan (by omega)
        ·right
         refine⟨l.cg,l.base+off*z,?_,hFl,fun i j cs' c' hi hj=>?_⟩
         ·rw[g4 (by omega),b3]
         ·obtain⟨v,h1,_⟩:=hcell i j cs' c' hi hj
          rw[my k1,show l.base+off*z+i*z+j=l.base+(off+i)*z+j by rw[aac];omega,h1]
          rw[aal,h1];rfl
       ·obtain⟨v,h1,h2,h3⟩:=hcell i j cs' c' hi hj
        exact h3
       ·obtain⟨v,h1,h2,h3⟩:=hcell i j cs' c' hi hj
        rw[aal,h1]
        have hm:c'∈L'.flatten:=abH.2 ⟨cs',Zj hi,Zj hj⟩
        obtain⟨m,hm⟩:=ZH hm
        have h6:=h2.cut 0 (eL (aaY h0) m c' hm)
        have:(ρ.cut N).cut 0=dj:=by funext b;simp[Map.cut]
        rw[this]at h6
        exact h6
      rw[hlen]at hq
      exact hq
    ·cases h
  ·cases h;exact small (abc _) hv
  ·cases h;exact small (abc _) hv
  ·cases h;exact small (abc _) hv
  ·replace h:=aj h
   obtain⟨h1,h⟩:=h
   cases h
   exact small (by simpa using h1) hv
theorem xm{ρ:Map}{N:Nat}{H H1:ab}(hb:H1.bl=H.bl.take N):∀b l,Own (ρ.cut N) H1 b l→Own ρ H b l:=by
 intro b l ⟨⟨x,hx,hxl⟩,hm,hv⟩
 rw[hb,ZC]at hx
 unfold Map.cut at hm
 split at hx
 ·rename_i hlt
  rw[if_pos hlt]at hm
  exact⟨⟨x,hx,hxl⟩,hm,hv⟩
 ·cases hx
theorem me{keep:Bool}{v v1:SV}{val:Value}(hr0:HR C ρ0 F0 H0 w0)(hr:HR C ρ F H w)(hx:Ext C ρ0 F0 {bl:=H0.bl,bQ:=[],ro:=min H0.ro H0.bl.length} w0 ρ F H w)(hv:VR w F ρ v val)
 (h:cR keep H0 v H=some (v1,H1)):dD C ρ0 F0 H0 w0 v1 H1 val w:=by
 unfold cR at h
 cases keep with
 |true=>
  cases h
  exact⟨ρ,F,hv,hr.bl rfl,hx.enter hr0 rfl rfl rfl⟩
 |false=>
  simp only[Zu,Zd,Zb,Zy]at h
  obtain⟨v2,hf,H2,ht,rfl,rfl⟩:=h
  obtain⟨p1,p2⟩:=od hr0 hr hx ht
  have hts:=lW ht
  refine⟨_,fun B=>F B∨∃b l,Own ρ H b l∧H0.bl.length≤b∧l.cg=B,wF hr (fun _ h=>.inl h) (fun b l ho hb=>.inr ⟨b,l,ho,hb,rfl⟩) _ hf hv,p1.more (fun _ h=>.inl h) (fun B hB=>?_),p2.more (fun _ h=>.inl h) (fun B hB=>?_)⟩
  ·rcases hB with h|⟨b,l,ho,hb,rfl⟩
   ·exact .inl h
   ·refine .inr ⟨(hr.own b l ho).2,fun b' l' ho' e=>?_⟩
    have h1:=hr.apart b' b l' l (xm hts.bl b' l' ho') ho e
    have h2:=ho'.2.1
    unfold Map.cut at h2
    split at h2
    ·omega
    ·cases h2
  ·rcases hB with h|⟨b,l,ho,hb,rfl⟩
   ·exact .inl h
   ·rcases hx.old b l ho with h1|⟨l0,h1,_⟩
    ·exact .inr h1
    ·have:=hr0.jn b l0 h1.2.1
     omega
theorem Co{N:Nat}{d:Nat}{v:SV}(h1:v.iu=true)(h0:v.refs=0):ec N H (d+1) v=some v:=by
 cases v<;>simp_all [ec,SV.iu,SV.refs]
theorem nV{A:Type}{f:A→Option A}:∀(l:List A),(∀x∈l,f x=some x)→bN (l.map f)=some l
 |[],_=>rfl
 |x::l,h=>by
  simp only[ZO,h x (ZI ..),bN,nV l (fun y hy=>h y (ZS _ hy)),ZQ]
theorem BX{e:Env}{a:Act}{s:SV}{o:Oper}{bP n:Nat}{z:List SV}{ps:List (Nat×bU)}(dZ:oy C.P o.op=some (.fB bP z n ps))
 (hs:b9 e H (.dW bP z n ps)=some (s,H')) (hr:HR C ρ F H w) (he:ER w F ρ e a.tmps):bJ C (execOp a.eval o) ρ F H w s H':=by
 simp only[b9,Zb,Zd,Zy]at hs
 obtain⟨s',⟨L,hL,h0⟩,rfl,rfl⟩:=hs
 replace h0:=aj h0
 obtain⟨h0,h1⟩:=h0
 cases h1
 have h0:SV.refs.au L.flatten=0:=by simpa using h0
 have hlen:L.length=n:=by
  have:∀(ps:List (Nat×bU)) (l r:List (List SV)),eJ (ev e) bP l ps=some r→r.length=l.length:=by
   intro ps
   induction ps with
   |nil=>intro l r h;simp[eJ]at h;rw[h]
   |cons p ps ih=>
    intro l r h
    obtain⟨i,x⟩:=p
    simp only[eJ,Zd]at h
    obtain⟨cs,_,h⟩:=h
    replace h:=aj h
    have:=ih _ _ h.2
    simpa using this
  simpa using this ps _ _ hL
 let Hc:ab:={bl:=H.bl,bQ:=[],ro:=min H.ro H.bl.length}
 have hsop:b9 e Hc (.fB bP z n ps)=some (.bp H.bl.length 0 0 n,bH Hc (.arr 0 bP L true)):=by simp only[b9,hL,ZQ,Hc]
 obtain⟨val,w',hy,ρ1,F1,d1,d2,d3⟩:=Bn dZ (hr.bl (H1:=Hc) rfl) he hsop
 have hg:bk (bH Hc (.arr 0 bP L true)) H.bl.length=some (.arr 0 bP L true):=by simp[bk,bH,Hc]
 obtain⟨l,hl,hbr⟩:=d2.live _ _ hg rfl
 obtain⟨b1,b2,b3,b4,b5,b6,b7,b8⟩:=hbr
 have hok:∀r∈L,∀c∈r,c.iu=true:=by
  intro r hr' c hc
  obtain⟨i,hi⟩:=ZH hr'
  obtain⟨j,hj⟩:=ZH hc
  cases hv:l.bB with
  |true=>
   have:=b7 hv
   have:=(Y8.1 hi).1
   omega
  |false=>
   obtain⟨vs,ty,fz,k1,k2,k3,k4⟩:=b8 hv
   obtain⟨v,_,_,h⟩:=k4 i r hi j c hj
   exact h
 have hrf:∀r∈L,∀c∈r,c.refs=0:=by
  intro r hr' c hc
  obtain⟨m,hm⟩:=ZH (abH.2 ⟨r,hr',hc⟩)
  have:=eL (aaY h0) m c hm
  omega
 have hfz:bN (((L.drop 0).take n).map fun cs=>bN (cs.map (ec H.bl.length (bH Hc (.arr 0 bP L true)) 7)))=some L:=by
  rw[abi,ZM (by omega)]
  exact nV L (fun r hr'=>nV r (fun c hc=>Co (d:=6) (hok r hr' c hc) (hrf r hr' c hc)))
 have hleave:cR false H (.bp H.bl.length 0 0 n) (bH Hc (.arr 0 bP L true))=some (.aA bP L true,H):=by
  have h1:ec H.bl.length (bH Hc (.arr 0 bP L true)) 8 (.bp H.bl.length 0 0 n)=some (.aA bP L true):=by
   unfold ec
   simp only[abp,abm,Zu,hg]
   rw[hfz]
   simp[h0,hlen]
  have h2:cV H.bl.length H (bH Hc (.arr 0 bP L true))=some H:=by
   simp[cV,bH,Hc]
  unfold cR
  simp only[Zu,cA,h1,ZV,h2,ZQ]
 exact⟨val,w',hy,me hr d2 d3 d1 hleave⟩
theorem A7(h1:HR C ρ F H w){n b z z':Nat}(hn:ρ n=some ⟨0,0,0,z,0,true,true⟩)(hb:H.bl[b]?=some (.box [.aA z' [] true]))(hB:cp H b (.box [.bp n 0 0 0]) (n+1)=some H') :
 HR C ρ F H' w∧Ext C ρ F H w ρ F H' w:=by
 obtain⟨l,hl,hbr⟩:=h1.live b _ hb rfl
 have key:∀ρ1 ρ2:Map,ρ2 n=some ⟨0,0,0,z,0,true,true⟩→BR C w F ρ1 l (.box [.aA z' [] true])→BR C w F ρ2 l (.box [.bp n 0 0 0]):=by
  intro ρ1 ρ2 hρ ⟨g1,g2,g3,g4,g5,vs',ty,fz,g6,g7,g8,g9⟩
  refine⟨g1,g2,g3,g4,g5,vs',ty,fz,g6,g7,g8,fun j c hj=>?_⟩
  cases j with
  |succ j=>simp at hj
  |zero=>
   simp only[aax,Zs]at hj
   subst hj
   obtain⟨val,k1,k2,k3⟩:=g9 0 _ rfl
   refine⟨val,k1,?_,rfl⟩
   cases k2 with
   |aA V hcap hfull hz hat h1' hv'=>
    have hc:=hfull rfl
    simp only[Zx]at hc
    subst hc
    exact .bp hρ (Zp _) rfl (fun _=>⟨fun _=>⟨_,rfl,rfl,rfl⟩,fun h=>by cases h⟩)
 have:=h1.set (w':=w) (l':=l) hB hb rfl hl (Zp _) (fun _ _ _=>rfl) (fun h=>.inl ⟨h,rfl⟩) (.inl rfl)
  (fun _=>by rw[bW hl];exact key _ _ hn hbr)
  (fun _ N hN hbN hbr=>by rw[bW hl];exact key _ _ (by unfold Map.cut;rw[if_pos (by omega)];exact hn) hbr)
 rwa [bW hl]at this
theorem zb{e:Env}{a:Act}{s:SV}{o:Oper}{z:Nat}(dZ:oy C.P o.op=some (.alloc [.aA 0 [] true]))(hs:b9 e H (.nX z)=some (s,H'))(hr:HR C ρ F H w)(he:ER w F ρ e a.tmps):bJ C (execOp a.eval o) ρ F H w s H':=by
 simp only[b9,Zb,Zy]at hs
 obtain⟨H2,hB,rfl,rfl⟩:=hs
 obtain⟨p1,p2⟩:=hr.push (w':=w) (Zp _) (fun _ _=>rfl) (.arr 0 z [] false) ⟨0,0,0,z,0,true,true⟩ (fun h=>by cases h) ⟨rfl,rfl,rfl,by simp,by simp,by simp,fun _=>rfl,fun h=>by cases h⟩
 have hlen:(bH H (.arr 0 z [] false)).bl.length=H.bl.length+1:=by simp[bH]
 obtain⟨val,w',hy,ρ2,F2,d1,d2,d3⟩:=Bn dZ p1 (p2.er hr he) (s:=.ptr (H.bl.length+1) 0 0 0) (H':=bH (bH H (.arr 0 z [] false)) (.box [.aA 0 [] true])) (by simp only[b9,hlen])
 have hg:(bH (bH H (.arr 0 z [] false)) (.box [.aA 0 [] true])).bl[H.bl.length]?=some (.arr 0 z [] false):=by simp[bH]
 have hgb:(bH (bH H (.arr 0 z [] false)) (.box [.aA 0 [] true])).bl[H.bl.length+1]?=some (.box [.aA 0 [] true]):=by simp[bH]
 have hn:ρ2 H.bl.length=some ⟨0,0,0,z,0,true,true⟩:=by
  obtain⟨l',k1,k2⟩:=d3.map H.bl.length _ (Map.bF _ _ _)
  rcases k2 with rfl|⟨_,_,k3⟩
  ·exact k1
  ·obtain⟨l2,j1,j2⟩:=d2.live _ _ hg rfl
   rw[k1]at j1;cases j1
   have:=j2.2.1
   omega
 obtain⟨q1,q2⟩:=A7 d2 hn hgb hB
 exact⟨val,w',hy,ρ2,F2,d1,q1,p2.trans (d3.trans q2)⟩
theorem pX{ρ ρ':Map}{F F':Nat→Prop}{w w':World}{c:SV}{v:Value}(h:jG c=true)(hv:VR w F ρ c v):VR w' F' ρ' c v:=by
 cases c<;>simp only[jG,ZY]at h
 ·cases hv;exact .bool _
 ·cases hv;exact .int _ _
 ·cases hv;exact .str _
theorem Et{ρ ρ':Map}{F F':Nat→Prop}{w w':World}{c:SV}{v:Value}(h:wG c=true)(hv:VR w F ρ c v):VR w' F' ρ' c v:=by
 unfold wG at h
 split at h
 ·cases hv with
  |ba hn hv=>exact .ba hn (fun j c v hj hv'=>pX (ZA.1 h c (Zj hj)) (hv j c v hj hv'))
 ·cases hv with
  |agg hn h1 hv=>exact .agg hn h1 (fun j c v hj hv'=>pX (ZA.1 h c (Zj hj)) (hv j c v hj hv'))
 ·exact pX h hv
theorem Au{rec:Rec}(hrec:fx C rec){e:Env}{a:Act}{s:SV}{o:Oper}{f:FuncId}{xs:List bU}(dZ:oy C.P o.op=some (.call (.c (.fn f [])) xs))(hs:rP rec f (xs.map (ev e)) H=some (s,H'))(hr:HR C ρ F H w)(he:ER w F ρ e a.tmps)
 {ro:Option Nat} {n:Nat} {K:Act→World→Prop} {Q:Exit→Act→World→Prop} (hK:∀val w',dD C ρ F H w s H' val w'→K (a.put o.dst val) w'):o.wpIn (WF ro) n C.P a w K Q:=by
 refine⟨fun _ _=>trivial,?_⟩
 rw[Oper.semAt_eq _ _ _ (gC dZ)]
 obtain⟨c,ho,hcc⟩:=pw dZ
 obtain⟨g,hg,hf,hxs⟩:=lY hcc
 obtain⟨hn,hv⟩:=iC hxs he
 have hgv:=aZ hf he
 simp only[ev]at hgv
 unfold rP at hs
 simp only[Zd]at hs
 obtain⟨vs1,hvs1,r,hrec1,hs⟩:=hs
 replace hs:=aj hs
 obtain⟨hsc,hs⟩:=hs
 simp only[Zs,Zy]at hs
 obtain⟨hs1,hs2⟩:=hs
 subst hs1
 subst hs2
 obtain⟨r1,r2⟩:=r
 let F2:Nat→Prop:=fun B=>F B∨∃b l,Own ρ H b l∧l.cg=B
 have hcut:ρ.cut 0=dj:=by funext b;simp[Map.cut]
 have hargs:gP w F2 dj vs1 (c.args.map a.eval):=by
  have key:∀(l:List SV) (vs1:List SV) (fq:List Value),bN (l.map (ec 0 H cA))=some vs1→l.length=fq.length→(∀(j:Nat) x v,l[j]?=some x→fq[j]?=some v→VR w F ρ x v)→
   vs1.length=fq.length∧∀(j:Nat) x v,vs1[j]?=some x→fq[j]?=some v→VR w F2 dj x v:=by
   intro l
   induction l with
   |nil=>intro vs1 fq h hl _;simp[bN]at h;subst h;exact⟨hl,fun j x v hj=>by simp at hj⟩
   |cons y l ih=>
    intro vs1 fq h hl hv
    simp only[ZO]at h
    cases hy:ec 0 H cA y with
    |none=>rw[hy]at h;simp[bN]at h
    |some y'=>
     rw[hy]at h
     simp only[bN,Zb]at h
     obtain⟨vs2,h2,rfl⟩:=h
     cases fq with
     |nil=>simp at hl
     |cons val fq=>
      obtain⟨k1,k2⟩:=ih vs2 fq h2 (by simpa using hl) (fun j x v hj hv'=>hv (j+1) x v (by simpa using hj) (by simpa using hv'))
      refine⟨by simp[k1],fun j x v hj hv'=>?_⟩
      cases j with
      |zero=>
       simp at hj hv'
       subst hj;subst hv'
       have:=wF (F':=F2) hr (fun _ h=>.inl h) (fun b l ho _=>.inr ⟨b,l,ho,rfl⟩) _ hy (hv 0 y val rfl rfl)
       rwa [hcut]at this
      |succ j=>exact k2 j x v (by simpa using hj) (by simpa using hv')
  obtain⟨k1,k2⟩:=key (xs.map (ev e)) vs1 (c.args.map a.eval).toList hvs1 (by simpa using hn) (fun j x v hj hv'=>hv j x v hj (by simpa using hv'))
  exact⟨by simpa using k1,fun j x v hj hv'=>k2 j x v hj (by simpa using hv')⟩
 have hr0:HR C dj F2 {bl:=[],bQ:=[],ro:=0} w:=⟨(fun b l h=>by cases h),(fun b x h=>by simp at h),(fun b b' l l' h=>by cases h.2.1),(fun b l h=>by cases h.2.1),fun B hB=>by
  rcases hB with h|⟨b,l,ho,rfl⟩
  ·exact hr.gW B h
  ·exact(hr.own b l ho).2⟩
 have hx0:execOp a.eval o=(do let d←Deferred.ofValue (a.eval g) (c.args.map a.eval);invoke d.target d.args):=by
  simp only[execOp,ho,resolve,hg]
 generalize hgval:a.eval g=gv at *
 cases hgv with
 |fn hn2 hv2=>
  rename_i vs
  have hvs:vs= #[]:=aa4 (by simpa using hn2.symm)
  subst hvs
  obtain⟨h1,h2⟩:=hrec.call _ _ _ _ _ hrec1 dj F2 w _ hr0 hargs
  rw[hx0]
  have hx:(do let d←Deferred.ofValue (Value.func (.func f) #[] #[]) (c.args.map a.eval);invoke d.target d.args:Sem Next)=callFunc f (c.args.map a.eval):=by
   simp[Deferred.ofValue,invoke]
  rw[hx,h1]
  refine⟨fun h=>by simp at h,CallsIn.mono (h2 _) (fun e' w' he'=>?_)⟩
  obtain⟨val,rfl,ρ1,F1,d1,d2,d3⟩:=he'
  have hno:∀b l,¬Own dj {bl:=[],bQ:=[],ro:=0} b l:=fun b l h=>by cases h.2.1
  obtain⟨p1,p2⟩:=hr.same d3.size (fun B hB=>d3.frame B hB (fun b l ho=>absurd ho (hno b l))) d3.out
  exact hK val w' ⟨ρ,F,Et hsc d1,p1,p2⟩
theorem iK{rec:Rec}(hrec:fx C rec){e:Env}{a:Act}{s:SV}{o:Oper}{op:kQ}{b:Ea}(dZ:op=ui b ((oy C.P o.op).getD .bad))(hs:aq rec e H op=some (s,H'))(hr:HR C ρ F H w)(he:ER w F ρ e a.tmps)
 {ro:Option Nat} {n:Nat} {K:Act→World→Prop} {Q:Exit→Act→World→Prop} (hK:∀val w',dD C ρ F H w s H' val w'→K (a.put o.dst val) w'):o.wpIn (WF ro) n C.P a w K Q:=by
 cases hc:oy C.P o.op with
 |none=>
  rw[hc]at dZ
  have:op=.bad:=by rw[dZ];cases b<;>rfl
  subst this
  cases hs
 |some op0=>
  rw[hc]at dZ
  simp only[aaC]at dZ
  by_cases hk:∃m g xs,b=.keep m∧op0=.call (.c (.fn g [])) xs
  ·obtain⟨m,g,xs,rfl,rfl⟩:=hk
   subst dZ
   exact AD (m:=m) hrec hc hs hr he hK
  by_cases hvw:∃g xs,b=.view∧op0=.call (.c (.fn g [])) xs
  ·obtain⟨g,xs,rfl,rfl⟩:=hvw
   subst dZ
   exact Au hrec hc hs hr he hK
  by_cases hl:∃bP z n ps,b=.list∧op0=.fB bP z n ps
  ·obtain⟨bP,z,m,ps,rfl,rfl⟩:=hl
   subst dZ
   obtain⟨val,w',h1,h2⟩:=BX hc hs hr he
   refine⟨fun _ _=>trivial,?_⟩
   rw[Oper.semAt_eq _ _ _ (gC hc)]
   rcases h1 with h1|⟨h1,rfl⟩
   ·rw[h1];exact hK _ _ h2
   ·rw[h1];exact hK _ _ h2
  by_cases hvb:∃z,b=.Hx z∧op0=.alloc [.aA 0 [] true]
  ·obtain⟨z,rfl,rfl⟩:=hvb
   subst dZ
   obtain⟨val,w',h1,h2⟩:=zb hc hs hr he
   refine⟨fun _ _=>trivial,?_⟩
   rw[Oper.semAt_eq _ _ _ (gC hc)]
   rcases h1 with h1|⟨h1,rfl⟩
   ·rw[h1];exact hK _ _ h2
   ·rw[h1];exact hK _ _ h2
  ·have:op=op0:=by
    rw[dZ]
    unfold ui
    split
    ·exact absurd ⟨_,_,_,_,rfl,rfl⟩ hl
    ·exact absurd ⟨_,_,_,rfl,rfl⟩ hk
    ·exact absurd ⟨_,_,rfl,rfl⟩ hvw
    ·exact absurd ⟨_,rfl,rfl⟩ hvb
    ·rfl
   subst this
   exact Bu hrec hc hs hr he hK
end
end
section
def ti(ρ:Map)(F:Nat→Prop)(H:ab)(w:World)(lo D:Nat):Prop:=lo≤D∧w.heap[D]?=some (.deferred (some []))∧¬F D∧∀b l,Own ρ H b l→l.cg≠D
def Marks(ρ:Map)(F:Nat→Prop)(H:ab)(w:World)(lo:Nat)(ds:List Deferred):Prop:=lo≤w.heap.size∧∃Ds:List Nat,ds.map (·.target)=Ds.map Target.collected∧Ds.Nodup∧
 ∀D∈Ds,ti ρ F H w lo D
structure jJ where
 ρ:Map
 F:Nat→Prop
 H:ab
 w:World
 lo:Nat
def Rel(C:Ctx)(nt:Nat)(B:jJ)(e:Env)(H:ab)(a:Act)(w:World):Prop:=
 ∃ρ F,HR C ρ F H w∧ER w F ρ e a.tmps∧Ext C B.ρ B.F B.H B.w ρ F H w∧nt≤a.tmps.size∧Marks ρ F H w B.lo a.defers
section
variable{C:Ctx}{ρ ρ':Map}{F F':Nat→Prop}{H H':ab}{w w':World}{e:Env}{a:Act}{s c d:SV}{B:jJ}{nt:Nat}
theorem ti.ext{lo D:Nat}(hx:Ext0 C ρ F H w ρ' F' H' w')(h:ti ρ F H w lo D):ti ρ' F' H' w' lo D:=by
 obtain⟨k1,k2,k3,k4⟩:=h
 have hlt:D<w.heap.size:=(ZG.1 k2).1
 refine⟨k1,(hx.frame D hlt (fun b l ho _=>k4 b l ho)).trans k2,fun hF=>?_,fun b l ho=>?_⟩
 ·rcases hx.new D hF with h|h|⟨b,l,ho,_,e⟩
  ·exact k3 h
  ·omega
  ·exact k4 b l ho e
 ·rcases hx.old b l ho with h4|⟨l0,h4,h5⟩
  ·omega
  ·rw[←h5];exact k4 b l0 h4
theorem Marks.ext{lo:Nat}(hx:Ext0 C ρ F H w ρ' F' H' w'){ds:List Deferred}(h:Marks ρ F H w lo ds):Marks ρ' F' H' w' lo ds:=by
 obtain⟨h0,Ds,h1,h2,h3⟩:=h
 exact⟨ZN h0 hx.size,Ds,h1,h2,fun D hD=>(h3 D hD).ext hx⟩
theorem Marks.less{lo:Nat}(h:∀b l,Own ρ' H' b l→Own ρ H b l){ds:List Deferred}(hm:Marks ρ F H w lo ds):Marks ρ' F H' w lo ds:=by
 obtain⟨h0,Ds,h1,h2,h3⟩:=hm
 exact⟨h0,Ds,h1,h2,fun D hD=>let⟨k1,k2,k3,k4⟩:=h3 D hD;⟨k1,k2,k3,fun b l ho=>k4 b l (h b l ho)⟩⟩
theorem Marks.KL{lo:Nat}(h:∀b l,Own ρ' H' b l→∃b0 l0,Own ρ H b0 l0∧l0.cg=l.cg){ds:List Deferred}(hm:Marks ρ F H w lo ds):Marks ρ' F H' w lo ds:=by
 obtain⟨h0,Ds,h1,h2,h3⟩:=hm
 exact⟨h0,Ds,h1,h2,fun D hD=>let⟨k1,k2,k3,k4⟩:=h3 D hD;⟨k1,k2,k3,fun b l ho=>by obtain⟨b0,l0,o,e⟩:=h b l ho;exact e▸k4 b0 l0 o⟩⟩
theorem AJ(he:ER w F ρ e a.tmps){d:Nat}{val:Value}(hd:d<a.tmps.size)(hv:VR w F ρ s val):ER w F ρ ((d,s)::e) (a.tmps.setIfInBounds d val):=by
 intro t
 simp only[get]
 by_cases h:t=d
 ·subst h
  simp[hd,hv]
 ·have h1:(t==d)=false:=by simp[h]
  rw[h1]
  simp only[Zu]
  have:(a.tmps.setIfInBounds d val).getD t undef=a.tmps.getD t undef:=by
   simp only[aal,Z0 (Ne.symm h)]
  rw[this]
  exact he t
theorem Rel.step(h:Rel C nt B e H a w){P:Map→(Nat→Prop)→Prop}:∃ρ F,HR C ρ F H w∧ER w F ρ e a.tmps∧∀(dst:Option Nat) s H' val w',(∀d,dst=some d→d<nt)→dD C ρ F H w s H' val w'→Rel C nt B (cb e dst s) H' (a.put dst val) w':=by
 obtain⟨ρ,F,h1,h2,h3,h4,h5⟩:=h
 refine⟨ρ,F,h1,h2,fun dst s H' val w' hd ⟨ρ',F',k1,k2,k3⟩=>⟨ρ',F',k2,?_,h3.trans k3,?_,?_⟩⟩
 ·cases dst with
  |none=>exact k3.er h1 h2
  |some d=>exact AJ (k3.er h1 h2) (aaf (hd d rfl) h4) k1
 ·cases dst with
  |none=>exact h4
  |some d=>simpa[Act.put]using h4
 ·have:(a.put dst val).defers=a.defers:=by cases dst<;>rfl
  rw[this]
  exact h5.ext k3.toExt0
theorem wI{v:Value}(h:VR w F ρ .iz v):v=undef:=by cases h;rfl
theorem kL{t:Array Value}{i:Nat}{b:Bool}(h:t.getD i undef=.bool b):t[i]?=some (.bool b):=by
 rw[aal]at h
 cases hi:t[i]? with
 |none=>rw[hi]at h;cases h
 |some v=>rw[hi]at h;simp at h;rw[h]
theorem oE{ops:Array Oper}{t:Array Value}{j i:Nat}(ht:ops[j]?.bind (·.dst)=some i)(htv:t.getD i undef=undef):yielded ops t j=none:=by
 rw[aal]at htv
 simp only[yielded,ht,ZV]
 cases hi:t[i]? with
 |none=>rfl
 |some v=>rw[hi]at htv;simp only[aaC]at htv;rw[htv];rfl
theorem n9{f:FuncId}{rec:Rec}(hrec:fx C rec){ops:Array Oper}{ro:Option Nat}{n:Nat}{Q:Exit→Act→World→Prop}{R:Type}{k:Env→ab→Option R}{r:R}
 {rest:List Nat} {m:Nat} (hm:m≤ops.size) (hk:∀e' H' a' w',k e' H'=some r→Rel C nt B e' H' a' w'→wpOpsIn (WF ro) n C.P ops Q rest a' w') :
 ∀(j i:Nat) (l:List aK),i+j=m→bN (((ops.toList.take m).drop i).map (ib C.P C.dz f nt ops))=some l→∀e H a w,cc rec l e H k ()=some r→Rel C nt B e H a w→wpOpsIn (WF ro) n C.P ops Q (List.range' i j++rest) a w:=by
 intro j
 induction j with
 |zero=>
  intro i l hi hl e H a w h hrel
  rw[aaO (by simp;omega)]at hl
  simp[bN]at hl
  subst hl
  exact hk e H a w h hrel
 |succ j ih=>
  intro i l hi hl e H a w h hrel
  have hlt:i<ops.size:=by omega
  rw[aaK (by simp;omega),ZO]at hl
  rw[List.getElem_take]at hl
  cases hco:ib C.P C.dz f nt ops ops.toList[i]with
  |none=>rw[hco]at hl;simp[bN]at hl
  |some o1=>
   rw[hco]at hl
   simp only[bN,Zb]at hl
   obtain⟨l',hl',rfl⟩:=hl
   have ih':=ih (i+1) l' (by omega) hl'
   have hoi:ops[i]?=some ops.toList[i]:=by simp[hlt]
   generalize ops.toList[i]=o at *
   simp only[List.range'_succ,Z5,wpOpsIn,hoi]
   unfold ib at hco
   replace hco:=eK hco
   obtain⟨hdst,hco⟩:=hco
   have hd:∀d,o.dst=some d→d<nt:=fun d hd=>by
    rw[hd]at hdst;simpa using hdst
   obtain⟨ρ,F,hr,he,hput⟩:=hrel.step (P:=fun _ _=>True)
   have hgo:∀op1,op1=ui (lk C.dz f o.dst) ((oy C.P o.op).getD .bad)→aN (aq rec e H op1) (fun r=>cc rec l' (cb e o.dst r.1) r.2 k ()) ()=some r→o.wpIn (WF ro) n C.P a w (wpOpsIn (WF ro) n C.P ops Q (List.range' (i+1) j++rest)) Q:=by
    intro op1 dZ h
    cases hs:aq rec e H op1 with
    |none=>rw[hs]at h;cases h
    |some p=>
     rw[hs]at h
     obtain⟨s,H'⟩:=p
     simp only[aN]at h
     exact iK hrec dZ hs hr he (fun val w' hdn=>ih' _ _ _ _ h (hput o.dst s H' val w' hd hdn))
   split at hco
   ·rename_i hg
    cases hco
    simp only[cc]at h
    have hw:Region.wanted o (yielded ops a.tmps)=true:=by simp[Region.wanted,hg]
    rw[hw,if_pos rfl]
    exact hgo _ rfl h
   ·rename_i j' want hg
    split at hco
    ·rename_i t ht
     cases hco
     simp only[cc]at h
     unfold fj at h
     split at h
     ·rename_i b hb
      have htv:a.tmps.getD t undef=.bool b:=by
       have:=he t
       rw[hb]at this
       exact eu this
      have hy:yielded ops a.tmps j'=some b:=by
       simp only[yielded,ht,ZV,kL htv]
      unfold fork at h
      dsimp only at h
      cases hbw:(b==want)with
      |true=>
       rw[hbw]at h
       have hw:Region.wanted o (yielded ops a.tmps)=true:=by
        simp only[Region.wanted,hg,hy];simpa using hbw
       rw[hw,if_pos rfl]
       exact hgo _ rfl h
      |false=>
       rw[hbw]at h
       have hw:¬Region.wanted o (yielded ops a.tmps)=true:=by
        simp only[Region.wanted,hg,hy];simpa using hbw
       rw[if_neg hw]
       exact⟨fun _ _=>trivial,ih' _ _ _ _ h (hput o.dst .iz H undef w hd (dD.same hr .iz))⟩
     ·rename_i hb
      have htv:a.tmps.getD t undef=undef:=by
       have:=he t
       rw[hb]at this
       exact wI this
      have hy:yielded ops a.tmps j'=none:=by
       rw[aal]at htv
       simp only[yielded,ht,ZV]
       cases hi:a.tmps[t]? with
       |none=>rfl
       |some v=>rw[hi]at htv;simp only[aaC]at htv;rw[htv];rfl
      have hw:¬Region.wanted o (yielded ops a.tmps)=true:=by
       simp only[Region.wanted,hg,hy];simp
      rw[if_neg hw]
      exact⟨fun _ _=>trivial,ih' _ _ _ _ h (hput o.dst .iz H undef w hd (dD.same hr .iz))⟩
     ·cases h
    ·cases hco
theorem yE{f:FuncId}{rec:Rec}(hrec:fx C rec){ops:Array Oper}{ro:Option Nat}{n:Nat}{Q:Exit→Act→World→Prop}{R:Type}{k:Env→ab→Option R}{r:R}
 (hk:∀e' H' a' w',k e' H'=some r→Rel C nt B e' H' a' w'→Q .normal a' w') :
 ∀(j i:Nat) (l:List aK),i+j=ops.size→bN ((ops.toList.drop i).map (ib C.P C.dz f nt ops))=some l→∀e H a w,cc rec l e H k ()=some r→Rel C nt B e H a w→wpOpsIn (WF ro) n C.P ops Q (List.range' i j) a w:=by
 intro j i l hi hl e H a w h hrel
 have:=n9 hrec (f:=f) (ops:=ops) (ro:=ro) (n:=n) (Q:=Q) (rest:=[]) (m:=ops.size) (Zp _) (k:=k) (r:=r) (fun e' H' a' w' h hr=>hk e' H' a' w' h hr) j i l hi (by
  rw[ZM (by simp)];exact hl) e H a w h hrel
 simpa using this
end
end
section
def Bg:kT→Exit
 | .normal=>.normal
 | .exit id=>.exit id
 | .ret=>.ret
section
variable{C:Ctx}{rec:Rec}{f:FuncId}{nt:Nat}
def gf(C:Ctx)(rec:Rec)(nt:Nat)(c:Code)(c1:cn):Prop:=
 ∀(ro:Option Nat) (n:Nat) (B:jJ) (Q:Exit→Act→World→Prop) (R:Type) (k:kT→Env→ab→Option R) (r:R) (e:Env) (H:ab) (a:Act) (w:World),
  (∀l,ro=some l→∃q,B.w.heap[l]?=some (.loop q))→run rec c1 e H k ()=some r→(∀x e' H' a' w',k x e' H'=some r→Rel C nt B e' H' a' w'→Q (Bg x) a' w')→Rel C nt B e H a w→c.wpIn (WF ro) n C.P Q a w
theorem yl{B:jJ}{e:Env}{H H1:ab}{a:Act}{w:World}{t:Nat}{v:SV}(h:Db H (get e t)=some (v,H1))(hr:Rel C nt B e H a w):Rel C nt B ((t,v)::e) H1 a w:=by
 obtain⟨ρ,F,h1,h2,h3,h4,h5⟩:=hr
 have put:∀{w:World} {F:Nat→Prop} {ρ:Map},ER w F ρ e a.tmps→VR w F ρ v (a.tmps.getD t undef)→ER w F ρ ((t,v)::e) a.tmps:=fun he hv i=>by
  simp only[get]
  cases hi:(i==t)with
  |true=>
   have:i=t:=by simpa using hi
   subst this
   exact hv
  |false=>exact he i
 unfold Db at h
 split at h
 ·rename_i b cw off n hbe
  split at h
  ·rename_i ver' z L ex hb
   replace h:=aj h
   obtain⟨hc,h⟩:=h
   simp only[Zh,aah,Ze]at hc
   obtain⟨⟨rfl,hle⟩,h0⟩:=hc
   simp only[Zb,Zy]at h
   obtain⟨H2,hH,rfl,rfl⟩:=h
   obtain⟨l,hl,hbr⟩:=h1.live b _ hb rfl
   obtain⟨p1,p2⟩:=h1.UP hH hb rfl hl (fun _ _ _ h=>by cases h)
   have hv:=h2 t
   rw[hbe]at hv
   exact⟨ρ,_,p1,put (p2.er h1 h2) (zj h1 hv hb hle h0 hl (fun _ h=>.inl h) (fun h=>.inr ⟨h,rfl⟩)),h3.trans p2,h4,h5.ext p2.toExt0⟩
  ·cases h
 ·rename_i z L f hbe
  cases h
  have hv:=h2 t
  rw[hbe]at hv
  exact⟨ρ,F,h1,put h2 hv,h3,h4,h5⟩
 ·cases h
theorem pf{c:Code}{c1:cn}(h:gf C rec nt c c1):∀ts,gf C rec nt c (oV c1 ts)
 |[]=>h
 |t::ts=>by
  intro ro n B Q R k r e H a w hro hrun hk hrel
  simp only[oV,run]at hrun
  unfold aN at hrun
  split at hrun
  ·rename_i p hp
   exact pf h ts ro n B Q R k r _ _ a w hro hrun hk (yl hp hrel)
  ·cases hrun
end
end
section
section
variable{C:Ctx}{rec:Rec}{f:FuncId}{nt:Nat}
theorem vH{f:Env×ab→Option Out}{s:Env×ab}{o:Out}(h:ki f s=some o):∃m,cI f m s=some o:=by
 unfold ki at h
 split at h
 ·exact⟨_,h⟩
 ·cases h
theorem uH{B:jJ}{e:Env}{H H1:ab}{a:Act}{w:World}{b z j:Nat}{cs:List SV}{z':Nat}(hg:bk H b=some (.box cs))(hj:cs[j]?=some (.aA z' [] true))
 (hB:cp (bH H (.arr 0 z [] false)) b (.box (cs.set j (.bp H.bl.length 0 0 0))) (H.bl.length+1)=some H1) (hr:Rel C nt B e H a w):Rel C nt B e H1 a w:=by
 obtain⟨ρ,F,h1,h2,h3,h4,h5⟩:=hr
 obtain⟨p1,p2⟩:=h1.push (w':=w) (Zp _) (fun _ _=>rfl) (.arr 0 z [] false) ⟨0,0,0,z,0,true,true⟩ (fun h=>by cases h) ⟨rfl,rfl,rfl,by simp,by simp,by simp,fun _=>rfl,fun h=>by cases h⟩
 have hb:H.bl[b]?=some (.box cs):=hg
 have hlt:=(Y8.1 hb).1
 obtain⟨l,hl,_⟩:=h1.live b _ hb rfl
 have hb1:(bH H (.arr 0 z [] false)).bl[b]?=some (.box cs):=by
  simp only[bH];rw[Zm hlt];exact hb
 have hl1:(ρ.put H.bl.length ⟨0,0,0,z,0,true,true⟩) b=some l:=by rw[Map.bm _ _ (aaS hlt)];exact hl
 have hps:(ρ.put H.bl.length ⟨0,0,0,z,0,true,true⟩).put b l=ρ.put H.bl.length ⟨0,0,0,z,0,true,true⟩:=bW hl1
 have key:∀ρ2:Map,ρ2 H.bl.length=some ⟨0,0,0,z,0,true,true⟩→BR C w F ρ2 l (.box cs)→BR C w F ρ2 l (.box (cs.set j (.bp H.bl.length 0 0 0))):=by
  intro ρ2 hρ ⟨g1,g2,g3,g4,g5,vs',ty,fz,g6,g7,g8,g9⟩
  refine⟨g1,g2,g3,g4,by rw[Zv];exact g5,vs',ty,fz,g6,g7,by rw[Zv];exact g8,fun i c hi=>?_⟩
  by_cases e:j=i
  ·subst e
   have hjl:=(Y8.1 hj).1
   simp only[Zz hjl,Zs]at hi
   subst hi
   obtain⟨val,k1,k2,k3⟩:=g9 _ _ hj
   refine⟨val,k1,?_,rfl⟩
   cases k2 with
   |aA V hcap hfull hz hat h1' hv'=>
    have hc:=hfull rfl
    simp only[Zx]at hc
    subst hc
    exact .bp hρ (Zp _) rfl (fun _=>⟨fun _=>⟨_,rfl,rfl,rfl⟩,fun h=>by cases h⟩)
  ·rw[Zg e]at hi
   exact g9 i c hi
 obtain⟨q1,q2⟩:=p1.set (w':=w) (l':=l) hB hb1 rfl hl1 (Zp _) (fun _ _ _=>rfl) (fun h=>.inl ⟨h,rfl⟩) (.inl rfl)
  (fun _=>by
   rw[hps]
   obtain⟨l2,k1,k2⟩:=p1.live b _ hb1 rfl
   rw[hl1]at k1;cases k1
   exact key _ (Map.bF _ _ _) k2)
  (fun _ N hN hbN hbr=>by
   rw[hps]
   exact key _ (by unfold Map.cut;rw[if_pos (by omega)];exact Map.bF _ _ _) hbr)
 rw[hps]at q1 q2
 have hE:=p2.trans q2
 exact⟨_,F,q1,hE.er h1 h2,h3.trans hE,h4,h5.ext hE.toExt0⟩
theorem mi{B:jJ}{a:Act}{w:World}:∀(vs:List (Nat×Nat)) {e e':Env} {H H':ab},eZ vs e H=some (e',H')→Rel C nt B e H a w→Rel C nt B e' H' a w
 |[],e,e',H,H',h,hr=>by cases h;exact hr
 |(t,z)::vs,e,e',H,H',h,hr=>by
  simp only[eZ]at h
  split at h
  ·rename_i z' hbe
   refine mi vs h ?_
   obtain⟨ρ,F,h1,h2,h3,h4,h5⟩:=hr
   have hv:=h2 t
   rw[hbe]at hv
   obtain⟨p1,p2⟩:=h1.push (w':=w) (Zp _) (fun _ _=>rfl) (.arr 0 z [] false) ⟨0,0,0,z,0,true,true⟩ (fun h=>by cases h) ⟨rfl,rfl,rfl,by simp,by simp,by simp,fun _=>rfl,fun h=>by cases h⟩
   refine⟨_,F,p1,?_,h3.trans p2,h4,h5.ext p2.toExt0⟩
   intro i
   simp only[get]
   cases hi:(i==t)with
   |true=>
    have:i=t:=by simpa using hi
    subst this
    simp only[Zr]
    generalize a.tmps.getD i undef=val at hv
    cases hv with
    |aA V hcap hfull hz hat h1' hv'=>
     have hc:=hfull rfl
     simp only[Zx]at hc
     subst hc
     exact .bp (Map.bF _ _ _) (Zp _) rfl (fun _=>⟨fun _=>⟨_,rfl,rfl,rfl⟩,fun h=>by cases h⟩)
   |false=>exact p2.er h1 h2 i
  ·rename_i b v i o hbe
   simp only[Zd]at h
   obtain⟨H1,hB,h⟩:=h
   refine mi vs h ?_
   unfold pK at hB
   split at hB
   ·rename_i z' hg
    exact uH (j:=0) hg rfl (by simpa using hB) hr
   ·rename_i cs _ hg
    cases hj:cs[z/1000]? with
    |none=>rw[hj]at hB;cases hB
    |some y=>
     rw[hj]at hB
     unfold xy at hB
     split at hB
     ·rename_i heq
      cases heq
      exact uH hg hj hB hr
     ·cases hB
   ·cases hB
  ·rename_i z' x L' hbe
   refine mi vs h ?_
   obtain⟨ρ,F,h1,h2,h3,h4,h5⟩:=hr
   obtain⟨p1,p2⟩:=h1.push (w':=w) (Zp _) (fun _ _=>rfl) (.arr 0 z [] false) ⟨0,0,0,z,0,true,true⟩ (fun h=>by cases h) ⟨rfl,rfl,rfl,by simp,by simp,by simp,fun _=>rfl,fun h=>by cases h⟩
   exact⟨_,F,p1,p2.er h1 h2,h3.trans p2,h4,h5.ext p2.toExt0⟩
  ·cases h
theorem EE{B:jJ}{N:Nat}{e e':Env}{H H':ab}{a:Act}{w:World}{t h z b v n:Nat}(hN:B.H.bl.length=N)(hr0:HR C B.ρ B.F B.H B.w)(hb:N≤b)(hh:h<N)(hg:get e t=.bp b v 0 n)
 (hm:ql H t h z b v n e (bk H h) (bk H b)=some (e',H')) (hr:Rel C nt B e H a w):Rel C nt B e' H' a w:=by
 unfold ql at hm
 split at hm
 ·rename_i o1 o2 z0 ex0 v' z' L ex k1 k2
  replace hm:=aj hm
  obtain⟨hc,hm⟩:=hm
  simp only[Zs,Zy]at hm
  obtain⟨rfl,rfl⟩:=hm
  simp only[Zh,aah,Ze,ZK,aaJ]at hc
  obtain⟨⟨⟨⟨⟨hz,hv⟩,hn⟩,hro⟩,hne⟩,hrf⟩:=hc
  subst hv
  subst hz
  have k1:H.bl[h]?=some (.arr 0 z0 [] ex0):=k1
  have k2:H.bl[b]?=some (.arr v z' L ex):=k2
  obtain⟨ρ,F,h1,h2,h3,h4,h5⟩:=hr
  obtain⟨lh,hlh,hbh⟩:=h1.live h _ k1 rfl
  obtain⟨lb,hlb,hbb⟩:=h1.live b _ k2 rfl
  obtain⟨b1,b2,b3,b4,b5,b6,b7,b8⟩:=hbb
  have hhv:lh.cw=0:=hbh.2.1
  have hha:lh.arr=true:=hbh.1
  have hhl:=(Y8.1 k1).1
  have hbl:=(Y8.1 k2).1
  let l':Loc:={lb with cw:=v+1}
  have hle:ρ.le (ρ.put h l'):=fun c l hl=>by
   by_cases e:c=h
   ·subst e
    rw[hlh]at hl;cases hl
    exact⟨l',Map.bF _ _ _,.inr ⟨hha,by show lh.cw<v+1;omega⟩⟩
   ·exact⟨l,by rw[Map.bm _ _ e];exact hl,.inl rfl⟩
  have hgh:((H.bl.set h (.arr (v+1) z' L ex)).set b .dead)[h]?=some (.arr (v+1) z' L ex):=by
   rw[Zg (Ne.symm hne)];simp[hhl]
  have hgb:((H.bl.set h (.arr (v+1) z' L ex)).set b .dead)[b]?=some .dead:=by simp[hbl]
  have hgo:∀c,c≠h→c≠b→((H.bl.set h (.arr (v+1) z' L ex)).set b .dead)[c]?=H.bl[c]?:=fun c e1 e2=>by
   rw[Zg (Ne.symm e2),Zg (Ne.symm e1)]
  have hbr:∀ρ1 ρ2:Map,(∀c v,VR w F ρ1 c v→c.refs=0→VR w F ρ2 c v)→BR C w F ρ1 lb (.arr v z' L ex)→BR C w F ρ2 l' (.arr (v+1) z' L ex):=by
   intro ρ1 ρ2 hvr ⟨c1,c2,c3,c4,c5,c6,c7,c8⟩
   refine⟨c1,rfl,c3,c4,c5,c6,c7,fun hv=>?_⟩
   obtain⟨vs,ty,fz,d1,d2,d3,d4⟩:=c8 hv
   refine⟨vs,ty,fz,d1,d2,d3,fun i cs hi j c hj=>?_⟩
   obtain⟨val,e1,e2,e3⟩:=d4 i cs hi j c hj
   obtain⟨m,hm⟩:=ZH (abH.2 ⟨cs,Zj hi,Zj hj⟩)
   have:=eL (aaY hrf) m c hm
   exact⟨val,e1,hvr c val e2 (by omega),e3⟩
  have own':∀c l,Own (ρ.put h l') {H with bl:=(H.bl.set h (.arr (v+1) z' L ex)).set b .dead} c l→(c=h∧l=l'∧Own ρ H b lb)∨(c≠h∧c≠b∧Own ρ H c l):=by
   intro c l ⟨⟨x,g1,g2⟩,g3,g4⟩
   simp only at g1
   by_cases e1:c=h
   ·subst e1
    rw[Map.bF]at g3;cases g3
    exact .inl ⟨rfl,rfl,⟨_,k2,rfl⟩,hlb,g4⟩
   ·by_cases e2:c=b
    ·subst e2
     rw[hgb]at g1;cases g1;cases g2
    ·rw[hgo c e1 e2]at g1
     rw[Map.bm _ _ e1]at g3
     exact .inr ⟨e1,e2,⟨x,g1,g2⟩,g3,g4⟩
  have bout:∀l,¬Own B.ρ B.H b l:=fun l ho=>by have:=hr0.jn b l ho.2.1;omega
  refine⟨ρ.put h l',F,⟨fun c l hc=>?_,fun c x hc hx=>?_,fun c c' l1 l2 o1 o2 he=>?_,fun c l o=>?_,h1.gW⟩,fun i=>?_,⟨⟨fun c l hl=>?_,h3.gW,h3.new,h3.frame,h3.size,fun c l o=>?_,h3.ro,h3.bQ,fun M hM hcl h0 c x l hcM hx hxl hl=>?_,h3.lp,by
   simp only[Zv];exact h3.ln,h3.out⟩,fun c l hl=>?_⟩,h4,h5.KL (fun c l o=>?_)⟩
  ·simp only[Zv]
   by_cases e:c=h
   ·subst e;exact hhl
   ·rw[Map.bm _ _ e]at hc;exact h1.jn c l hc
  ·simp only at hc
   by_cases e1:c=h
   ·subst e1
    rw[hgh]at hc;cases hc
    exact⟨l',Map.bF _ _ _,hbr ρ _ (fun c v hv _=>hv.mono (fun _ _=>rfl) (fun _ h=>h) hle) ⟨b1,b2,b3,b4,b5,b6,b7,b8⟩⟩
   ·by_cases e2:c=b
    ·subst e2;rw[hgb]at hc;cases hc;cases hx
    ·rw[hgo c e1 e2]at hc
     obtain⟨l,g1,g2⟩:=h1.live c x hc hx
     exact⟨l,by rw[Map.bm _ _ e1];exact g1,g2.mono (fun _ _=>rfl) (fun _ h=>h) hle (fun _=>rfl)⟩
  ·rcases own' c l1 o1 with⟨e1,f1,p1⟩|⟨e1,e2,p1⟩<;>rcases own' c' l2 o2 with⟨e3,f3,p3⟩|⟨e3,e4,p3⟩
   ·rw[e1,e3]
   ·subst f1
    exact absurd (h1.apart c' b l2 lb p3 p1 he.symm) e4
   ·subst f3
    exact absurd (h1.apart c b l1 lb p1 p3 he) e2
   ·exact h1.apart c c' l1 l2 p1 p3 he
  ·rcases own' c l o with⟨e1,f1,p1⟩|⟨e1,e2,p1⟩
   ·subst f1;exact h1.own b lb p1
   ·exact h1.own c l p1
  ·simp only[get]
   cases hi:(i==t)with
   |true=>
    have:i=t:=by simpa using hi
    subst this
    have hv:=h2 i
    rw[hg]at hv
    simp only[Zr]
    generalize a.tmps.getD i undef=val at hv
    cases hv with
    |bp h' hv' hc' ha'=>
     rw[hlb]at h';cases h'
     exact .bp (Map.bF _ _ _) (Zp _) hc' (fun _=>ha' b2.symm)
   |false=>exact(h2 i).mono (fun _ _=>rfl) (fun _ h=>h) hle
  ·obtain⟨l1,g1,g2⟩:=h3.map c l hl
   by_cases e:c=h
   ·subst e
    rw[hlh]at g1;cases g1
    refine⟨l',Map.bF _ _ _,.inr ⟨h3.ro▸hro,?_,?_⟩⟩
    ·rcases g2 with rfl|⟨_,q,_⟩
     ·exact hha
     ·exact q
    ·rcases g2 with rfl|⟨_,_,q⟩
     ·show lh.cw<v+1;omega
     ·omega
   ·exact⟨l1,by rw[Map.bm _ _ e];exact g1,g2⟩
  ·rcases own' c l o with⟨e1,f1,p1⟩|⟨e1,e2,p1⟩
   ·subst f1
    rcases h3.old b lb p1 with q|⟨l0,q,_⟩
    ·exact .inl q
    ·exact absurd q (bout l0)
   ·exact h3.old c l p1
  ·simp only[Zv]at hM
   simp only at hx
   by_cases e1:c=h
   ·subst e1
    rw[hgh]at hx;cases hx
    rw[Map.bF]at hl;cases hl
    exact hbr ρ _ (fun c v hv h0=>(hv.mono (fun _ _=>rfl) (fun _ h=>h) hle).cut M (by omega)) ⟨b1,b2,b3,b4,b5,b6,b7,b8⟩
   ·by_cases e2:c=b
    ·subst e2;rw[hgb]at hx;cases hx;cases hxl
    ·rw[hgo c e1 e2]at hx
     rw[Map.bm _ _ e1]at hl
     refine(h3.inv M hM hcl h0 c x l hcM hx hxl hl).mono (fun _ _=>rfl) (fun _ h=>h) (fun c1 l1 g=>?_) (fun _=>rfl)
     unfold Map.cut at g⊢
     split at g
     ·rename_i g2
      rw[if_pos g2]
      exact hle c1 l1 g
     ·cases g
  ·by_cases e:c=h
   ·subst e
    exact h3.nd c lh hlh
   ·rw[Map.bm _ _ e]at hl;exact h3.nd c l hl
  ·rcases own' c l o with⟨e1,f1,p1⟩|⟨e1,e2,p1⟩
   ·subst f1;exact⟨b,lb,p1,rfl⟩
   ·exact⟨c,l,p1,rfl⟩
 ·cases hm
theorem kE{B:jJ}{N:Nat}{a:Act}{w:World}(hN:B.H.bl.length=N)(hr0:HR C B.ρ B.F B.H B.w):∀(vs:List (Nat×Nat)) (h:Nat) {e e':Env} {H H':ab},dL vs h N e H=some (e',H')→Rel C nt B e H a w→Rel C nt B e' H' a w
 |[],h,e,e',H,H',hm,hr=>by cases hm;exact hr
 |(t,z)::vs,h,e,e',H,H',hm,hr=>by
  simp only[dL]at hm
  split at hm
  ·rename_i b v n hg
   cases hc:(decide (N≤b)&&decide (h<N))with
   |true=>
    rw[hc]at hm
    simp only[Zr,Zd]at hm
    obtain⟨s,hs,hm⟩:=hm
    simp only[Zh,Ze]at hc
    exact kE hN hr0 vs (h+1) hm (EE hN hr0 hc.1 hc.2 hg hs hr)
   |false=>
    rw[hc]at hm
    exact kE hN hr0 vs (h+1) hm hr
  ·exact kE hN hr0 vs (h+1) hm hr
theorem Ext.Io{ρ ρ':Map}{F F':Nat→Prop}{H H':ab}{w w':World}(h:Ext C ρ F {H with bQ:=[]} w ρ' F' H' w'):Ext C ρ F H w ρ' F' {H' with bQ:=H.bQ++H'.bQ} w':=
 ⟨⟨h.map,h.gW,h.new,h.frame,h.size,h.old,h.ro,fun p hp=>aas _ hp,fun N hN hc h0=>h.inv N hN (fun p hp=>hc p (aa5 _ hp)) h0,h.lp,h.ln,h.out⟩,h.nd⟩
theorem iG(e:Env)(t:Nat):∀l:List Nat,get (dx l e) t=bif l.contains t then get e t else .undef
 |[]=>rfl
 |i::l=>by
  have ih:=iG e t l
  unfold dx at ih⊢
  simp only[ZO,get,List.contains_cons,ih]
  cases h:(t==i)with
  |true=>
   have:t=i:=by simpa using h
   subst this;simp
  |false=>simp
theorem rj(e:Env)(N:Nat):∀l:List Nat,SV.refs.au ((dx l e).map (·.2))≤N→∀t∈l,(get e t).refs≤N
 |[],_,t,ht=>by cases ht
 |i::l,h,t,ht=>by
  unfold dx at h
  simp only[ZO,SV.refs.au]at h
  rcases ZU.1 ht with rfl|ht
  ·omega
  ·exact rj e N l (by unfold dx;omega) t ht
theorem Dk{B:jJ}{N:Nat}{p:ct}{e e':Env}{H H':ab}{a:Act}{w:World}(hN:B.H.bl.length=N)(hr0:HR C B.ρ B.F B.H B.w)(h:dU p N B.H (e,H)=some (e',H'))(hr:Rel C nt B e H a w) :
 Rel C nt B e' H' a w:=by
 unfold dU at h
 simp only[Zd]at h
 obtain⟨⟨e2,H2⟩,hre,h⟩:=h
 replace hr:=kE hN hr0 _ _ hre hr
 unfold ve at h
 cases hk:jD p.live with
 |true=>
  rw[hk]at h
  simp only[Zr,Zs,Zy]at h
  obtain⟨rfl,rfl⟩:=h
  obtain⟨ρ,F,h1,h2,h3,h4,h5⟩:=hr
  refine⟨ρ,F,h1,fun t=>?_,h3,h4,h5⟩
  rw[iG]
  cases hm:p.live.tail.contains t with
  |false=>exact .undef _
  |true=>exact h2 t
 |false=>
 rw[hk]at h
 simp only[Zu]at h
 replace h:=aj h
 obtain⟨hc,h⟩:=h
 simp only[Zb,Zy]at h
 obtain⟨H1,ht,rfl,rfl⟩:=h
 obtain⟨ρ,F,h1,h2,h3,h4,h5⟩:=hr
 have hts:=lW ht
 obtain⟨p1,p2⟩:=hr0.cV hN h1 h3 hts
 refine⟨_,F,p1,fun t=>?_,p2,h4,h5.less (xm hts.bl)⟩
 rw[iG]
 cases hm:p.live.contains t with
 |false=>exact .undef _
 |true=>
  simp only[Zr]
  exact(h2 t).cut N (rj e2 N p.live (by simpa using hc) t (by simpa using hm))
theorem D5{c:Code}{c1:cn}{p:ct}(h:gf C rec nt c c1):gf C rec nt (.loop c) (.loop p c1):=by
 intro ro n B Q R k r e H a w hro hrun hk hrel
 simp only[run]at hrun
 unfold aN at hrun
 split at hrun
 rotate_left
 ·cases hrun
 rename_i s hs
 dsimp only at hrun
 split at hrun
 rotate_left
 ·cases hrun
 rename_i o ho
 obtain⟨e1,H1⟩:=s
 obtain⟨ρ1,F1,q1,q2,q3,q4,q5⟩:=mi _ hs hrel
 obtain⟨m,hm⟩:=vH ho
 let B1:jJ:=⟨ρ1,F1,{H1 with bQ:=[]},w,B.lo⟩
 have hB1:HR C B1.ρ B1.F B1.H B1.w:=⟨q1.jn,q1.live,q1.apart,q1.own,q1.gW⟩
 have hro1:∀l,ro=some l→∃q,B1.w.heap[l]?=some (.loop q):=fun l hl=>let⟨q,hq⟩:=hro l hl;q3.lp l q hq
 have back:∀e' H' a' w',Rel C nt B1 e' H' a' w'→Rel C nt B e' {H' with bQ:=H1.bQ++H'.bQ} a' w':=by
  intro e' H' a' w' ⟨ρ',F',k1,k2,k3,k4,k5⟩
  exact⟨ρ',F',⟨k1.jn,k1.live,k1.apart,k1.own,k1.gW⟩,k2,q3.trans (Ext.Io k3),k4,k5⟩
 refine wpIn_loop_rounds m ?_
 have key:∀(m:Nat) (e:Env) (H:ab) (a:Act) (w:World),cI (fun s'=>(dU p H1.bl.length {H1 with bQ:=[]} s').bind fun s'=>run rec c1 s'.1 s'.2 (fun x e H=>some (x,e,H)) ()) m (e,H)=some o→
  Rel C nt B1 e H a w→Code.roundsIn (WF ro) n C.P c Q m a w:=by
  intro m
  induction m with
  |zero=>intro e H a w hi;cases hi
  |succ m ih=>
   intro e H a w hi hr
   simp only[cI]at hi
   cases hh:dU p H1.bl.length {H1 with bQ:=[]} (e,H)with
   |none=>rw[hh]at hi;simp at hi
   |some s2=>
    rw[hh]at hi
    obtain⟨e',H'⟩:=s2
    simp only[ZV]at hi
    cases hrn:run rec c1 e' H' (fun x e H=>some (x,e,H)) ()with
    |none=>rw[hrn]at hi;simp at hi
    |some out=>
     rw[hrn]at hi
     have hr':Rel C nt B1 e' H' a w:=Dk (B:=B1) rfl hB1 hh hr
     refine h ro n B1 _ _ (fun x e H=>some (x,e,H)) out e' H' a w hro1 hrn (fun x e2 H2 a2 w2 hx hr2=>?_) hr'
     cases hx
     cases x with
     |normal=>exact ih e2 H2 a2 w2 hi hr2
     |exit id=>
      simp only[Zs]at hi
      subst hi
      exact hk (.exit id) _ _ _ _ hrun (back _ _ _ _ hr2)
     |ret=>
      simp only[Zs]at hi
      subst hi
      exact hk .ret _ _ _ _ hrun (back _ _ _ _ hr2)
 exact key m e1 {H1 with bQ:=[]} a w hm ⟨ρ1,F1,hB1,q2,Ext.refl _ _ _ _,q4,q5⟩
theorem BF{P:Program}{w:World}{ro:Option Nat}(hro:∀l,ro=some l→∃q,w.heap[l]?=some (.loop q))(fn:FuncId)(tmps:Array Value)(ps:Array Tmp)(x y:Code) :
 ∃l mark w1 dn,(Instr.enterLoop fn tmps ps x y ro).run P w=.ok (l,mark) w1∧w.heap.size≤l∧l<w1.heap.size∧
  w1.heap[l]?=some (.loop {state:=.ready,pending:=none,fn,tmps,params:=ps,assign:=x,body:=y,defers:=dn})∧(∀B,B<w.heap.size→w1.heap[B]?=w.heap[B]?)∧w.heap.size≤w1.heap.size∧(w1.os=w.os∧w1.output=w.output)∧
  (mark=[]∨∃D,mark=[{target:=.collected D,args:= #[]}]∧w.heap.size≤D∧D≠l∧w1.heap[D]?=some (.deferred (some []))):=by
 have hal:∀(w:World) (o:Obj) (B:Nat),B<w.heap.size→(w.alloc o).heap[B]?=w.heap[B]?:=by
  intro w o B hB
  show(w.heap.push o)[B]?=_
  rw[aaQ]
  split
  ·omega
  ·rfl
 cases ro with
 |none=>
  refine⟨_,_,_,w.heap.size,run_enterLoop_outer fn tmps ps x y,by omega,by simp,?_,fun B hB=>?_,by simp;omega,⟨rfl,rfl⟩,.inr ⟨w.heap.size,rfl,Zp _,by omega,?_⟩⟩
  ·have:=World.alloc_heap_new (w.alloc (.deferred (some []))) (.loop {state:=.ready,pending:=none,fn,tmps,params:=ps,assign:=x,body:=y,defers:=w.heap.size})
   simpa using this
  ·rw[hal _ _ _ (by simp;omega),hal _ _ _ hB]
  ·rw[hal _ _ _ (by simp)]
   exact World.alloc_heap_new _ _
 |some l0=>
  obtain⟨q,hq⟩:=hro l0 rfl
  exact⟨_,_,_,q.defers,run_enterLoop_inner hq fn tmps ps x y,Zp _,by simp,World.alloc_heap_new _ _,fun B hB=>hal _ _ _ hB,by simp,⟨rfl,rfl⟩,.inl rfl⟩
theorem zc{g:Operand}{g':bU}{ps:Array Tmp}{x y:Code}{x1 y1:cn}(hrec:fx C rec)(hg:bz g=some g')(hps:∀t∈ps.toList,t<nt)(hx:eD C.P C.dz f nt x=some x1)(hy:eD C.P C.dz f nt y=some y1) :
 gf C rec nt (.rangeFunc g ps x y) (.gT g' ps.toList x1 y1):=by
 intro ro n B Q R k r e H a w hro hrun hk hrel
 simp only[run]at hrun
 unfold aN at hrun
 split at hrun
 rotate_left
 ·cases hrun
 rename_i p hp
 obtain⟨s,H2⟩:=p
 dsimp only at hrun
 split at hrun
 rotate_left
 ·cases hrun
 rename_i q0 st pend hb2
 obtain⟨hst,H3,hH3,hrun⟩:st≠.busy∧∃H3,cp H2 H.bl.length (.loop q0 .exhausted pend) 0=some H3∧k pend e H3=some r:=by
  split at hrun
  ·cases hrun
  ·rename_i hne
   split at hrun
   ·rename_i H3 hH3
    exact⟨hne,H3,hH3,hrun⟩
   ·cases hrun
 obtain⟨ρ,F,q1,q2,q3,q4,q5⟩:=hrel
 have hgv:=aZ hg q2
 unfold ov at hp
 split at hp
 rotate_left
 ·cases hp
 rename_i f' cs hfn
 rw[hfn]at hgv
 generalize hgval:a.eval g=gv at *
 cases hgv with
 |fn hn2 hv2=>
  rename_i vs
  refine wpIn_rangeFunc (fun fn _=>?_)
  obtain⟨l,mark,w1,dn,henter,hl0,hl1,hl2,hl3,hl4,hl5,hmark⟩:=BF (P:=C.P) (w:=w) (ro:=ro) (fun l hl=>let⟨q,hq⟩:=hro l hl;q3.lp l q hq) fn a.tmps ps x y
  have hkp:dy F w w1:=fun B hB=>hl3 B (q1.gW B hB)
  have hle:ρ.le (ρ.put H.bl.length ⟨l,0,0,0,0,false,false⟩):=fun b l' h=>⟨l',by rw[Map.bm _ _ (aaS (q1.jn b l' h))];exact h,.inl rfl⟩
  obtain⟨p1,p2⟩:=q1.push hl4 hl3 (.loop ⟨e,ps.toList,x1,y1⟩ .ready .normal) ⟨l,0,0,0,0,false,false⟩ (fun _=>⟨hl0,hl1⟩)
   ⟨rfl,rfl,_,hl2,rfl,rfl,rfl,⟨f,nt,q4,hps,hx,hy⟩,fun t=>(q2 t).mono hkp (fun _ h=>h) hle⟩ hl5
  have hargs:gP w1 F (ρ.put H.bl.length ⟨l,0,0,0,0,false,false⟩) ([.fp H.bl.length]++cs) (#[.func (.yield l) #[] #[]]++vs):=by
   refine jS ⟨rfl,fun j c v hc hv=>?_⟩ ⟨hn2,fun j c v hc hv=>(hv2 j c v hc hv).mono hkp (fun _ h=>h) hle⟩
   cases j with
   |zero=>
    simp at hc hv
    subst hc;subst hv
    exact .fp (l:=⟨l,0,0,0,0,false,false⟩) (Map.bF _ _ _) rfl
   |succ j=>simp at hc
  obtain⟨c1,c2⟩:=hrec.call _ _ _ _ _ hp _ F w1 _ p1 hargs
  refine⟨l,mark,w1,{target:=.fn (.func f') vs,args:= #[]++ #[.func (.yield l) #[] #[]]},w1,f',#[.func (.yield l) #[] #[]]++vs,w1,henter,?_,fun _ _=>trivial,?_,fun h=>by simp at h,?_⟩
  ·have hc:a.eval (.const (.func (.yield l) #[] #[]))=.func (.yield l) #[] #[]:=rfl
   unfold resolve
   simp only[rangeCall,hgval,Deferred.ofValue,abI,ZO,abf,hc]
   rfl
  ·simpa[invoke]using c1
  ·refine CallsIn.mono (c2 _) (fun e' w3 he'=>?_)
   obtain⟨val,rfl,ρ3,F3,_,d2,d3⟩:=he'
   obtain⟨l3,m1,m2⟩:=d3.map H.bl.length _ (Map.bF _ _ _)
   have m3:l3=⟨l,0,0,0,0,false,false⟩:=by
    rcases m2 with h|⟨_,h,_⟩
    ·exact h
    ·cases h
   subst m3
   obtain⟨l4,m4,m5⟩:=d2.live _ _ hb2 rfl
   rw[m1]at m4;cases m4
   obtain⟨_,_,q,g1,g2,g3,g4,g5,g6⟩:=id m5
   have hlt:l<w3.heap.size:=(ZG.1 g1).1
   have hown:Own ρ3 H2 H.bl.length ⟨l,0,0,0,0,false,false⟩:=⟨⟨_,hb2,rfl⟩,m1,rfl⟩
   have hkeep:∀Bk,Bk≠l→(w3.putObj l (.loop {q with state:=.exhausted})).heap[Bk]?=w3.heap[Bk]?:=fun Bk hne=>World.putObj_heap_other hne
   have hkk:dy F3 w3 (w3.putObj l (.loop {q with state:=.exhausted})):=fun Bk hB=>hkeep Bk (fun e=>(d2.own _ _ hown).1 (e▸hB))
   obtain⟨z1,z2⟩:=d2.set (w':=w3.putObj l (.loop {q with state:=.exhausted})) (l':=⟨l,0,0,0,0,false,false⟩) hH3 hb2 rfl m1 (by simp) (fun Bk _ h=>hkeep Bk (h rfl)) (fun h=>.inl ⟨h,rfl⟩) (.inl rfl)
    (fun _=>by
     rw[bW m1]
     exact⟨rfl,rfl,{q with state:=.exhausted},World.putObj_heap_same hlt,rfl,g3,g4,g5,fun t=>(g6 t).mono hkk (fun _ h=>h) (Map.le_refl _)⟩)
    (fun _ N _ _ hbr=>by
     rw[bW m1]
     obtain⟨_,_,q',b1,b2,b3,b4,b5,b6⟩:=hbr
     rw[g1]at b1;cases b1
     exact⟨rfl,rfl,{q with state:=.exhausted},World.putObj_heap_same hlt,rfl,b3,b4,b5,fun t=>(b6 t).mono hkk (fun _ h=>h) (Map.le_refl _)⟩)
    (fun _=>⟨_,_,_,rfl⟩)
   rw[bW m1]at z1 z2
   have hxt:=p2.trans (d3.trans z2)
   have hm1:Marks (ρ.put H.bl.length ⟨l,0,0,0,0,false,false⟩) F (bH H (.loop ⟨e,ps.toList,x1,y1⟩ .ready .normal)) w1 B.lo (mark++a.defers):=by
    have hm0:=q5.ext p2.toExt0
    rcases hmark with rfl|⟨D,rfl,h1,h2,h3⟩
    ·exact hm0
    ·obtain⟨k0,Ds',k1',k2',k3'⟩:=q5
     refine⟨ZN k0 hl4,D::Ds',by simp[k1'],aaX.2 ⟨fun hD=>?_,k2'⟩,fun D' hD'=>?_⟩
     ·have:=(ZG.1 (k3' D hD).2.1).1
      omega
     ·rcases ZU.1 hD' with rfl|hD'
      ·refine⟨by omega,h3,fun hF=>?_,fun b l' ho=>?_⟩
       ·have:=q1.gW _ hF;omega
       ·rcases p2.old b l' ho with h4|⟨l0,h4,h5⟩
        ·obtain⟨⟨xx,hxx,hxl⟩,hm,hv⟩:=ho
         by_cases hbl:b=H.bl.length
         ·subst hbl
          rw[Map.bF]at hm;cases hm
          exact fun e=>h2 e.symm
         ·rw[Map.bm _ _ hbl]at hm
          have hlt:=q1.jn b l' hm
          have ho':Own ρ H b l':=⟨⟨xx,by simpa[bH,Zm hlt]using hxx,hxl⟩,hm,hv⟩
          have:=(q1.own b l' ho').2
          omega
        ·have:=(q1.own b l0 h4).2
         omega
      ·exact(k3' D' hD').ext p2.toExt0
   have hrel':Rel C nt B e H3 {a with defers:=mark++a.defers} (w3.putObj l (.loop {q with state:=.exhausted})):=
    ⟨ρ3,F3,z1,hxt.er q1 q2,q3.trans hxt,q4,(hm1.ext (d3.trans z2).toExt0)⟩
   have hend:=run_endLoop (P:=C.P) g1 (by rw[g2];exact hst)
   refine⟨_,_,hend,?_⟩
   rw[g3]at hrel'⊢
   cases pend with
   |normal=>exact hk .normal _ _ _ _ hrun hrel'
   |exit id=>exact wpIn_exit (hk (.exit id) _ _ _ _ hrun hrel')
   |ret=>exact wpIn_ret (hk .ret _ _ _ _ hrun hrel')
end
end
section
section
variable{C:Ctx}{rec:Rec}{e e':Env}{H H':ab}{s:SV}
theorem map_pure{v:Option SV}(h:v.map (·,H)=some (s,H')):H'=H∧∀H2:ab,v.map (·,H2)=some (s,H2):=by
 cases v with
 |none=>cases h
 |some v=>cases h;exact⟨rfl,fun _=>rfl⟩
theorem mV{op:kQ}(hp:fP op=true)(h:aq rec e H op=some (s,H')):H'=H∧∀H2,aq rec e H2 op=some (s,H2):=by
 cases op<;>try (exfalso;simp only[fP,ZY]at hp;done)
 case eb x=>simp only[aq,b9]at h ⊢;cases h;exact⟨rfl,fun _=>rfl⟩
 case pick=>exact map_pure h
 case build=>
  simp only[aq,b9,Zb,Zy]at h⊢
  obtain⟨v,h1,rfl,rfl⟩:=h
  exact⟨rfl,fun H2=>⟨v,h1,by simp⟩⟩
 case dW=>exact map_pure h
 case bin=>exact map_pure h
 case qf=>exact map_pure h
 case dH neg n x y=>
  simp only[aq,b9]at h⊢
  split at h
  ·rename_i a b h1 h2
   simp only[Zb,Zy]at h⊢
   obtain⟨v,h1,rfl,rfl⟩:=h
   exact⟨rfl,fun H2=>⟨v,h1,by simp⟩⟩
  ·cases h
 case dQ x=>simp only[aq,b9]at h ⊢;split at h<;>first|(cases h;done)|(rename_i b hb;cases h;first|exact⟨rfl,fun _=>rfl⟩|(rw[hb];exact⟨rfl,fun _=>rfl⟩))
 case vi x=>simp only[aq,b9]at h ⊢;split at h<;>first|(cases h;done)|(rename_i k b hb;cases h;first|exact⟨rfl,fun _=>rfl⟩|(rw[hb];exact⟨rfl,fun _=>rfl⟩))
 case cq k x=>simp only[aq,b9]at h ⊢;split at h<;>first|(cases h;done)|(rename_i k b hb;cases h;first|exact⟨rfl,fun _=>rfl⟩|(rw[hb];exact⟨rfl,fun _=>rfl⟩))
 case ra x=>simp only[aq,b9]at h ⊢;split at h<;>first|(cases h;done)|(rename_i b hb;cases h;first|exact⟨rfl,fun _=>rfl⟩|(rw[hb];exact⟨rfl,fun _=>rfl⟩))
 case kX=>simp only[aq,b9]at h ⊢;cases h;exact⟨rfl,fun _=>rfl⟩
 case gV=>simp only[aq,b9]at h ⊢;cases h;exact⟨rfl,fun _=>rfl⟩
 case field ag n off x=>simp only[aq,b9]at h ⊢;split at h<;>first|(cases h;done)|(rename_i b hb;exact map_pure h)
 case nH ag n len x ix=>
  simp only[aq,b9]at h⊢
  split at h
  ·rename_i b hb
   try rw[hb]
   simp only[Zd]at h⊢
   obtain⟨i,h1,h2⟩:=h
   obtain⟨h3,h4⟩:=map_pure h2
   exact⟨h3,fun H2=>⟨i,h1,h4 H2⟩⟩
  ·cases h
 case fJ x ix=>
  simp only[aq,b9]at h⊢
  split at h
  ·rename_i b hb
   try rw[hb]
   simp only[Zd,Zb,Zy]at h⊢
   obtain⟨i,h1,v,h2,rfl,rfl⟩:=h
   exact⟨rfl,fun H2=>⟨i,h1,v,h2,by simp⟩⟩
  ·cases h
 case extract x i=>simp only[aq,b9]at h ⊢;split at h<;>first|(cases h;done)|(rename_i b hb;exact map_pure h)
 case fw x=>simp only[aq,b9]at h ⊢;split at h<;>first|(cases h;done)|(rename_i b hb;cases h;first|exact⟨rfl,fun _=>rfl⟩|(rw[hb];exact⟨rfl,fun _=>rfl⟩))
 case zg=>simp only[aq,b9]at h ⊢;cases h;exact⟨rfl,fun _=>rfl⟩
 case jM=>exact map_pure h
 case mW=>exact map_pure h
 case nS x lo hi=>simp only[aq,b9]at h ⊢;split at h<;>first|(cases h;done)|(rename_i b hb;exact map_pure h)
theorem aR{x:bU}{xs:List bU}(hx:x∈xs)(h:∀t∈bT.f xs,get e t=get e' t):ev e x=ev e' x:=by
 cases x with
 |c v=>rfl
 |t n=>exact h n (by unfold bT.f;exact List.mem_filterMap.2 ⟨.t n,hx,rfl⟩)
theorem fH{xs ys:List bU}(hx:∀x∈xs,x∈ys)(h:∀t∈bT.f ys,get e t=get e' t):xs.map (ev e)=xs.map (ev e'):=
 List.map_congr_left (fun x hm=>aR (hx x hm) h)
theorem iI{x:Option bU}{ys:List bU}(hx:∀y∈x,y∈ys)(h:∀t∈bT.f ys,get e t=get e' t):x.map (ev e)=x.map (ev e'):=by
 cases x with
 |none=>rfl
 |some x=>simp only[ZQ];rw[aR (hx x rfl) h]
theorem oD{f g:bU→SV}:∀(ps:List (Nat×Nat×bU)) (z:List SV),(∀p∈ps,f p.2.2=g p.2.2)→gE f z ps=gE g z ps
 |[],_,_=>rfl
 |(off,n,x)::ps,z,h=>by
  simp only[gE]
  rw[show f x=g x from h (off,n,x) (ZI ..)]
  congr 1
  funext cs
  cases(cs.length==n&&decide (off+n≤z.length))with
  |true=>exact oD ps _ (fun p hp=>h p (ZS _ hp))
  |false=>rfl
theorem jY{f g:bU→SV}{bP:Nat}:∀(ps:List (Nat×bU)) (z:List (List SV)),(∀p∈ps,f p.2=g p.2)→eJ f bP z ps=eJ g bP z ps
 |[],_,_=>rfl
 |(i,x)::ps,z,h=>by
  simp only[eJ]
  rw[show f x=g x from h (i,x) (ZI ..)]
  congr 1
  funext cs
  cases(cs.length==bP&&decide (i<z.length))with
  |true=>exact jY ps _ (fun p hp=>h p (ZS _ hp))
  |false=>rfl
theorem oz{o:aK}(h:∀t∈bT o,get e t=get e' t):aq rec e H o.op=aq rec e' H o.op:=by
 obtain⟨dst,op,g⟩:=o
 unfold bT at h
 replace h:=fun t ht=>h t (aas _ ht)
 dsimp only at h⊢
 cases op
 case eb x=>dsimp only at h;simp only[aq,b9,aR (x:=x) (by simp) h]
 case pick c a b=>dsimp only at h;simp only[aq,b9,aR (x:=c) (by simp) h,aR (x:=a) (by simp) h,aR (x:=b) (by simp) h]
 case box x=>dsimp only at h;simp only[aq,b9,aR (x:=x) (by simp) h]
 case alloc z=>rfl
 case nX z=>rfl
 case build z ps=>
  dsimp only at h
  simp only[aq,b9]
  rw[oD ps z (fun p hp=>aR (Z3.2 ⟨p,hp,rfl⟩) h)]
 case fB bP z n ps=>
  dsimp only at h
  simp only[aq,b9]
  rw[jY ps _ (fun p hp=>aR (Z3.2 ⟨p,hp,rfl⟩) h)]
 case dW bP z n ps=>
  dsimp only at h
  simp only[aq,b9]
  rw[jY ps _ (fun p hp=>aR (Z3.2 ⟨p,hp,rfl⟩) h)]
 case load ag n a=>dsimp only at h;simp only[aq,b9,aR (x:=a) (by simp) h]
 case store n a x=>dsimp only at h;simp only[aq,b9,aR (x:=a) (by simp) h,aR (x:=x) (by simp) h]
 case dS x=>dsimp only at h;simp only[aq,b9,aR (x:=x) (by simp) h]
 case bin op x y=>dsimp only at h;simp only[aq,b9,aR (x:=x) (by simp) h,aR (x:=y) (by simp) h]
 case qf op x y=>dsimp only at h;simp only[aq,b9,aR (x:=x) (by simp) h,aR (x:=y) (by simp) h]
 case dH neg n x y=>dsimp only at h;simp only[aq,b9,aR (x:=x) (by simp) h,aR (x:=y) (by simp) h]
 case dQ x=>dsimp only at h;simp only[aq,b9,aR (x:=x) (by simp) h]
 case isNil k neg x=>dsimp only at h;simp only[aq,b9,aR (x:=x) (by simp) h]
 case vi x=>dsimp only at h;simp only[aq,b9,aR (x:=x) (by simp) h]
 case cq k x=>dsimp only at h;simp only[aq,b9,aR (x:=x) (by simp) h]
 case ra x=>dsimp only at h;simp only[aq,b9,aR (x:=x) (by simp) h]
 case jq x=>dsimp only at h;simp only[aq,b9,aR (x:=x) (by simp) h]
 case qh x=>dsimp only at h;simp only[aq,b9,aR (x:=x) (by simp) h]
 case gV f cs=>dsimp only at h;simp only[aq,b9,fH (xs:=cs) (fun _ h=>h) h]
 case kX f cs=>dsimp only at h;simp only[aq,b9,fH (xs:=cs) (fun _ h=>h) h]
 case dJ bP z bytes l c=>dsimp only at h;simp only[aq,b9,aR (x:=l) (by simp) h,aR (x:=c) (by simp) h]
 case gU bP x lo hi mx=>
  dsimp only at h
  simp only[aq,b9,aR (x:=x) (by simp) h,iI (x:=lo) (by simp +contextual) h,iI (x:=hi) (by simp +contextual) h,iI (x:=mx) (by simp +contextual) h]
 case nS x lo hi=>
  dsimp only at h
  simp only[aq,b9,aR (x:=x) (by simp) h,iI (x:=lo) (by simp +contextual) h,iI (x:=hi) (by simp +contextual) h]
 case ai off x=>dsimp only at h;simp only[aq,b9,aR (x:=x) (by simp) h]
 case field ag n off x=>dsimp only at h;simp only[aq,b9,aR (x:=x) (by simp) h]
 case bu bP x ix=>dsimp only at h;simp only[aq,b9,aR (x:=x) (by simp) h,aR (x:=ix) (by simp) h]
 case gj len bP x ix=>dsimp only at h;simp only[aq,b9,aR (x:=x) (by simp) h,aR (x:=ix) (by simp) h]
 case nH ag n len x ix=>dsimp only at h;simp only[aq,b9,aR (x:=x) (by simp) h,aR (x:=ix) (by simp) h]
 case fJ x ix=>dsimp only at h;simp only[aq,b9,aR (x:=x) (by simp) h,aR (x:=ix) (by simp) h]
 case extract x i=>dsimp only at h;simp only[aq,b9,aR (x:=x) (by simp) h]
 case len x=>dsimp only at h;simp only[aq,b9,aR (x:=x) (by simp) h]
 case fw x=>dsimp only at h;simp only[aq,b9,aR (x:=x) (by simp) h]
 case zg n=>rfl
 case jM xs=>dsimp only at h;simp only[aq,b9,fH (xs:=xs) (fun _ h=>h) h]
 case mW xs=>dsimp only at h;simp only[aq,b9,fH (xs:=xs) (fun _ h=>h) h]
 case append bP bytes s x=>dsimp only at h;simp only[aq,b9,aR (x:=s) (by simp) h,aR (x:=x) (by simp) h]
 case oY s x=>dsimp only at h;simp only[aq,b9,aR (x:=s) (by simp) h,aR (x:=x) (by simp) h]
 case copy bP d x=>dsimp only at h;simp only[aq,b9,aR (x:=d) (by simp) h,aR (x:=x) (by simp) h]
 case clear bP z x=>dsimp only at h;simp only[aq,b9,aR (x:=x) (by simp) h]
 case mY=>rfl
 case mu t x k v=>dsimp only at h;simp only[aq,b9,aR (x:=x) (by simp) h,aR (x:=k) (by simp) h,aR (x:=v) (by simp) h]
 case kf t ok z x k=>dsimp only at h;simp only[aq,b9,aR (x:=x) (by simp) h,aR (x:=k) (by simp) h]
 case call f xs=>
  dsimp only at h
  simp only[aq]
  rw[aR (x:=f) (ZI ..) h,fH (xs:=xs) (fun x hx=>ZS _ hx) h]
 case eE f m xs=>
  dsimp only at h
  simp only[aq]
  rw[fH (xs:=xs) (fun x hx=>hx) h]
 case iW f xs=>
  dsimp only at h
  simp only[aq]
  rw[fH (xs:=xs) (fun x hx=>hx) h]
 case bad=>rfl
def DC(acc:List Nat)(o:Oper):Nat:=o.after.toList.foldl (fun s e=>bif Region.binds .any e then s|||2 ^ e.on|||acc.getD e.on 0 else s) 0
theorem je(l:List Oper)(o:Oper):bI (l++[o])=bI l++[DC (bI l) o]:=by
 simp[bI,DC,acn]
theorem yh{A:Type}{P:List A→Prop}(h0:P [])(h1:∀l a,P l→P (l++[a]))(l:List A):P l:=by
 rw[←List.reverse_reverse l]
 induction l.reverse with
 |nil=>exact h0
 |cons a r ih=>rw[abV];exact h1 _ _ ih
theorem ef(l:List Oper):(bI l).length=l.length:=by
 refine yh (P:=fun l=>(bI l).length=l.length) rfl (fun l o ih=>?_) l
 rw[je];simp[ih]
theorem gI(l m:List Oper){j:Nat}(hj:j<l.length):(bI (l++m))[j]?=(bI l)[j]?:=by
 refine yh (P:=fun m=>(bI (l++m))[j]?=(bI l)[j]?) (by simp) (fun m o ih=>?_) m
 rw[←Za,je,Zm (by rw[ef];simp;omega)]
 exact ih
theorem rF{acc:List Nat}{i:Nat}:∀(es:List Edge) (s:Nat),(es.foldl (fun s e=>bif Region.binds .any e then s|||2 ^ e.on|||acc.getD e.on 0 else s) s).testBit i=true→
 s.testBit i=true∨∃e∈es,Region.binds .any e=true∧(e.on=i∨(acc.getD e.on 0).testBit i=true)
 |[],s,h=>.inl h
 |d::es,s,h=>by
  simp only[aad]at h
  rcases rF es _ h with h1|⟨d',h1,h2⟩
  ·cases hb:Region.binds .any d with
   |false=>rw[hb]at h1;exact .inl h1
   |true=>
    rw[hb]at h1
    simp only[Zr,Nat.testBit_or,Z6,Nat.testBit_two_pow,Ze]at h1
    rcases h1 with(h1|h1)|h1
    ·exact .inl h1
    ·exact .inr ⟨d,ZI ..,hb,.inl h1⟩
    ·exact .inr ⟨d,ZI ..,hb,.inr h1⟩
  ·exact .inr ⟨d',ZS _ h1,h2⟩
theorem mh{ops:List Oper}{j i:Nat}(h:((bI ops).getD j 0).testBit i=true) :
 ∃o,ops[j]?=some o∧∃e∈o.after,Region.binds .any e=true∧(e.on=i∨(e.on<j∧((bI ops).getD e.on 0).testBit i=true)):=by
 by_cases hj:j<ops.length
 ·have hsp:ops=ops.take (j+1)++ops.drop (j+1):=(aaa _ _).symm
  have hsn:ops.take (j+1)=ops.take j++[ops[j]]:=List.take_succ_eq_append_getElem hj
  have hlt:(ops.take j).length=j:=by simp;omega
  have hval:(bI ops)[j]?=some (DC (bI (ops.take j)) ops[j]):=by
   conv=>lhs;rw[hsp]
   rw[gI _ _ (by simp;omega),hsn,je,ZR (by rw[ef];omega),ef,hlt]
   simp
  rw[Z7,hval]at h
  simp only[aaC]at h
  refine⟨ops[j],by simp[hj],?_⟩
  unfold DC at h
  rcases rF _ _ h with h|⟨d,h1,h2,h3⟩
  ·simp at h
  ·refine⟨d,by simpa using h1,h2,h3.imp id (fun h3=>?_)⟩
   by_cases hd:d.on<j
   ·refine⟨hd,?_⟩
    have:(bI ops)[d.on]?=(bI (ops.take j))[d.on]?:=by
     conv=>lhs;rw[hsp]
     rw[gI _ _ (by simp;omega),hsn,gI _ _ (by omega)]
    rw[Z7,this,←Z7]
    exact h3
   ·rw[Z7,aao (by rw[ef];omega)]at h3
    simp at h3
 ·rw[Z7,aao (by rw[ef];omega)]at h
  simp at h
theorem wo{ops:List Oper}(hedge:∀(i:Nat) o,ops[i]?=some o→∀e∈o.after,Region.binds .any e=true→e.on<i):∀(j i:Nat),((bI ops).getD j 0).testBit i=true→i<j:=by
 intro j
 induction j using Nat.strongRecOn with
 |_ j ih=>
  intro i h
  obtain⟨o,h1,d,h2,h3,h4⟩:=mh h
  rcases h4 with h4|⟨h4,h5⟩
  ·subst h4;exact hedge j o h1 d h2 h3
  ·have:=ih d.on h4 i h5;omega
theorem jr{ops:List Oper}{S:Nat→Prop}(hS:∀(k:Nat) o,S k→ops[k]?=some o→∀e∈o.after,Region.binds .any e=true→S e.on) :
 ∀(j i:Nat),(∀o,ops[j]?=some o→∀e∈o.after,Region.binds .any e=true→S e.on)→((bI ops).getD j 0).testBit i=true→S i:=by
 intro j
 induction j using Nat.strongRecOn with
 |_ j ih=>
  intro i hj h
  obtain⟨o,h1,d,h2,h3,h4⟩:=mh h
  have hd:=hj o h1 d h2 h3
  rcases h4 with h4|⟨h4,h5⟩
  ·subst h4;exact hd
  ·exact ih d.on h4 i (fun o' ho'=>hS d.on o' hd ho') h5
def dr(pl:List (aK×bE))(i:Nat):bE:=((pl[i]?).map (·.2)).getD ⟨.pure,[],0,0⟩
theorem cF{pl:List (aK×bE)}{i:Nat}{o:aK}{d:bE}(h:pl[i]?=some (o,d)):dr pl i=d:=by simp[dr,h]
structure Wg(bs:List Nat)(ops:List Oper)(pl:List (aK×bE)):Prop where
 Dq:∀(i:Nat) o,ops[i]?=some o→∀e∈o.after,Region.binds .any e=true→e.on<i
 tmp:∀(i j:Nat) a b,i<j→pl[i]?=some a→pl[j]?=some b→(bs.getD j 0).testBit i=true∨(∀d,a.1.dst=some d→d∉bT b.1∧b.1.dst≠some d)∧(∀d,b.1.dst=some d→d∉bT a.1)
 Ft:∀(i:Nat) o d,pl[i]?=some (o,d)→d.kind=.pure→fP o.op=true∧d.wi=0
 gl:∀i j,i<pl.length→j<pl.length→(dr pl i).kind=.gl→(dr pl j).kind≠.pure→i=j∨(bs.getD j 0).testBit i=true∨(bs.getD i 0).testBit j=true
 K3:0<pl.length→(dr pl 0).kq=0
 Fj:∀k,k+1<pl.length→(dr pl (k+1)).kq=bif pr (dr pl k)then 0 else(dr pl k).kq+(dr pl k).wi
 Vj:∀k,k<pl.length→df (dr pl k)=true→(dr pl k).wi=0
 PY:∀k m,k<pl.length→m<pl.length→df (dr pl k)=true→k<m→(dr pl m).kind≠.pure→(bs.getD m 0).testBit k=true
 ind:∀i k a,k<pl.length→i<k→df (dr pl k)=true→(dr pl i).kind=.jE→pl[i]?=some a→(∃m,i<m∧m<k∧(dr pl m).kind=.gl)∨(bs.getD k 0).testBit i=true∨nE a.1.op=true∨nY pl i k a.1.op (dr pl k)=true
 eU:∀i,i<pl.length→((dr pl i).kind=.jE∨df (dr pl i)=true)→∀k,k<i→(dr pl k).kind=.jE→(∃m,k<m∧m<i∧(dr pl m).kind=.gl)∨(bs.getD i 0).testBit k=true∨∀m,m<(dr pl k).wi→(dr pl k).kq+m∈(dr pl i).eU
theorem iM{d:bE}:pr d=true↔d.kind=.gl:=by unfold pr;cases d.kind<;>simp
theorem nR{d:bE}:rz d=true↔d.kind=.jE:=by unfold rz;cases d.kind<;>simp
theorem lN{d:bE}:pd d=true↔d.kind=.pure:=by unfold pd;cases d.kind<;>simp
theorem sY{bs:List Nat}{ops:List Oper}{pl:List (aK×bE)}(h:kC bs ops pl=true):Wg bs ops pl:=by
 unfold kC at h
 simp only[Zh]at h
 obtain⟨⟨⟨⟨⟨⟨⟨h1,h2⟩,h3⟩,h4⟩,h5⟩,h6⟩,h7⟩,h8⟩:=h
 refine⟨fun i o ho e he hb=>?_,fun i j a b hij ha hb=>?_,fun i o d hi hk=>?_,fun i j hi hj hk hp=>?_,fun h0=>?_,fun k hk=>?_,fun k hk hw=>?_,fun k m hk hm hw hkm hp=>?_,fun i k a hk hik hw hs ha=>?_,fun i hi hk k hki hkk=>?_⟩
 ·have:=ZA.1 h1 (o,i) (by rw[ab1];exact⟨i,by simp[List.getElem?_zipIdx,ho]⟩)
  have:=ZA.1 this e (by simpa using he)
  simpa[hb]using this
 ·have hj:=(Y8.1 hb).1
  have:=ZA.1 h2 j (ZF.2 hj)
  have:=ZA.1 this i (ZF.2 hij)
  rw[ha,hb]at this
  simp only[Z6,ZK,aaw]at this
  refine this.imp id (fun⟨g1,g2⟩=>⟨fun d hd=>?_,fun d hd=>?_⟩)
  ·rw[hd]at g1
   simp only[aaw,List.contains_eq_mem,Zi,aaJ]at g1
   exact g1
  ·rw[hd]at g2
   simpa using g2
 ·have:=ZA.1 h3 (o,d) (Zj hi)
  simpa[lN.2 hk]using this
 ·have:=ZA.1 h4 i (ZF.2 hi)
  have hb:pr (((pl[i]?).map (·.2)).getD ⟨.pure,[],0,0⟩)=true:=iM.2 hk
  rw[hb]at this
  simp only[aai,aay]at this
  have:=ZA.1 this j (ZF.2 hj)
  simp only[Z6]at this
  rcases this with h|h
  ·exact absurd (lN.1 h) hp
  ·unfold BD at h
   simp only[Z6,aah]at h
   rcases h with(h|h)|h
   ·exact .inl h
   ·exact .inr (.inl h)
   ·exact .inr (.inr h)
 ·have:=ZA.1 h5 0 (ZF.2 h0)
  simpa[dr]using this
 ·have:=ZA.1 h5 (k+1) (ZF.2 hk)
  simpa[dr]using this
 ·have:=ZA.1 h7 k (ZF.2 hk)
  have hw':df (((pl[k]?).map (·.2)).getD ⟨.pure,[],0,0⟩)=true:=hw
  rw[hw']at this
  simp only[aai,aay,Zh]at this
  exact aah.1 this.1
 ·have:=ZA.1 h7 k (ZF.2 hk)
  have hw':df (((pl[k]?).map (·.2)).getD ⟨.pure,[],0,0⟩)=true:=hw
  rw[hw']at this
  simp only[aai,aay,Zh]at this
  have:=ZA.1 this.2 m (ZF.2 hm)
  simp only[Z6,ZK,Zi]at this
  rcases this with(h|h)|h
  ·exact absurd hkm h
  ·exact absurd (lN.1 h) hp
  ·exact h
 ·have:=ZA.1 h8 k (ZF.2 hk)
  have hw':df (((pl[k]?).map (·.2)).getD ⟨.pure,[],0,0⟩)=true:=hw
  rw[hw']at this
  simp only[aai,aay]at this
  have:=ZA.1 this i (ZF.2 hik)
  have hs':rz (((pl[i]?).map (·.2)).getD ⟨.pure,[],0,0⟩)=true:=nR.2 hs
  rw[hs',ha]at this
  simp only[aai,aay,Z6]at this
  rcases this with(h|h)|h
  ·obtain⟨m,hm,h⟩:=aav.1 h
   simp only[Zh,Ze]at h
   exact .inl ⟨m,h.1,ZF.1 hm,iM.1 h.2⟩
  ·exact .inr (.inl h)
  ·exact .inr (.inr h)
 ·have:=ZA.1 h6 i (ZF.2 hi)
  have hs:(rz (((pl[i]?).map (·.2)).getD ⟨.pure,[],0,0⟩)||df (((pl[i]?).map (·.2)).getD ⟨.pure,[],0,0⟩))=true:=by
   rw[Z6]
   exact hk.imp (fun h=>nR.2 h) (fun h=>h)
  rw[hs]at this
  simp only[aai,aay]at this
  have:=ZA.1 this k (ZF.2 hki)
  have hs':rz (((pl[k]?).map (·.2)).getD ⟨.pure,[],0,0⟩)=true:=nR.2 hkk
  rw[hs']at this
  simp only[aai,aay,Z6]at this
  rcases this with(h|h)|h
  ·obtain⟨m,hm,h⟩:=aav.1 h
   simp only[Zh,Ze]at h
   exact .inl ⟨m,h.1,ZF.1 hm,iM.1 h.2⟩
  ·exact .inr (.inl h)
  ·refine .inr (.inr (fun m hm=>?_))
   have:=ZA.1 h m (ZF.2 hm)
   rw[List.contains_iff_mem]at this
   exact this
def o5(e:Env)(g:Option (Nat×Bool)):Prop:=g=none∨∃t w,g=some (t,w)∧get e t=.bool w
def uG(e:Env)(g:Option (Nat×Bool)):Prop:=∃t w,g=some (t,w)∧(get e t=.bool (!w)∨get e t=.iz)
structure Tr(rec:Rec)(pl:List (aK×bE))(es:Nat→Env)(hs:Nat→ab)(out:Nat→SV)(Ns:Nat→Nat):Prop where
 env:∀(i:Nat) o d,pl[i]?=some (o,d)→es (i+1)=cb (es i) o.dst (out i)
 nx:∀(i:Nat) o d,pl[i]?=some (o,d)→Ns (i+1)=fA d (Ns i) (hs (i+1))
 st:∀(i:Nat) o d,pl[i]?=some (o,d)→(o5 (es i) o.g∧bY rec (Ns i) d (es i) (hs i) o.op=some (out i,hs (i+1)))∨(uG (es i) o.g∧hU d=true∧out i=.iz∧hs (i+1)=hs i)
theorem trace{R:Type}{k:Env→ab→Option R}{r:R}:∀(pl:List (aK×bE)) (N:Nat) (e:Env) (H:ab),bX rec pl N e H k ()=some r→
 ∃es hs out Ns,es 0=e∧hs 0=H∧Ns 0=N∧Tr rec pl es hs out Ns∧k (es pl.length) (hs pl.length)=some r
 |[],N,e,H,h=>⟨fun _=>e,fun _=>H,fun _=>.undef,fun _=>N,rfl,rfl,rfl,⟨by simp,by simp,by simp⟩,h⟩
 |(o,d)::pl,N,e,H,h=>by
  have key:∀s H',((o5 e o.g∧bY rec N d e H o.op=some (s,H'))∨(uG e o.g∧hU d=true∧s=.iz∧H'=H))→
   bX rec pl (fA d N H') (cb e o.dst s) H' k ()=some r→∃es hs out Ns,es 0=e∧hs 0=H∧Ns 0=N∧Tr rec ((o,d)::pl) es hs out Ns∧k (es (pl.length+1)) (hs (pl.length+1))=some r:=by
   intro s H' hst hrun
   obtain⟨es,hs,out,Ns,h1,h2,h3,h4,h5⟩:=trace pl _ _ _ hrun
   refine⟨fun|0=>e|i+1=>es i,fun|0=>H|i+1=>hs i,fun|0=>s|i+1=>out i,fun|0=>N|i+1=>Ns i,rfl,rfl,rfl,⟨?_,?_,?_⟩,h5⟩
   ·intro i o' d' hi
    cases i with
    |zero=>simp at hi;obtain⟨rfl,rfl⟩:=hi;exact h1
    |succ i=>exact h4.env i o' d' (by simpa using hi)
   ·intro i o' d' hi
    cases i with
    |zero=>simp at hi;obtain⟨rfl,rfl⟩:=hi;simp only;rw[h3,h2]
    |succ i=>exact h4.nx i o' d' (by simpa using hi)
   ·intro i o' d' hi
    cases i with
    |zero=>simp at hi;obtain⟨rfl,rfl⟩:=hi;simp only;rw[h2];exact hst
    |succ i=>exact h4.st i o' d' (by simpa using hi)
  simp only[bX]at h
  split at h
  ·rename_i hg
   unfold aN at h
   split at h
   ·rename_i p hp
    exact key p.1 p.2 (.inl ⟨.inl hg,hp⟩) h
   ·cases h
  ·rename_i t w hg
   unfold fj at h
   split at h
   ·rename_i b hb
    unfold fork at h
    dsimp only at h
    cases hbw:(b==w)with
    |true=>
     have:b=w:=by simpa using hbw
     subst this
     rw[hbw]at h
     simp only[Zr]at h
     unfold aN at h
     split at h
     ·rename_i p hp
      exact key p.1 p.2 (.inl ⟨.inr ⟨t,b,hg,hb⟩,hp⟩) h
     ·cases h
    |false=>
     have:b=!w:=by cases b<;>cases w<;>simp_all
     subst this
     rw[hbw]at h
     simp only[Zu]at h
     replace h:=aj h
     exact key .iz H (.inr ⟨⟨t,w,hg,.inl hb⟩,h.1,rfl,rfl⟩) h.2
   ·rename_i hb
    unfold fork at h
    dsimp only at h
    simp only[Zu]at h
    replace h:=aj h
    exact key .iz H (.inr ⟨⟨t,w,hg,.inr hb⟩,h.1,rfl,rfl⟩) h.2
   ·cases h
end
end
section
def ej:aD→aD→Prop
 | .dead,.dead=>True
 | .box cs,.box cs'=>cs.length=cs'.length
 | .arr v z L e,.arr v' z' L' e'=>v=v'∧z=z'∧L.length=L'.length∧e=e'
 | .loop r s p,.loop r' s' p'=>r=r'∧s=s'∧p=p'
 | .map es,.map es'=>es=es'
 |_,_=>False
theorem j8(x:aD):ej x x:=by cases x<;>simp[ej]
theorem sd{x y z:aD}(h:ej x y)(h':ej y z):ej x z:=by
 cases x<;>cases y<;>simp only[ej]at h<;>cases z<;>simp only[ej]at h'⊢ <;>simp_all
theorem vt{x y:aD}(h:ej x y):x.live=y.live:=by
 cases x<;>cases y<;>simp only[ej]at h<;>rfl
structure cj(l l':List aD):Prop where
 len:l.length=l'.length
 at_:∀(b:Nat) x y,l[b]?=some x→l'[b]?=some y→ej x y
theorem cj.refl(l:List aD):cj l l:=⟨rfl,fun b x y h h'=>by rw[h]at h';cases h';exact j8 x⟩
theorem cj.get{l l':List aD}(h:cj l l')(b:Nat):(l[b]?=none∧l'[b]?=none)∨∃x y,l[b]?=some x∧l'[b]?=some y∧ej x y:=by
 cases hx:l[b]? with
 |none=>
  left
  refine⟨rfl,?_⟩
  rw[List.getElem?_eq_none_iff]at hx⊢
  rw[←h.len];exact hx
 |some x=>
  have hb:=(Y8.1 hx).1
  have hy:l'[b]?=some (l'[b]'(by rw[←h.len];exact hb)):=Zq _
  exact .inr ⟨x,_,rfl,hy,h.at_ b _ _ hx hy⟩
theorem cj.trans{l l' l'':List aD}(h:cj l l')(h':cj l' l''):cj l l'':=by
 refine⟨h.len.trans h'.len,fun b x z hx hz=>?_⟩
 rcases h.get b with⟨h1,_⟩|⟨x',y,h1,h2,h3⟩
 ·rw[h1]at hx;cases hx
 ·rw[hx]at h1;cases h1
  exact sd h3 (h'.at_ b _ _ h2 hz)
theorem cj.set{l:List aD}{b:Nat}{x y:aD}(hx:l[b]?=some x)(h:ej x y):cj l (l.set b y):=by
 refine⟨by simp,fun b' u v hu hv=>?_⟩
 by_cases e:b'=b
 ·subst e
  rw[hx]at hu;cases hu
  have hlt:=(Y8.1 hx).1
  simp[hlt]at hv
  subst hv;exact h
 ·rw[Zg (Ne.symm e),hu]at hv
  cases hv;exact j8 u
theorem cj.take{l l':List aD}(h:cj l l')(n:Nat):cj (l.take n) (l'.take n):=by
 refine⟨by simp[h.len],fun b x y hx hy=>?_⟩
 rw[ZC]at hx hy
 split at hx
 ·rename_i hlt
  rw[if_pos hlt]at hy
  exact h.at_ b x y hx hy
 ·cases hx
theorem cj.both{l l':List aD}(h:cj l l')(b:Nat)(x:aD):cj (l.set b x) (l'.set b x):=by
 refine⟨by simp[h.len],fun b' u v hu hv=>?_⟩
 by_cases e:b'=b
 ·subst e
  have h1:=(Y8.1 hu).1
  have h2:=(Y8.1 hv).1
  rw[Zv]at h1 h2
  simp[h1]at hu
  simp[h2]at hv
  subst hu;subst hv;exact j8 _
 ·rw[Zg (Ne.symm e)]at hu hv
  exact h.at_ b' u v hu hv
theorem cj.eU{l l':List aD}(h:cj l l')(N:Nat):∀ds:List Nat,cj (cz N ds l) (cz N ds l'):=by
 intro ds
 induction ds generalizing l l' with
 |nil=>exact h
 |cons d ds ih=>
  have:=ih (h.both (N+d) .dead)
  unfold cz at this⊢
  simpa using this
section
variable{rec:Rec}{e:Env}{H H' V0 V1 V0':ab}{s:SV}
theorem iN(h:cj H.bl H'.bl)(v:SV):cur H v=cur H' v:=by
 cases v<;>try rfl
 ·rename_i b cw i o
  unfold cur bk
  dsimp only
  rcases h.get b with⟨h1,h2⟩|⟨x,y,h1,h2,h3⟩
  ·rw[h1,h2]
  ·rw[h1,h2]
   cases x<;>cases y<;>simp only[ej]at h3<;>first|rfl|(simp[h3.1])
 ·rename_i b cw i o
  unfold cur bk
  dsimp only
  rcases h.get b with⟨h1,h2⟩|⟨x,y,h1,h2,h3⟩
  ·rw[h1,h2]
  ·rw[h1,h2]
   cases x<;>cases y<;>simp only[ej]at h3<;>first|rfl|(simp[h3.1])
theorem pa(h:cj H.bl H'.bl)(z:Nat)(v:SV):dY H z v=dY H' z v:=by
 cases v<;>try rfl
 rename_i b cw i o
 unfold dY bk
 dsimp only
 rcases h.get b with⟨h1,h2⟩|⟨x,y,h1,h2,h3⟩
 ·rw[h1,h2]
 ·rw[h1,h2]
  cases x<;>cases y<;>simp only[ej]at h3<;>first|rfl|(simp[h3.1,h3.2.1])
theorem qI(h:cj H.bl H'.bl)(x:SV)(lo hi mx:Option SV):im H x lo hi mx=im H' x lo hi mx:=by
 unfold im
 split
 ·rename_i b v off n hv
  rcases h.get b with⟨h1,h2⟩|⟨y,z,h1,h2,h3⟩
  ·simp only[bk,h1,h2]
  ·simp only[bk,h1,h2]
   cases y<;>cases z<;>simp only[ej]at h3<;>try rfl
   simp only[h3.2.2.1]
 ·rfl
theorem vn(h:cj H.bl H'.bl)(k:NK)(v:SV):fG H k v=fG H' k v:=by
 cases k<;>cases v<;>first|rfl|(simp only[fG,iN h])
theorem qo{v:Option SV}(h:v.map (·,V0)=some (s,V0')):∃X,V0'={V0 with bl:=V0.bl++X}∧v.map (·,V1)=some (s,{V1 with bl:=V1.bl++X}):=by
 cases v with
 |none=>cases h
 |some v=>cases h;exact⟨[],by simp,by simp⟩
theorem zU{op:kQ}(hb:nE op=true)(hsh:cj V0.bl V1.bl)(h:aq rec e V0 op=some (s,V0')) :
 ∃X,V0'={V0 with bl:=V0.bl++X}∧aq rec e V1 op=some (s,{V1 with bl:=V1.bl++X}):=by
 cases op<;>try (exfalso;simp only[nE,ZY]at hb;done)
 case box x=>
  simp only[aq,b9,Zb,Zy]at h⊢
  obtain⟨cs,h1,rfl,rfl⟩:=h
  exact⟨[.box cs],rfl,cs,h1,by rw[hsh.len],rfl⟩
 case alloc z=>
  simp only[aq,b9]at h⊢
  cases h
  exact⟨[.box z],rfl,by rw[hsh.len];rfl⟩
 case fB bP z n ps=>
  simp only[aq,b9,Zb,Zy]at h⊢
  obtain⟨L,h1,rfl,rfl⟩:=h
  exact⟨[.arr 0 bP L true],rfl,L,h1,by rw[hsh.len],rfl⟩
 case dS x=>
  simp only[aq,b9]at h⊢
  rw[←iN hsh]
  replace h:=aj h
  rw[h.1];exact qo h.2
 case isNil k neg x=>
  simp only[aq,b9]at h⊢
  rw[←vn hsh]
  simp only[Zb,Zy]at h⊢
  obtain⟨b,h1,rfl,rfl⟩:=h
  exact⟨[],by simp,b,h1,by simp⟩
 case dJ bP z bytes l c=>
  simp only[aq,b9]at h⊢
  unfold mF at h⊢
  split at h
  ·rename_i l' c' h1 h2
   replace h:=aj h
   obtain⟨h3,h⟩:=h
   cases h
   rw[h3]
   exact⟨[.arr 0 bP (List.replicate c'.toNat z) true],rfl,by simp[hsh.len,bH]⟩
  ·cases h
 case gU bP x lo hi mx=>
  simp only[aq,b9]at h⊢
  rw[←pa hsh,←qI hsh]
  replace h:=aj h
  rw[h.1];exact qo h.2
 case ai off x=>
  simp only[aq,b9]at h⊢
  rw[←iN hsh]
  replace h:=aj h
  rw[h.1];exact qo h.2
 case bu bP x ix=>
  simp only[aq,b9]at h⊢
  rw[←pa hsh]
  replace h:=aj h
  rw[h.1];exact qo h.2
 case gj len bP x ix=>
  simp only[aq,b9]at h⊢
  rw[←iN hsh]
  replace h:=aj h
  rw[h.1]
  simp only[Zd,Zr]at h⊢
  obtain⟨_,i,h1,h2⟩:=h
  obtain⟨X,h3,h4⟩:=qo (V1:=V1) h2
  exact⟨X,h3,i,h1,h4⟩
 case len x=>
  simp only[aq,b9]at h⊢
  rw[←iN hsh]
  replace h:=aj h
  rw[h.1]
  simp only[Zb,Zr,Zy]at h⊢
  obtain⟨_,i,h1,rfl,rfl⟩:=h
  exact⟨[],by simp,i,h1,rfl,by simp⟩
theorem uA{cs xs:List SV}{o n:Nat}(hn:xs.length=n)(hle:o+n≤cs.length):(fc cs o n xs).length=cs.length:=by
 unfold fc;simp;omega
theorem iT{b:Nat}{y:aD}{r:Nat}(h:cp H b y r=some H'):H.ro≤b∧b<H.bl.length∧H'.bl=H.bl.set b y∧H'.ro=H.ro:=by
 unfold cp at h
 replace h:=aj h
 obtain⟨h1,h2⟩:=h
 simp only[Zh,Ze]at h1
 cases h2
 exact⟨h1.1,h1.2,rfl,rfl⟩
theorem fU{n:Nat}{x p:SV}(h:dP n H x p=some H'):∃b v i o xs y0 y1,p=.ptr b v i o∧cm x=some xs∧xs.length=n∧H.bl[b]?=some y0∧y0.live=true∧y1.live=true∧ej y0 y1∧cp H b y1 x.refs=some H'∧
 ((∃cs,y0=.box cs∧i=0∧o+n≤cs.length∧y1=.box (fc cs o n xs))∨(∃z L ex cs,y0=.arr v z L ex∧L[i]?=some cs∧o+n≤cs.length∧y1=.arr v z (L.set i (fc cs o n xs)) ex)):=by
 unfold dP at h
 split at h
 ·rename_i b v i o
  simp only[Zd]at h
  obtain⟨xs,hxs,h⟩:=h
  replace h:=aj h
  obtain⟨hn,h⟩:=h
  have hn:xs.length=n:=by simpa using hn
  split at h
  ·rename_i cs hb
   replace h:=aj h
   obtain⟨hi,h⟩:=h
   simp only[Zh,aah,Ze]at hi
   exact⟨b,v,i,o,xs,_,.box (fc cs o n xs),rfl,hxs,hn,hb,rfl,rfl,(uA hn hi.2).symm,h,.inl ⟨cs,rfl,hi.1,hi.2,rfl⟩⟩
  ·rename_i v' z L ex hb
   replace h:=aj h
   obtain⟨hv,h⟩:=h
   have hv:v=v':=by simpa using hv
   subst hv
   split at h
   ·rename_i cs hcs
    replace h:=aj h
    obtain⟨hle,h⟩:=h
    have hle:o+n≤cs.length:=by simpa using hle
    exact⟨b,v,i,o,xs,_,.arr v z (L.set i (fc cs o n xs)) ex,rfl,hxs,hn,hb,rfl,rfl,⟨rfl,rfl,by simp,rfl⟩,h,.inr ⟨z,L,ex,cs,rfl,hcs,hle,rfl⟩⟩
   ·cases h
  ·cases h
 ·cases h
theorem vl{cs xs:List SV}{o n j:Nat}(hn:xs.length=n)(hle:o+n≤cs.length)(hj:j<o∨o+n≤j):(fc cs o n xs)[j]?=cs[j]?:=by
 unfold fc
 rw[Za,aar]
 have ht:(cs.take o).length=o:=by simp;omega
 rw[ht]
 split
 ·rename_i h;rw[ZC,if_pos h]
 ·rename_i h
  rw[aar,if_neg (by omega),ZT]
  congr 1;omega
theorem pU{ag:Bool}{m o o' n:Nat}{cs xs:List SV}(h:cS ag m cs o=some s)(hn:xs.length=n)(hle:o'+n≤cs.length)(hd:o+(bif ag then m else 1)≤o'∨o'+n≤o) :
 cS ag m (fc cs o' n xs) o=some s:=by
 unfold cS at h⊢
 cases ag with
 |false=>
  simp only[Zu]at h hd⊢
  rw[vl hn hle (by omega)];exact h
 |true=>
  simp only[Zr]at h hd⊢
  replace h:=aj h
  obtain⟨h1,h⟩:=h
  rw[uA hn hle,h1]
  simp only[Zr]
  have h1:o+m≤cs.length:=by simpa using h1
  rw[←h]
  congr 2
  apply aa2
  intro j
  rw[ZC,ZC]
  split
  ·rw[ZT,ZT,vl hn hle (by omega)]
  ·rfl
theorem zn{ag:Bool}{m n:Nat}{p q x:SV}(h:cW ag m H p=some s)(h':dP n H x q=some H')(hd:uE p (bif ag then m else 1) q n=true):cW ag m H' p=some s:=by
 obtain⟨b',v',i',o',xs,y0,y1,rfl,hxs,hn,hb',_,_,_,cp,hcase⟩:=fU h'
 obtain⟨_,hlt,hbl,_⟩:=iT cp
 unfold cW at h⊢
 split at h
 ·rename_i b v i o
  by_cases e:b=b'
  ·subst e
   have hg:bk H b=some y0:=hb'
   have hg':bk H' b=some y1:=by unfold bk;rw[hbl];simp[hlt]
   rw[hg]at h
   rw[hg']
   simp only[uE,aaz,aai,aay,Z6,ZK,aaJ,Ze]at hd
   rcases hcase with⟨cs,rfl,hi,hle,rfl⟩|⟨z,L,ex,cs,rfl,hcs,hle,rfl⟩
   ·simp only at h⊢
    replace h:=aj h
    obtain⟨h1,h⟩:=h
    rw[h1]
    have h1:i=0:=by simpa using h1
    exact pU h hn hle (by omega)
   ·simp only at h⊢
    replace h:=aj h
    obtain⟨h1,h⟩:=h
    rw[h1]
    simp only[Zr]
    by_cases ei:i=i'
    ·subst ei
     have hli:=(Y8.1 hcs).1
     rw[hcs]at h
     simp only[abA,hli,if_true]at h⊢
     exact pU h hn hle (by omega)
    ·rw[Zg (Ne.symm ei)];exact h
  ·have:bk H' b=bk H b:=by unfold bk;rw[hbl,Zg (Ne.symm e)]
   rw[this];exact h
 ·exact h
 ·cases h
theorem lE{ag:Bool}{m:Nat}{p:SV}(h:cW ag m H p=some s)(hb:∀b v i o,p=.ptr b v i o→H.bl[b]?=H'.bl[b]?):cW ag m H' p=some s:=by
 unfold cW at h⊢
 split at h
 ·rename_i b v i o
  have:bk H' b=bk H b:=(hb b v i o rfl).symm
  rw[this];exact h
 ·exact h
 ·cases h
theorem qJ{ag:Bool}{m:Nat}{b v i o:Nat}(h:cW ag m H (.ptr b v i o)=some s):∃x,H.bl[b]?=some x∧x.live=true:=by
 unfold cW bk at h
 simp only at h
 split at h
 ·rename_i cs hb;exact⟨_,hb,rfl⟩
 ·rename_i v' z L ex hb;exact⟨_,hb,rfl⟩
 ·cases h
theorem cZ{d:bE}:df d=true↔∃rd,d.kind=.wr rd:=by unfold df;cases d.kind<;>simp
theorem Ci{a b:bU}(h:AQ a b=true):a=b:=by
 cases a<;>cases b<;>simp only[AQ,ZY]at h
 rw[aah]at h;rw[h]
theorem oc{pl:List (aK×bE)}{i k:Nat}{o:kQ}{d:bE}(h:nY pl i k o d=true) :
 ∃ag n u rd,o=.load ag n (.t u)∧d.kind=.wr rd∧(.t u,bif ag then n else 1)∈rd∧∀m,i≤m→m<k→∀p,pl[m]?=some p→p.1.dst≠some u:=by
 unfold nY at h
 split at h
 ·rename_i ag n a rd hk
  rw[Zh]at h
  obtain⟨h1,h2⟩:=h
  obtain⟨q,hq,h1⟩:=aav.1 h1
  rw[Zh]at h1
  have e1:=Ci h1.1
  have e2:q.2=_:=aah.1 h1.2
  cases a with
  |c v=>cases h2
  |t u=>
   refine⟨ag,n,u,rd,rfl,hk,?_,fun m hm hk' p hp=>?_⟩
   ·rw[←e1,←e2];exact hq
   ·have:=ZA.1 h2 m (ZF.2 hk')
    rw[hp]at this
    simp only[Z6,Ze,ZK,aaJ]at this
    rcases this with h|h
    ·omega
    ·exact h
 ·cases h
end
section
variable{C:Ctx}{ρ:Map}{F:Nat→Prop}{H H':ab}{w:World}
theorem yZ{P:Program}{o:Op}{n:Nat}{x y:bU}(h:oy P o=some (.store n x y)):∃t x' y',o=.store t x' y'∧fD P t=some n∧bz x'=some x∧bz y'=some y:=by
 unfold oy at h
 split at h
 case h_9 t x' y'=>
  split at h
  ·rename_i n' u v h1 h2 h3
   cases h
   exact⟨t,x',y',rfl,h1,h2,h3⟩
  ·cases h
 case h_23 c=>
  unfold oe at h
  repeat' split at h
  all_goals (first|(cases h;done)|(simp[Zb,cond_eq_ite]at h;done)|(repeat' split at h) )
  all_goals (first|(cases h;done)|(simp[Zb,cond_eq_ite]at h;done)|skip)
 all_goals (repeat' split at h)
 all_goals (first|(cases h;done)|(obtain⟨_,_,h2⟩:=mB h;cases h2;done)|(simp[Zb,cond_eq_ite]at h;done)|(simp only[cond_eq_ite]at h;repeat' split at h;all_goals (first|(cases h;done)|(simp[Zb]at h;done))))
theorem Aq{e:Env}{a:Act}{o:Oper}{op:kQ}{b:Ea}{n:Nat}{x y:bU}(dZ:op=ui b ((oy C.P o.op).getD .bad))(hopo:op=.store n x y)(hs:dP n H (ev e y) (ev e x)=some H')(hr:HR C ρ F H w)(he:ER w F ρ e a.tmps)
 {ro:Option Nat} {m:Nat} {K:Act→World→Prop} {Q:Exit→Act→World→Prop} (hK:∀w',HR C ρ F H' w'→Ext C ρ F H w ρ F H' w'→xE C ρ F H H' w w' (ev e y).refs→K (a.put o.dst undef) w'):o.wpIn (WF ro) m C.P a w K Q:=by
 have hc:oy C.P o.op=some (.store n x y):=by
  rw[hopo]at dZ
  cases hc:oy C.P o.op with
  |none=>rw[hc]at dZ;simp only[Option.getD_none]at dZ;cases b<;>cases dZ
  |some op0=>
   rw[hc]at dZ
   simp only[aaC]at dZ
   unfold ui at dZ
   split at dZ
   ·cases dZ
   ·cases dZ
   ·cases dZ
   ·cases dZ
   ·rw[dZ]
 obtain⟨t,x',y',ho,h1,h2,h3⟩:=yZ hc
 refine⟨fun _ _=>trivial,?_⟩
 rw[Oper.semAt_eq _ _ _ (gC hc)]
 obtain⟨w',k1,k2,k3,k4⟩:=uP h1 hr (aZ h2 he) (aZ h3 he) hs
 have hx:(execOp a.eval o).run C.P w=.ok .skip w':=by
  simp only[execOp,ho]
  simp[k1,pure,Sem.run]
 rw[hx]
 exact hK w' k2 k3 k4
end
end
section
section
variable{C:Ctx}{rec:Rec}{f:FuncId}{nt:Nat}
structure fC(C:Ctx)(rec:Rec)(f:FuncId)(nt:Nat)(ops:Array Oper)(pl:List (aK×bE))(es:Nat→Env)(hs:Nat→ab)(out:Nat→SV)(Ns:Nat→Nat):Prop where
 dZ:∀(i:Nat) o d,pl[i]?=some (o,d)→∃op,ops[i]?=some op∧ib C.P C.dz f nt ops op=some o
 hlen:pl.length=ops.size
 l9:Wg (bI ops.toList) ops.toList pl
 tr:Tr rec pl es hs out Ns
 n0:Ns 0=(hs 0).bl.length
variable{ops:Array Oper}{pl:List (aK×bE)}{es:Nat→Env}{hs:Nat→ab}{out:Nat→SV}{Ns:Nat→Nat}
theorem gF{i:Nat}(h:i<pl.length):∃o d,pl[i]?=some (o,d):=⟨pl[i].1,pl[i].2,by simp[h]⟩
abbrev aO(hs:Nat→ab)(i:Nat):Nat:=(hs i).bl.length
theorem fC.wr(R:fC C rec f nt ops pl es hs out Ns){i:Nat}{o:aK}{d:bE}{rd:List (bU×Nat)}(h:pl[i]?=some (o,d))(hk:d.kind=.wr rd) :
 ∃n a x,o.op=.store n a x∧o5 (es i) o.g∧(ev (es i) x).refs≤Ns i∧EH (Ns i) d.eU (ev (es i) a)=true∧(∀q∈rd,uE (ev (es i) q.1) q.2 (ev (es i) a) n=true)∧
  dP n (hs i) (ev (es i) x) (ev (es i) a)=some (hs (i+1))∧out i=.undef∧Ns (i+1)=Ns i:=by
 have hN:Ns (i+1)=Ns i:=by
  rw[R.tr.nx i o d h];unfold fA;rw[hk]
 rcases R.tr.st i o d h with⟨hw,h1⟩|⟨_,h2,_,_⟩
 ·unfold bY at h1
  rw[hk]at h1
  simp only at h1
  unfold vR at h1
  split at h1
  ·rename_i n a x dZ
   replace h1:=aj h1
   obtain⟨h2,h1⟩:=h1
   simp only[Zh,Ze]at h2
   simp only[Zb,Zy]at h1
   obtain⟨H1,h3,h4,h5⟩:=h1
   subst h5
   exact⟨n,a,x,dZ,hw,h2.1.1,h2.1.2,fun q hq=>ZA.1 h2.2 q hq,h3,h4.symm,hN⟩
  ·cases h1
 ·unfold hU at h2
  rw[hk]at h2;cases h2
theorem fC.wP(R:fC C rec f nt ops pl es hs out Ns){i:Nat}{o:aK}{d:bE}(h:pl[i]?=some (o,d))(hw:df d=true):aO hs (i+1)=aO hs i:=by
 obtain⟨rd,hk⟩:=cZ.1 hw
 obtain⟨n,a,x,_,_,_,_,_,h1,_⟩:=R.wr h hk
 obtain⟨b,v,ii,oo,xs,y0,y1,_,_,_,_,_,_,_,h2,_⟩:=fU h1
 have:=(iT h2).2.2.1
 show(hs (i+1)).bl.length=(hs i).bl.length
 rw[this,Zv]
theorem fC.AV(R:fC C rec f nt ops pl es hs out Ns){i:Nat}(hi:i<pl.length):(hs i).bl.length≤(hs (i+1)).bl.length:=by
 obtain⟨o,d,h⟩:=gF hi
 cases hw:df d with
 |true=>exact aaY (R.wP h hw).symm
 |false=>
 rcases R.tr.st i o d h with⟨_,h1⟩|⟨_,_,_,h1⟩
 ·unfold bY at h1
  split at h1
  ·rename_i hk
   rw[(mV (R.l9.Ft i o d h hk).1 h1).1];exact Zp _
  ·simp only[Zd]at h1
   obtain⟨r,h2,h3⟩:=h1
   replace h3:=aj h3
   obtain⟨h4,h5⟩:=h3
   cases h5
   simpa using h4
  ·simp only[Zd]at h1
   obtain⟨r,h2,h3⟩:=h1
   replace h3:=aj h3
   obtain⟨h4,h5⟩:=h3
   simp only[Zs,Zy]at h5
   rw[←h5.2]
   simp
  ·rename_i rd hk
   rw[cZ.2 ⟨rd,hk⟩]at hw;cases hw
 ·rw[h1];exact Zp _
theorem fC.mono(R:fC C rec f nt ops pl es hs out Ns){i:Nat}:∀{j:Nat},i≤j→j≤pl.length→(hs i).bl.length≤(hs j).bl.length:=by
 intro j
 induction j with
 |zero=>intro h _;have:i=0:=by omega
        subst this;exact Zp _
 |succ j ih=>
  intro h hj
  by_cases e:i=j+1
  ·subst e;exact Zp _
  ·exact ZN (ih (by omega) (by omega)) (R.AV (by omega))
theorem fC.mm(R:fC C rec f nt ops pl es hs out Ns){i:Nat}{o:aK}{d:bE}(h:pl[i]?=some (o,d))(hb:d.kind≠.gl)(hw:df d=false) :
 ∃X,hs (i+1)={hs i with bl:=(hs i).bl++X}∧X.length=d.wi∧Ns (i+1)=Ns i:=by
 have hN:Ns (i+1)=Ns i:=by
  rw[R.tr.nx i o d h]
  unfold fA
  split
  ·rename_i hk;exact absurd hk hb
  ·rfl
 rcases R.tr.st i o d h with⟨_,h1⟩|⟨_,h2,_,h1⟩
 ·unfold bY at h1
  split at h1
  ·rename_i hk
   obtain⟨g1,g2⟩:=R.l9.Ft i o d h hk
   exact⟨[],by rw[(mV g1 h1).1];simp,by simp[g2],hN⟩
  ·rename_i hk;exact absurd hk hb
  ·simp only[Zd]at h1
   obtain⟨r,h2,h3⟩:=h1
   replace h3:=aj h3
   obtain⟨h4,h5⟩:=h3
   simp only[Zs,Zy]at h5
   simp only[Zh,aah]at h4
   exact⟨_,h5.2.symm,by simp[h4.1],hN⟩
  ·rename_i rd hk
   rw[cZ.2 ⟨rd,hk⟩]at hw;cases hw
 ·refine⟨[],by rw[h1];simp,?_,hN⟩
  unfold hU at h2
  split at h2
  ·have:=aah.1 h2;simp[this]
  ·cases h2
  ·rename_i hk hk2
   have:d.kind=.pure:=by cases hd:d.kind<;>simp_all
   simp[(R.l9.Ft i o d h this).2]
theorem fC.iv(R:fC C rec f nt ops pl es hs out Ns){i:Nat}{o:aK}{d:bE}(h:pl[i]?=some (o,d))(hb:d.kind≠.gl):aO hs (i+1)=aO hs i+d.wi∧Ns (i+1)=Ns i:=by
 cases hw:df d with
 |true=>
  obtain⟨rd,hk⟩:=cZ.1 hw
  obtain⟨_,_,_,_,_,_,_,_,_,_,hN⟩:=R.wr h hk
  have:=R.l9.Vj i (Y8.1 h).1 (by rw[cF h];exact hw)
  rw[cF h]at this
  exact⟨by rw[R.wP h hw,this,aaN],hN⟩
 |false=>
  obtain⟨X,h1,h2,h3⟩:=R.mm h hb hw
  exact⟨by unfold aO;rw[h1];simp[h2],h3⟩
theorem fC.jE(R:fC C rec f nt ops pl es hs out Ns){j:Nat}:∀(m:Nat),(∀k,j≤k→k<j+m→(dr pl k).kind≠.gl)→(∀k,j≤k→k<j+m→df (dr pl k)=false)→j+m≤pl.length→
 ∃X,hs (j+m)={hs j with bl:=(hs j).bl++X}
 |0,_,_,_=>⟨[],by simp⟩
 |m+1,hb,hw,hl=>by
  obtain⟨X,h1⟩:=fC.jE R m (fun k hk hk'=>hb k hk (by omega)) (fun k hk hk'=>hw k hk (by omega)) (by omega)
  obtain⟨o,d,h⟩:=gF (pl:=pl) (i:=j+m) (by omega)
  obtain⟨Y,h3,_,h4⟩:=R.mm h (by have:=hb (j+m) (by omega) (by omega);rwa [cF h]at this) (by have:=hw (j+m) (by omega) (by omega);rwa [cF h]at this)
  refine⟨X++Y,?_⟩
  rw[←Zk,h3,h1];simp
theorem fC.GC(R:fC C rec f nt ops pl es hs out Ns){j k:Nat}(hjk:j≤k)(hk:k≤pl.length)(hb:∀m,j≤m→m<k→(dr pl m).kind≠.gl)(hw:∀m,j≤m→m<k→df (dr pl m)=false) :
 ∃X,hs k={hs j with bl:=(hs j).bl++X}:=by
 have:=R.jE (j:=j) (k-j) (fun m h1 h2=>hb m h1 (by omega)) (fun m h1 h2=>hw m h1 (by omega)) (by omega)
 rwa [show j+(k-j)=k by omega]at this
theorem fC.Uc(R:fC C rec f nt ops pl es hs out Ns){j k:Nat}(hjk:j≤k)(hk:k≤pl.length)(hb:∀m,j≤m→m<k→(dr pl m).kind≠.gl):Ns k=Ns j:=by
 have key:∀m,j+m≤k→Ns (j+m)=Ns j:=by
  intro m
  induction m with
  |zero=>intro _;rfl
  |succ m ih=>
   intro hm
   obtain⟨o,d,h⟩:=gF (pl:=pl) (i:=j+m) (by omega)
   rw[←Zk,(R.iv h (by have:=hb (j+m) (by omega) (by omega);rwa [cF h]at this)).2]
   exact ih (by omega)
 have:=key (k-j) (by omega)
 rwa [show j+(k-j)=k by omega]at this
theorem fC.kq(R:fC C rec f nt ops pl es hs out Ns){j:Nat}(hj:(dr pl j).kq=0):∀(m:Nat),(∀k,j≤k→k<j+m→(dr pl k).kind≠.gl)→j+m<pl.length→
 (hs (j+m)).bl.length=(hs j).bl.length+(dr pl (j+m)).kq
 |0,_,_=>by simp[hj]
 |m+1,hb,hl=>by
  have h1:=fC.kq R hj m (fun k hk hk'=>hb k hk (by omega)) (by omega)
  obtain⟨o,d,h⟩:=gF (pl:=pl) (i:=j+m) (by omega)
  have hnb:=hb (j+m) (by omega) (by omega)
  have h3:(hs (j+m+1)).bl.length=(hs (j+m)).bl.length+d.wi:=(R.iv h (by rwa [cF h]at hnb)).1
  have h5:=R.l9.Fj (j+m) (by omega)
  have h6:pr (dr pl (j+m))=false:=by
   cases hq:pr (dr pl (j+m))with
   |false=>rfl
   |true=>exact absurd (iM.1 hq) hnb
  rw[h6]at h5
  simp only[Zu,cF h]at h5
  rw[cF h]at h1
  rw[←Zk,h3,h5]
  omega
theorem fC.ind{P:Nat→Prop}{i k:Nat}(hik:i≤k)(h0:P i)(hs:∀m,i≤m→m<k→P m→P (m+1)):P k:=by
 have key:∀m,i+m≤k→P (i+m):=by
  intro m
  induction m with
  |zero=>intro _;exact h0
  |succ m ih=>intro hm;exact hs (i+m) (by omega) (by omega) (ih (by omega))
 have:=key (k-i) (by omega)
 rwa [show i+(k-i)=k by omega]at this
theorem fC.shape(R:fC C rec f nt ops pl es hs out Ns){i k:Nat}(hik:i≤k)(hk:k≤pl.length)(hb:∀m,i≤m→m<k→(dr pl m).kind≠.gl):cj (hs i).bl ((hs k).bl.take (aO hs i)):=by
 refine fC.ind (P:=fun k=>cj (hs i).bl ((hs k).bl.take (aO hs i))) hik (by rw[ZM (Zp _)];exact .refl _) (fun m h1 h2 ih=>?_)
 obtain⟨o,d,h⟩:=gF (pl:=pl) (i:=m) (by omega)
 have hle:aO hs i≤aO hs m:=R.mono h1 (by omega)
 cases hw:df d with
 |false=>
  obtain⟨X,h3,_⟩:=R.mm h (by have:=hb m h1 h2;rwa [cF h]at this) hw
  rw[h3]
  simp only
  rw[List.take_append_of_le_length hle];exact ih
 |true=>
  obtain⟨rd,hkd⟩:=cZ.1 hw
  obtain⟨n,a,x,_,_,_,_,_,h4,_⟩:=R.wr h hkd
  obtain⟨b,v,ii,oo,xs,y0,y1,_,_,_,h5,_,_,h6,h7,_⟩:=fU h4
  rw[(iT h7).2.2.1]
  exact ih.trans ((cj.set h5 h6).take _)
theorem fC.JE(R:fC C rec f nt ops pl es hs out Ns){i k b:Nat}(hik:i≤k)(hk:k≤pl.length)(hb:∀m,i≤m→m<k→(dr pl m).kind≠.gl)(hbl:b<aO hs i)
 (ht:∀m o d n a x,i≤m→m<k→pl[m]?=some (o,d)→df d=true→o.op=.store n a x→∀v j q,ev (es m) a≠.ptr b v j q):(hs k).bl[b]?=(hs i).bl[b]?:=by
 refine fC.ind (P:=fun k=>(hs k).bl[b]?=(hs i).bl[b]?) hik rfl (fun m h1 h2 ih=>?_)
 obtain⟨o,d,h⟩:=gF (pl:=pl) (i:=m) (by omega)
 have hle:aO hs i≤aO hs m:=R.mono h1 (by omega)
 cases hw:df d with
 |false=>
  obtain⟨X,h3,_⟩:=R.mm h (by have:=hb m h1 h2;rwa [cF h]at this) hw
  rw[h3]
  simp only
  rw[Zm (aaf hbl hle)];exact ih
 |true=>
  obtain⟨rd,hkd⟩:=cZ.1 hw
  obtain⟨n,a,x,dZ,_,_,_,_,h4,_⟩:=R.wr h hkd
  obtain⟨b',v,ii,oo,xs,y0,y1,hp,_,_,h5,_,_,h6,h7,_⟩:=fU h4
  have hne:b'≠b:=fun e=>ht m o d n a x h1 h2 h hw dZ v ii oo (by rw[hp,e])
  rw[(iT h7).2.2.1,Zg hne];exact ih
theorem fC.Qq(R:fC C rec f nt ops pl es hs out Ns){i k u:Nat}(hik:i≤k)(hk:k≤pl.length)(hu:∀m,i≤m→m<k→∀p,pl[m]?=some p→p.1.dst≠some u):get (es k) u=get (es i) u:=by
 refine fC.ind (P:=fun k=>get (es k) u=get (es i) u) hik rfl (fun m h1 h2 ih=>?_)
 obtain⟨o,d,h⟩:=gF (pl:=pl) (i:=m) (by omega)
 rw[R.tr.env m o d h]
 cases hd:o.dst with
 |none=>exact ih
 |some t=>
  have:t≠u:=fun e=>hu m h1 h2 _ h (by rw[hd,e])
  simp only[cb,get]
  have:(u==t)=false:=by simpa using(Ne.symm this)
  rw[this];exact ih
theorem fC.KD(R:fC C rec f nt ops pl es hs out Ns){i k:Nat}{ag:Bool}{z:Nat}{p s:SV}(hik:i≤k)(hk:k≤pl.length)(hb:∀m,i≤m→m<k→(dr pl m).kind≠.gl)(h:cW ag z (hs i) p=some s)
 (ht:∀m o d n a x,i≤m→m<k→pl[m]?=some (o,d)→df d=true→o.op=.store n a x→uE p (bif ag then z else 1) (ev (es m) a) n=true):cW ag z (hs k) p=some s:=by
 refine fC.ind (P:=fun k=>cW ag z (hs k) p=some s) hik h (fun m h1 h2 ih=>?_)
 obtain⟨o,d,hm⟩:=gF (pl:=pl) (i:=m) (by omega)
 cases hw:df d with
 |false=>
  obtain⟨X,h3,_⟩:=R.mm hm (by have:=hb m h1 h2;rwa [cF hm]at this) hw
  refine lE ih (fun b v ii oo hp=>?_)
  subst hp
  obtain⟨x,hx,_⟩:=qJ ih
  rw[h3]
  simp only
  rw[Zm (Y8.1 hx).1]
 |true=>
  obtain⟨rd,hkd⟩:=cZ.1 hw
  obtain⟨n,a,x,dZ,_,_,_,_,h4,_⟩:=R.wr hm hkd
  exact zn ih h4 (ht m o d n a x h1 h2 hm hw dZ)
def W(pl:List (aK×bE))(e0:Env)(out:Nat→SV)(ln:Nat→Nat)(S:Nat→Prop)(t:Nat)(s:SV)(m:Nat):Prop:=
 (∃j o d,pl[j]?=some (o,d)∧S j∧o.dst=some t∧(∀j' o' d',j<j'→pl[j']?=some (o',d')→S j'→o'.dst≠some t)∧s=out j∧m=ln (j+1))∨
 ((∀(j:Nat) o d,pl[j]?=some (o,d)→S j→o.dst≠some t)∧s=get e0 t∧m=ln 0)
theorem fC.vG(R:fC C rec f nt ops pl es hs out Ns)(t:Nat):∀i,i≤pl.length→∃m,W pl (es 0) out (aO hs) (· <i) t (get (es i) t) m∧m≤aO hs i
 |0,_=>⟨aO hs 0,.inr ⟨fun j o d _ h=>by simp at h,rfl,rfl⟩,Zp _⟩
 |i+1,hi=>by
  obtain⟨m,h1,h2⟩:=fC.vG R t i (by omega)
  obtain⟨o,d,h⟩:=gF (pl:=pl) (i:=i) (by omega)
  rw[R.tr.env i o d h]
  have hm:=R.AV (i:=i) (by omega)
  cases hd:o.dst with
  |none=>
   refine⟨m,?_,ZN h2 hm⟩
   simp only[cb]
   rcases h1 with⟨j,o',d',g1,g2,g3,g4,g5,g6⟩|⟨g1,g2,g3⟩
   ·refine .inl ⟨j,o',d',g1,Nat.lt_succ_of_lt g2,g3,fun j' o2 d2 k1 k2 k3=>?_,g5,g6⟩
    by_cases e:j'=i
    ·subst e;rw[h]at k2;cases k2;rw[hd];simp
    ·exact g4 j' o2 d2 k1 k2 (by omega)
   ·refine .inr ⟨fun j o2 d2 k2 k3=>?_,g2,g3⟩
    by_cases e:j=i
    ·subst e;rw[h]at k2;cases k2;rw[hd];simp
    ·exact g1 j o2 d2 k2 (by omega)
  |some u=>
   simp only[cb,get]
   cases hu:(t==u)with
   |true=>
    have:t=u:=by simpa using hu
    subst this
    refine⟨aO hs (i+1),.inl ⟨i,o,d,h,Nat.lt_succ_self i,hd,fun j' o2 d2 k1 k2 k3=>?_,rfl,rfl⟩,Zp _⟩
    exact absurd k3 (by omega)
   |false=>
    have hne:t≠u:=by simpa using hu
    refine⟨m,?_,ZN h2 hm⟩
    simp only[Zu]
    rcases h1 with⟨j,o',d',g1,g2,g3,g4,g5,g6⟩|⟨g1,g2,g3⟩
    ·refine .inl ⟨j,o',d',g1,Nat.lt_succ_of_lt g2,g3,fun j' o2 d2 k1 k2 k3=>?_,g5,g6⟩
     by_cases e:j'=i
     ·subst e;rw[h]at k2;cases k2;rw[hd];simpa using Ne.symm hne
     ·exact g4 j' o2 d2 k1 k2 (by omega)
    ·refine .inr ⟨fun j o2 d2 k2 k3=>?_,g2,g3⟩
     by_cases e:j=i
     ·subst e;rw[h]at k2;cases k2;rw[hd];simpa using Ne.symm hne
     ·exact g1 j o2 d2 k2 (by omega)
open Classical in
noncomputable def Gh (H:ab) (vis:Nat→Prop):ab:={H with bl:=H.bl.mapIdx fun b x=>if vis b then x else .dead}
theorem gJ{H:ab}{vis:Nat→Prop}:(Gh H vis).bl.length=H.bl.length:=by simp[Gh]
theorem kH{H:ab}{vis:Nat→Prop}{b:Nat}{x:aD}(h:(Gh H vis).bl[b]?=some x)(hx:x.live=true):vis b∧H.bl[b]?=some x:=by
 unfold Gh at h
 simp only[abD,Zb]at h
 obtain⟨y,h1,h2⟩:=h
 by_cases hv:vis b
 ·rw[if_pos hv]at h2;subst h2;exact⟨hv,h1⟩
 ·rw[if_neg hv]at h2;subst h2;cases hx
theorem gH{H:ab}{vis:Nat→Prop}{b:Nat}{x:aD}(hv:vis b)(h:H.bl[b]?=some x):(Gh H vis).bl[b]?=some x:=by
 unfold Gh
 simp[h,hv]
theorem fX{ρ ρ':Map}(h:ρ.le ρ'){m n:Nat}(hmn:m≤n):(ρ.cut m).le (ρ'.cut n):=by
 intro b l hb
 unfold Map.cut at hb⊢
 split at hb
 ·rename_i hlt
  rw[if_pos (by omega)]
  exact h b l hb
 ·cases hb
theorem jV{ρ:Map}{N b:Nat}{l:Loc}(h:ρ.cut N b=some l):b<N∧ρ b=some l:=by
 unfold Map.cut at h
 split at h
 ·exact⟨by assumption,h⟩
 ·cases h
theorem jy{ρ:Map}{N b:Nat}(h:b<N):ρ.cut N b=ρ b:=by simp[Map.cut,h]
theorem HR.pad{ρ:Map}{F:Nat→Prop}{H H':ab}{w:World}(hr:HR C ρ F H w)(hb:∀(b:Nat) x,x.live=true→(H'.bl[b]?=some x↔H.bl[b]?=some x))(hl:H.bl.length≤H'.bl.length)(he:H'.bQ=H.bQ)(hro:H'.ro=H.ro) :
 HR C ρ F H' w∧Ext C ρ F H w ρ F H' w:=by
 have hown:∀b l,Own ρ H' b l→Own ρ H b l:=fun b l ⟨⟨x,h1,h2⟩,h3,h4⟩=>⟨⟨x,(hb b x h2).1 h1,h2⟩,h3,h4⟩
 refine⟨⟨fun b l h=>aaf (hr.jn b l h) hl,fun b x h1 h2=>hr.live b x ((hb b x h2).1 h1) h2,fun b b' l l' h h'=>hr.apart b b' l l' (hown b l h) (hown b' l' h'),fun b l h=>hr.own b l (hown b l h),hr.gW⟩,
  ⟨fun b l h=>⟨l,h,.inl rfl⟩,fun _ h=>h,fun _ h=>.inl h,fun _ _ _=>rfl,Zp _,fun b l h=>.inr ⟨l,hown b l h,rfl⟩,hro,fun p hp=>he▸hp,fun N hN hc h0 b x l hbN hx hxl hlx=>?_,fun B q h=>⟨q,h⟩,hl,⟨rfl,rfl⟩⟩,fun b l h=>.inl ⟨l,h⟩⟩
 have hx':=(hb b x hxl).1 hx
 by_cases hNl:N≤H.bl.length
 ·exact h0 hNl b x l hbN hx' hxl hlx
 ·obtain⟨l2,h2,h3⟩:=hr.live b x hx' hxl
  rw[hlx]at h2;cases h2
  exact h3.mono (fun _ _=>rfl) (fun _ h=>h) (fun b1 l1 h1=>⟨l1,by have:=hr.jn b1 l1 h1;rw[jy (by omega)];exact h1,.inl rfl⟩) (fun _=>rfl)
def ja(hs:Nat→ab)(S:Nat→Prop)(β γ b:Nat):Prop:=b<aO hs β∨∃k,S k∧β≤k∧k<γ∧aO hs k≤b∧b<aO hs (k+1)
structure J(C:Ctx)(nt:Nat)(ops:Array Oper)(pl:List (aK×bE))(es:Nat→Env)(hs:Nat→ab)(out:Nat→SV)(Ns:Nat→Nat)(B:jJ)(S:Nat→Prop)(a:Act)(w:World)(ρ:Map)(F:Nat→Prop)(β μ γ:Nat):Prop where
 closed:∀(k:Nat) o,S k→ops.toList[k]?=some o→∀e∈o.after,Region.binds .any e=true→S e.on
 le:β≤μ
 CY:μ≤γ
 Cv:γ≤pl.length
 pv:∀j,β≤j→j<γ→(dr pl j).kind≠.gl
 Nh:γ=pl.length∨(dr pl γ).kind=.gl
 Jt:μ=γ∨(df (dr pl μ)=true∧¬S μ)
 uK:∀j,β≤j→j<μ→df (dr pl j)=true→S j
 pre:∀j,j<β→(dr pl j).kind≠.pure→S j
 post:∀j,β≤j→S j→(dr pl j).kind≠.gl
 Gy:Ns β=aO hs β
 yJ:β<pl.length→(dr pl β).kq=0
 Ud:B.H.bl.length≤aO hs β
 hr:HR C ρ F (Gh (hs μ) (ja hs S β μ)) w
 jn:∀b l,ρ b=some l→ja hs S β μ b
 UG:∀(b:Nat) x l,b<aO hs β→(hs μ).bl[b]?=some x→x.live=true→ρ b=some l→BR C w F (ρ.cut (aO hs β)) l x
 RA:∀(k b:Nat) x l,S k→β≤k→k<μ→aO hs k≤b→b<aO hs (k+1)→(hs μ).bl[b]?=some x→x.live=true→ρ b=some l→BR C w F (ρ.cut (aO hs (k+1))) l x
 ext:Ext C B.ρ B.F B.H B.w ρ F (Gh (hs μ) (ja hs S β μ)) w
 fq:∀t s m,W pl (es 0) out (aO hs) S t s m→VR w F (ρ.cut m) s (a.tmps.getD t undef)
 sz:nt≤a.tmps.size
 Og:Marks ρ F (Gh (hs μ) (ja hs S β μ)) w B.lo a.defers
variable{B:jJ}{S:Nat→Prop}{a:Act}{w w':World}{ρ:Map}{F:Nat→Prop}{β μ γ:Nat}
theorem J.before(R:fC C rec f nt ops pl es hs out Ns)(j:J C nt ops pl es hs out Ns B S a w ρ F β μ γ){i:Nat}(hcl:∀o,ops.toList[i]?=some o→∀e∈o.after,Region.binds .any e=true→S e.on) :
 ∀k,((bI ops.toList).getD i 0).testBit k=true→S k:=fun k h=>jr (fun k o hk=>j.closed k o hk) i k hcl h
theorem J.behind(R:fC C rec f nt ops pl es hs out Ns)(j:J C nt ops pl es hs out Ns B S a w ρ F β μ γ){i:Nat}(hi:¬S i):∀k,S k→¬((bI ops.toList).getD k 0).testBit i=true:=fun k hk h=>
 hi (jr (fun k o hk=>j.closed k o hk) k i (fun o ho=>j.closed k o hk ho) h)
theorem J.LR(R:fC C rec f nt ops pl es hs out Ns)(j:J C nt ops pl es hs out Ns B S a w ρ F β μ γ){i:Nat}{o:aK}{d:bE}(hi:pl[i]?=some (o,d))(hS:¬S i)
 (hcl:∀o,ops.toList[i]?=some o→∀e∈o.after,Region.binds .any e=true→S e.on):∀t∈bT o,VR w F (ρ.cut (aO hs i)) (get (es i) t) (a.tmps.getD t undef):=by
 intro t ht
 have hlt:=(Y8.1 hi).1
 obtain⟨m,h1,h2⟩:=R.vG t i (by omega)
 have bf:=j.before R hcl
 have bh:=j.behind R hS
 refine(j.fq t _ m ?_).mono (fun _ _=>rfl) (fun _ h=>h) (fX (Map.le_refl _) h2)
 rcases h1 with⟨k,o',d',g1,g2,g3,g4,g5,g6⟩|⟨g1,g2,g3⟩
 ·refine .inl ⟨k,o',d',g1,?_,g3,fun k' o2 d2 k1 k2 k3 hd=>?_,g5,g6⟩
  ·rcases R.l9.tmp k i _ _ g2 g1 hi with h|⟨h,_⟩
   ·exact bf k h
   ·exact absurd ht (h t g3).1
  ·by_cases e:k'<i
   ·exact g4 k' o2 d2 k1 k2 e hd
   ·have:k'≠i:=fun e=>hS (e▸k3)
    rcases R.l9.tmp i k' _ _ (by omega) hi k2 with h|⟨_,h⟩
    ·exact bh k' k3 h
    ·exact h t hd ht
 ·refine .inr ⟨fun k o2 d2 k2 k3 hd=>?_,g2,g3⟩
  by_cases e:k<i
  ·exact g1 k o2 d2 k2 e hd
  ·have:k≠i:=fun e=>hS (e▸k3)
   rcases R.l9.tmp i k _ _ (by omega) hi k2 with h|⟨_,h⟩
   ·exact bh k k3 h
   ·exact h t hd ht
theorem J.A4(R:fC C rec f nt ops pl es hs out Ns)(j:J C nt ops pl es hs out Ns B S a w ρ F β μ γ){i:Nat}{o:aK}{d:bE}(hi:pl[i]?=some (o,d))(hS:¬S i){ρ':Map}{F':Nat→Prop}{val:Value}
 (hk:dy F w w') (hF:∀B,F B→F' B) (hle:ρ.le ρ') (hv:VR w' F' (ρ'.cut (aO hs (i+1))) (out i) val) (hdst:∀d,o.dst=some d→d<nt) :
 ∀t s m,W pl (es 0) out (aO hs) (fun k=>S k∨k=i) t s m→VR w' F' (ρ'.cut m) s ((a.put o.dst val).tmps.getD t undef):=by
 intro t s m h
 have bh:=j.behind R hS
 by_cases hd:o.dst=some t
 ·have:s=out i∧m=aO hs (i+1):=by
   rcases h with⟨k,o',d',g1,g2,g3,g4,g5,g6⟩|⟨g1,g2,g3⟩
   ·rcases g2 with g2|g2
    ·exfalso
     rcases aaL k i with hk'|hk'|hk'
     ·exact g4 i o d hk' hi (.inr rfl) hd
     ·exact hS (hk'▸g2)
     ·rcases R.l9.tmp i k _ _ hk' hi g1 with h|⟨h,_⟩
      ·exact bh k g2 h
      ·exact(h t hd).2 g3
    ·subst g2;exact⟨g5,g6⟩
   ·exact absurd hd (g1 i o d hi (.inr rfl))
  obtain⟨rfl,rfl⟩:=this
  have hlt:t<a.tmps.size:=aaf (hdst t hd) j.sz
  rw[hd]
  simpa[Act.put,hlt]using hv
 ·have hput:(a.put o.dst val).tmps.getD t undef=a.tmps.getD t undef:=by
   cases hq:o.dst with
   |none=>rfl
   |some u=>
    have:u≠t:=fun e=>hd (by rw[hq,e])
    simp only[Act.put,aal,Z0 this]
  rw[hput]
  refine(j.fq t s m ?_).mono hk hF (fX hle (Zp _))
  rcases h with⟨k,o',d',g1,g2,g3,g4,g5,g6⟩|⟨g1,g2,g3⟩
  ·rcases g2 with g2|g2
   ·exact .inl ⟨k,o',d',g1,g2,g3,fun k' o2 d2 k1 k2 k3=>g4 k' o2 d2 k1 k2 (.inl k3),g5,g6⟩
   ·subst g2;rw[hi]at g1;cases g1;exact absurd g3 hd
  ·exact .inr ⟨fun k o2 d2 k2 k3=>g1 k o2 d2 k2 (.inl k3),g2,g3⟩
theorem J.sub(R:fC C rec f nt ops pl es hs out Ns)(j:J C nt ops pl es hs out Ns B S a w ρ F β μ γ){i:Nat}(hi:i≤pl.length){V:ab}(hV:V.bl.length=aO hs i)
 (hl:∀(b:Nat) x,V.bl[b]?=some x→x.live=true→β≤i∧i≤μ∧ja hs S β μ b∧(hs μ).bl[b]?=some x):HR C (ρ.cut (aO hs i)) F V w:=by
 have hown:∀b l,Own (ρ.cut (aO hs i)) V b l→Own ρ (Gh (hs μ) (ja hs S β μ)) b l:=by
  intro b l ⟨⟨x,h1,h2⟩,h3,h4⟩
  obtain⟨_,_,g1,g2⟩:=hl b x h1 h2
  exact⟨⟨x,gH g1 g2,h2⟩,(jV h3).2,h4⟩
 refine⟨fun b l h=>by rw[hV];exact(jV h).1,fun b x hb hx=>?_,fun b b' l l' h h'=>j.hr.apart b b' l l' (hown b l h) (hown b' l' h'),fun b l h=>j.hr.own b l (hown b l h),j.hr.gW⟩
 obtain⟨g0,g3,g1,g2⟩:=hl b x hb hx
 obtain⟨l,h1,_⟩:=j.hr.live b x (gH g1 g2) hx
 have hbN:b<aO hs i:=by rw[←hV];exact(Y8.1 hb).1
 refine⟨l,by rw[jy hbN];exact h1,?_⟩
 rcases g1 with g1|⟨k,k1,k2,k3,k4,k5⟩
 ·exact(j.UG b x l g1 g2 hx h1).mono (fun _ _=>rfl) (fun _ h=>h) (fX (Map.le_refl _) (R.mono g0 hi)) (fun _=>rfl)
 ·have hki:k<i:=by
   rcases Zl k i with h|h
   ·exact h
   ·have h1:=R.mono h (by have:=j.Cv;have:=j.CY;omega)
    exact absurd hbN (by show ¬b<(hs i).bl.length;have:(hs k).bl.length≤b:=k4;omega)
  exact(j.RA k b x l k1 k2 k3 k4 k5 g2 hx h1).mono (fun _ _=>rfl) (fun _ h=>h) (fX (Map.le_refl _) (R.mono hki hi)) (fun _=>rfl)
theorem J.quiet(R:fC C rec f nt ops pl es hs out Ns)(j:J C nt ops pl es hs out Ns B S a w ρ F β μ γ){i:Nat}{o:aK}{d:bE}(hi:pl[i]?=some (o,d))(hS:¬S i)
 (hcl:∀o,ops.toList[i]?=some o→∀e∈o.after,Region.binds .any e=true→S e.on) (hnb:d.kind≠.gl) (hnw:df d=false) {V V':ab} (hV:V.bl.length=aO hs i) (hVro:V.ro=aO hs i)
 (hV':V'.bl.length=aO hs (i+1)) (hesc:V'.bQ=[]) (bH:∀b,aO hs i≤b→b<aO hs (i+1)→V'.bl[b]?=(hs μ).bl[b]?)
 (hcase:aO hs (i+1)=aO hs i∨(β≤i∧i<μ)) {val:Value} (hd:dD C (ρ.cut (aO hs i)) F V w (out i) V' val w') (hdst:∀d,o.dst=some d→d<nt) :
 ∃ρ' F',J C nt ops pl es hs out Ns B (fun k=>S k∨k=i) (a.put o.dst val) w' ρ' F' β μ γ:=by
 obtain⟨ρ2,F2,d1,d2,d3⟩:=hd
 have hlt:=(Y8.1 hi).1
 have m1:aO hs i≤aO hs (i+1):=R.AV hlt
 have hfr:∀Bk,Bk<w.heap.size→w'.heap[Bk]?=w.heap[Bk]?:=fun Bk hB=>d3.frame Bk hB (fun b l ho hro=>by
  have:=(jV ho.2.1).1
  rw[hVro]at hro;omega)
 have hk:dy F w w':=fun Bk hB=>hfr Bk (j.hr.gW Bk hB)
 have hFF:∀B,F B→F2 B:=d3.gW
 have e1:∀b,b<aO hs i→ρ2 b=ρ b:=by
  intro b hb
  cases h:ρ b with
  |some l=>
   obtain⟨l',h1,h2⟩:=d3.map b l (by rw[jy hb];exact h)
   rcases h2 with rfl|⟨h2,_⟩
   ·exact h1
   ·rw[hVro]at h2;omega
  |none=>
   cases h':ρ2 b with
   |none=>rfl
   |some l'=>
    rcases d3.nd b l' h' with⟨l,h1⟩|h1
    ·rw[jy hb,h]at h1;cases h1
    ·rw[hV]at h1;omega
 have e2:∀b l,ρ2 b=some l→b<aO hs (i+1):=fun b l h=>by rw[←hV'];exact d2.jn b l h
 have hout:∀b,ja hs S β μ b→¬(aO hs i≤b∧b<aO hs (i+1)):=by
  rintro b hv ⟨h1,h2⟩
  rcases hcase with hc|⟨hc1,hc2⟩
  ·omega
  ·rcases hv with h|⟨k,k1,k2,k3,k4,k5⟩
   ·have:aO hs β≤aO hs i:=R.mono hc1 (by omega)
    omega
   ·rcases aaL k i with h|h|h
    ·have:aO hs (k+1)≤aO hs i:=R.mono h (by omega)
     omega
    ·exact hS (h▸k1)
    ·have:aO hs (i+1)≤aO hs k:=R.mono h (by have:=j.Cv;have:=j.CY;omega)
     omega
 let ρ':Map:=fun b=>if aO hs i≤b∧b<aO hs (i+1)then ρ2 b else ρ b
 have r1:∀b,aO hs i≤b→b<aO hs (i+1)→ρ' b=ρ2 b:=fun b h h'=>if_pos ⟨h,h'⟩
 have r2:∀b,¬(aO hs i≤b∧b<aO hs (i+1))→ρ' b=ρ b:=fun b h=>if_neg h
 have le1:ρ.le ρ':=fun b l h=>⟨l,by rw[r2 b (hout b (j.jn b l h))];exact h,.inl rfl⟩
 have le2:ρ2.le (ρ'.cut (aO hs (i+1))):=fun b l h=>by
  have hb:=e2 b l h
  refine⟨l,?_,.inl rfl⟩
  rw[jy hb]
  by_cases hb':aO hs i≤b
  ·rw[r1 b hb' hb];exact h
  ·rw[r2 b (fun h=>hb' h.1),←e1 b (by omega)];exact h
 have vis:∀b,ja hs (fun k=>S k∨k=i) β μ b→ja hs S β μ b∨((aO hs i≤b∧b<aO hs (i+1))∧β≤i∧i<μ):=by
  intro b h
  rcases h with h|⟨k,k1,k2,k3,k4,k5⟩
  ·exact .inl (.inl h)
  ·rcases k1 with k1|rfl
   ·exact .inl (.inr ⟨k,k1,k2,k3,k4,k5⟩)
   ·exact .inr ⟨⟨k4,k5⟩,k2,k3⟩
 have vis1:∀b,ja hs S β μ b→ja hs (fun k=>S k∨k=i) β μ b:=by
  intro b h
  rcases h with h|⟨k,k1,k2,k3,k4,k5⟩
  ·exact .inl h
  ·exact .inr ⟨k,.inl k1,k2,k3,k4,k5⟩
 have newlive:∀(b:Nat) x l,aO hs i≤b→b<aO hs (i+1)→(hs μ).bl[b]?=some x→x.live=true→ρ2 b=some l→Own ρ2 V' b l∨l.bB=true:=by
  intro b x l h1 h2 h3 h4 h5
  cases hv:l.bB with
  |true=>exact .inr rfl
  |false=>exact .inl ⟨⟨x,by rw[bH b h1 h2];exact h3,h4⟩,h5,hv⟩
 have newblk:∀b l,Own ρ2 V' b l→aO hs i≤b→w.heap.size≤l.cg:=by
  intro b l ho hb
  rcases d3.old b l ho with h|⟨l0,h,_⟩
  ·exact h
  ·have:=(jV h.2.1).1;omega
 have own':∀b l,Own ρ' (Gh (hs μ) (ja hs (fun k=>S k∨k=i) β μ)) b l→Own ρ (Gh (hs μ) (ja hs S β μ)) b l∨(Own ρ2 V' b l∧aO hs i≤b):=by
  intro b l ⟨⟨x,h1,h2⟩,h3,h4⟩
  obtain⟨g1,g2⟩:=kH h1 h2
  rcases vis b g1 with g1|⟨⟨g3,g4⟩,_⟩
  ·rw[r2 b (hout b g1)]at h3
   exact .inl ⟨⟨x,gH g1 g2,h2⟩,h3,h4⟩
  ·rw[r1 b g3 g4]at h3
   exact .inr ⟨⟨⟨x,by rw[bH b g3 g4];exact g2,h2⟩,h3,h4⟩,g3⟩
 have oldsame:∀b l,Own ρ (Gh (hs μ) (ja hs S β μ)) b l→w'.heap[l.cg]?=w.heap[l.cg]?:=fun b l ho=>hfr _ (j.hr.own b l ho).2
 have hr':HR C ρ' F2 (Gh (hs μ) (ja hs (fun k=>S k∨k=i) β μ)) w':=by
  refine⟨fun b l h=>?_,fun b x hb hx=>?_,fun b b' l l' h h' he=>?_,fun b l ho=>?_,d2.gW⟩
  ·rw[gJ]
   by_cases hb:aO hs i≤b∧b<aO hs (i+1)
   ·rcases hcase with hc|⟨hc1,hc2⟩
    ·omega
    ·have:aO hs (i+1)≤aO hs μ:=R.mono hc2 (ZN j.CY j.Cv)
     exact aaf hb.2 this
   ·rw[r2 b hb]at h
    have:=j.hr.jn b l h
    rwa [gJ]at this
  ·obtain⟨g1,g2⟩:=kH hb hx
   rcases vis b g1 with g1|⟨⟨g3,g4⟩,_⟩
   ·obtain⟨l,h1,h2⟩:=j.hr.live b x (gH g1 g2) hx
    exact⟨l,by rw[r2 b (hout b g1)];exact h1,h2.mono hk hFF le1 (fun hv=>oldsame b l ⟨⟨x,gH g1 g2,hx⟩,h1,hv⟩)⟩
   ·obtain⟨l,h1,h2⟩:=d2.live b x (by rw[bH b g3 g4];exact g2) hx
    exact⟨l,by rw[r1 b g3 g4];exact h1,h2.mono (fun _ _=>rfl) (fun _ h=>h) (Map.le_trans le2 (Map.sN _ _)) (fun _=>rfl)⟩
  ·rcases own' b l h with o1|⟨o1,p1⟩<;>rcases own' b' l' h' with o2|⟨o2,p2⟩
   ·exact j.hr.apart b b' l l' o1 o2 he
   ·have:=(j.hr.own b l o1).2
    have:=newblk b' l' o2 p2
    omega
   ·have:=(j.hr.own b' l' o2).2
    have:=newblk b l o1 p1
    omega
   ·exact d2.apart b b' l l' o1 o2 he
  ·rcases own' b l ho with o1|⟨o1,p1⟩
   ·have h1:=j.hr.own b l o1
    refine⟨fun hF=>?_,aaf h1.2 d3.size⟩
    rcases d3.new _ hF with h|h|⟨b0,l0,h2,h3,_⟩
    ·exact h1.1 h
    ·omega
    ·have:=(jV h2.2.1).1
     rw[hVro]at h3;omega
   ·exact d2.own b l o1
 have ext':Ext0 C ρ F (Gh (hs μ) (ja hs S β μ)) w ρ' F2 (Gh (hs μ) (ja hs (fun k=>S k∨k=i) β μ)) w':=by
  refine⟨fun b l h=>⟨l,by rw[r2 b (hout b (j.jn b l h))];exact h,.inl rfl⟩,hFF,fun Bk hB=>?_,fun Bk hB _=>hfr Bk hB,d3.size,fun b l ho=>?_,rfl,fun _ h=>h,fun N hN hc h0 b x l hbN hx hxl hl=>?_,d3.lp,by rw[gJ,gJ];exact Zp _,d3.out⟩
  ·rcases d3.new Bk hB with h|h|⟨b0,l0,h2,h3,_⟩
   ·exact .inl h
   ·exact .inr (.inl h)
   ·have:=(jV h2.2.1).1
    rw[hVro]at h3;omega
  ·rcases own' b l ho with o1|⟨o1,p1⟩
   ·exact .inr ⟨l,o1,rfl⟩
   ·exact .inl (newblk b l o1 p1)
  ·obtain⟨g1,g2⟩:=kH hx hxl
   rcases vis b g1 with g1|⟨⟨g3,g4⟩,_⟩
   ·rw[r2 b (hout b g1)]at hl
    have:=h0 (by rw[gJ]at hN ⊢;exact hN) b x l hbN (gH g1 g2) hxl hl
    exact this.mono hk hFF (fX le1 (Zp _)) (fun hv=>oldsame b l ⟨⟨x,gH g1 g2,hxl⟩,hl,hv⟩)
   ·rw[r1 b g3 g4]at hl
    have hb':V'.bl[b]?=some x:=by rw[bH b g3 g4];exact g2
    by_cases hNl:aO hs (i+1)≤N
    ·obtain⟨l2,h2,h3⟩:=d2.live b x hb' hxl
     rw[hl]at h2;cases h2
     exact h3.mono (fun _ _=>rfl) (fun _ h=>h) (Map.le_trans le2 (fX (Map.le_refl _) hNl)) (fun _=>rfl)
    ·have:=d3.inv N (by rw[hV'];omega) (by rw[hesc];intro p hp;cases hp) (fun h=>by rw[hV]at h;omega) b x l hbN hb' hxl hl
     refine this.mono (fun _ _=>rfl) (fun _ h=>h) (fun b1 l1 h1=>?_) (fun _=>rfl)
     obtain⟨q1,q2⟩:=jV h1
     obtain⟨l3,q3,q4⟩:=le2 b1 l1 q2
     refine⟨l3,?_,q4⟩
     rw[jy q1]
     exact(jV q3).2
 have ext2:Ext C B.ρ B.F B.H B.w ρ' F2 (Gh (hs μ) (ja hs (fun k=>S k∨k=i) β μ)) w':=by
  refine⟨j.ext.toExt0.trans ext',fun b l h=>?_⟩
  by_cases hb:aO hs i≤b∧b<aO hs (i+1)
  ·rcases hcase with hc|⟨hc1,hc2⟩
   ·omega
   ·have h1:aO hs β≤aO hs i:=R.mono hc1 (by omega)
    have:=j.Ud
    exact .inr (by omega)
  ·rw[r2 b hb]at h
   exact j.ext.nd b l h
 refine⟨ρ',F2,⟨?_,j.le,j.CY,j.Cv,j.pv,j.Nh,j.Jt.imp id (fun⟨q1,q2⟩=>⟨q1,fun h=>h.elim q2 (fun e=>by rw[e,cF hi,hnw]at q1;cases q1)⟩),fun k h1 h2 h3=>.inl (j.uK k h1 h2 h3),fun k hk1 hk2=>.inl (j.pre k hk1 hk2),?_,j.Gy,j.yJ,j.Ud,hr',?_,?_,?_,ext2,?_,?_,?_⟩⟩
 ·intro k o' hk' ho' e he hb
  rcases hk' with hk'|rfl
  ·exact .inl (j.closed k o' hk' ho' e he hb)
  ·exact .inl (hcl o' ho' e he hb)
 ·intro k hk1 hk2
  rcases hk2 with hk2|rfl
  ·exact j.post k hk1 hk2
  ·rw[cF hi];exact hnb
 ·intro b l h
  by_cases hb:aO hs i≤b∧b<aO hs (i+1)
  ·rcases hcase with hc|⟨hc1,hc2⟩
   ·omega
   ·exact .inr ⟨i,.inr rfl,hc1,hc2,hb.1,hb.2⟩
  ·rw[r2 b hb]at h
   exact vis1 b (j.jn b l h)
 ·intro b x l hb hbx hx hl
  rw[r2 b (hout b (.inl hb))]at hl
  exact(j.UG b x l hb hbx hx hl).mono hk hFF (fX le1 (Zp _)) (fun hv=>oldsame b l ⟨⟨x,gH (.inl hb) hbx,hx⟩,hl,hv⟩)
 ·intro k b x l k1 k2 k3 k4 k5 hbx hx hl
  by_cases hki:k=i
  ·subst hki
   rw[r1 b k4 k5]at hl
   obtain⟨l2,h2,h3⟩:=d2.live b x (by rw[bH b k4 k5];exact hbx) hx
   rw[hl]at h2;cases h2
   exact h3.mono (fun _ _=>rfl) (fun _ h=>h) le2 (fun _=>rfl)
  ·have k1':S k:=k1.resolve_right hki
   have hv:ja hs S β μ b:=.inr ⟨k,k1',k2,k3,k4,k5⟩
   rw[r2 b (hout b hv)]at hl
   exact(j.RA k b x l k1' k2 k3 k4 k5 hbx hx hl).mono hk hFF (fX le1 (Zp _)) (fun hv'=>oldsame b l ⟨⟨x,gH hv hbx,hx⟩,hl,hv'⟩)
 ·exact j.A4 R hi hS hk hFF le1 (d1.mono (fun _ _=>rfl) (fun _ h=>h) le2) hdst
 ·cases o.dst with
  |none=>exact j.sz
  |some u=>simpa[Act.put]using j.sz
 ·have:(a.put o.dst val).defers=a.defers:=by cases o.dst<;>rfl
  rw[this]
  exact j.Og.ext ext'
theorem J.full(R:fC C rec f nt ops pl es hs out Ns)(j:J C nt ops pl es hs out Ns B S a w ρ F β μ γ)(hall:∀k,k<γ→(dr pl k).kind≠.pure→S k):μ=γ∧Gh (hs μ) (ja hs S β μ)=hs μ:=by
 have hμ:μ=γ:=by
  rcases j.Jt with h|⟨h1,h2⟩
  ·exact h
  ·rcases Zl μ γ with h|h
   ·obtain⟨rd,hk⟩:=cZ.1 h1
    exact absurd (hall μ h (by rw[hk];simp)) h2
   ·exact Nat.le_antisymm j.CY h
 refine⟨hμ,?_⟩
 have hv:∀b,b<aO hs μ→ja hs S β μ b:=by
  intro b hb
  by_cases h0:b<aO hs β
  ·exact .inl h0
  ·have key:∀m,β+m≤μ→b<aO hs (β+m)→∃k,β≤k∧k<μ∧aO hs k≤b∧b<aO hs (k+1):=by
    intro m
    induction m with
    |zero=>intro _ h;exact absurd h h0
    |succ m ih=>
     intro h1 h2
     by_cases h3:b<aO hs (β+m)
     ·exact ih (by omega) h3
     ·exact⟨β+m,by omega,by omega,by omega,h2⟩
   obtain⟨k,k1,k2,k3,k4⟩:=key (μ-β) (by have:=j.le;omega) (by rwa [show β+(μ-β)=μ by have:=j.le;omega])
   refine .inr ⟨k,hall k (by omega) (fun hp=>?_),k1,k2,k3,k4⟩
   obtain⟨o,d,h⟩:=gF (pl:=pl) (i:=k) (by have:=j.Cv;omega)
   rw[cF h]at hp
   have hl:=(R.iv h (by rw[hp];simp)).1
   rw[(R.l9.Ft k o d h hp).2]at hl
   omega
 have:(Gh (hs μ) (ja hs S β μ)).bl=(hs μ).bl:=by
  apply aa2
  intro b
  cases hb:(hs μ).bl[b]? with
  |none=>
   rw[List.getElem?_eq_none_iff]at hb⊢
   rw[gJ];exact hb
  |some x=>exact gH (hv b (Y8.1 hb).1) hb
 unfold Gh at this⊢
 simp only at this
 rw[this]
theorem u6(pl:List (aK×bE)):∀(m β:Nat),β+m=pl.length→∃γ,β≤γ∧γ≤pl.length∧(∀j,β≤j→j<γ→(dr pl j).kind≠.gl)∧(γ=pl.length∨(dr pl γ).kind=.gl)
 |0,β,h=>⟨β,Zp _,by omega,fun j h1 h2=>by omega,.inl (by omega)⟩
 |m+1,β,h=>by
  by_cases hb:(dr pl β).kind=.gl
  ·exact⟨β,Zp _,by omega,fun j h1 h2=>by omega,.inr hb⟩
  ·obtain⟨γ,h1,h2,h3,h4⟩:=u6 pl m (β+1) (by omega)
   refine⟨γ,by omega,h2,fun j k1 k2=>?_,h4⟩
   by_cases e:j=β
   ·subst e;exact hb
   ·exact h3 j (by omega) k2
theorem tq(pl:List (aK×bE))(γ:Nat):∀(m β:Nat),β+m=γ→∃μ,β≤μ∧μ≤γ∧(∀j,β≤j→j<μ→df (dr pl j)=false)∧(μ=γ∨df (dr pl μ)=true)
 |0,β,h=>⟨β,Zp _,by omega,fun j h1 h2=>by omega,.inl (by omega)⟩
 |m+1,β,h=>by
  cases hb:df (dr pl β)with
  |true=>exact⟨β,Zp _,by omega,fun j h1 h2=>by omega,.inr hb⟩
  |false=>
   obtain⟨μ,h1,h2,h3,h4⟩:=tq pl γ m (β+1) (by omega)
   refine⟨μ,by omega,h2,fun j k1 k2=>?_,h4⟩
   by_cases e:j=β
   ·subst e;exact hb
   ·exact h3 j (by omega) k2
theorem J.begin(R:fC C rec f nt ops pl es hs out Ns){B:jJ}{S:Nat→Prop}{a:Act}{w:World}{ρ:Map}{F:Nat→Prop}{β:Nat}(hβ:β≤pl.length)
 (closed:∀(k:Nat) o,S k→ops.toList[k]?=some o→∀e∈o.after,Region.binds .any e=true→S e.on) (pre:∀j,j<β→(dr pl j).kind≠.pure→S j) (post:∀j,β≤j→S j→(dr pl j).kind=.pure)
 (Gy:Ns β=aO hs β) (yJ:β<pl.length→(dr pl β).kq=0) (hr:HR C ρ F (hs β) w) (ext:Ext C B.ρ B.F B.H B.w ρ F (hs β) w) (fq:∀t s m,W pl (es 0) out (aO hs) S t s m→VR w F (ρ.cut m) s (a.tmps.getD t undef))
 (sz:nt≤a.tmps.size) (mk:Marks ρ F (hs β) w B.lo a.defers):∃μ γ,J C nt ops pl es hs out Ns B S a w ρ F β μ γ:=by
 obtain⟨γ,h1,h2,h3,h4⟩:=u6 pl (pl.length-β) β (by omega)
 obtain⟨μ,n1,n2,n3,n4⟩:=tq pl γ (γ-β) β (by omega)
 obtain⟨X,g1⟩:=R.GC n1 (by omega) (fun j q1 q2=>h3 j q1 (by omega)) n3
 have novis:∀k,S k→β≤k→k<μ→aO hs (k+1)=aO hs k:=by
  intro k k1 k2 k3
  obtain⟨o,d,h⟩:=gF (pl:=pl) (i:=k) (by omega)
  have hp:=post k k2 k1
  rw[cF h]at hp
  have hl:=(R.iv h (by rw[hp];simp)).1
  rw[(R.l9.Ft k o d h hp).2]at hl
  omega
 have hv:∀b,ja hs S β μ b→b<aO hs β:=by
  intro b h
  rcases h with h|⟨k,k1,k2,k3,k4,k5⟩
  ·exact h
  ·have:=novis k k1 k2 k3;omega
 have hb:∀(b:Nat) x,x.live=true→((Gh (hs μ) (ja hs S β μ)).bl[b]?=some x↔(hs β).bl[b]?=some x):=by
  intro b x hx
  constructor
  ·intro h
   obtain⟨q1,q2⟩:=kH h hx
   rw[g1]at q2
   rwa [Zm (hv b q1)]at q2
  ·intro h
   have hlt:=(Y8.1 h).1
   refine gH (.inl hlt) ?_
   rw[g1]
   simp only
   rw[Zm hlt];exact h
 have hlen:(hs β).bl.length≤(Gh (hs μ) (ja hs S β μ)).bl.length:=by rw[gJ];exact R.mono n1 (by omega)
 obtain⟨p1,p2⟩:=hr.pad hb hlen (by simp[Gh,g1]) (by simp[Gh,g1])
 refine⟨μ,γ,⟨closed,n1,n2,h2,h3,h4,n4.imp id (fun hw=>⟨hw,fun hS=>by
  have:=post μ n1 hS
  obtain⟨rd,hk⟩:=cZ.1 hw
  rw[hk]at this;cases this⟩),fun j k1 k2 k3=>(by rw[n3 j k1 k2]at k3;cases k3),pre,fun j k1 k2=>by rw[post j k1 k2];simp,Gy,yJ,ext.ln,p1,fun b l h=>.inl (hr.jn b l h),fun b x l hb' hbx hx hl=>?_,fun k b x l k1 k2 k3 k4 k5=>?_,ext.trans p2,fq,sz,mk.ext p2.toExt0⟩⟩
 ·rw[g1]at hbx
  simp only at hbx
  rw[Zm hb']at hbx
  obtain⟨l2,q2,q3⟩:=hr.live b x hbx hx
  rw[hl]at q2;cases q2
  exact q3.mono (fun _ _=>rfl) (fun _ h=>h) (fun b1 l1 h=>⟨l1,by rw[jy (hr.jn b1 l1 h)];exact h,.inl rfl⟩) (fun _=>rfl)
 ·have:=novis k k1 k2 k3;omega
theorem J.gl(R:fC C rec f nt ops pl es hs out Ns)(j:J C nt ops pl es hs out Ns B S a w ρ F β μ γ){i:Nat}{o:aK}{d:bE}(hi:pl[i]?=some (o,d))(hS:¬S i)
 (hcl:∀o,ops.toList[i]?=some o→∀e∈o.after,Region.binds .any e=true→S e.on) (hb:d.kind=.gl) (hdst:∀d,o.dst=some d→d<nt) :
 HR C ρ F (hs i) w∧∀val w',dD C ρ F (hs i) w (out i) (hs (i+1)) val w'→∃ρ' F' β' μ' γ',J C nt ops pl es hs out Ns B (fun k=>S k∨k=i) (a.put o.dst val) w' ρ' F' β' μ' γ':=by
 have hlt:=(Y8.1 hi).1
 have bf:=j.before R hcl
 have bh:=j.behind R hS
 have hdi:(dr pl i).kind=.gl:=by rw[cF hi];exact hb
 have lt:=wo R.l9.Dq
 have h1:β≤i:=by
  rcases Zl i β with h|h
  ·exact absurd (j.pre i h (by rw[hdi];simp)) hS
  ·exact h
 have hall:∀k,k<i→(dr pl k).kind≠.pure→S k:=by
  intro k hk hp
  rcases R.l9.gl i k hlt (by omega) hdi hp with h|h|h
  ·omega
  ·have:=lt k i h;omega
  ·exact bf k h
 have h2:i=γ:=by
  rcases aaL i γ with h|h|h
  ·exact absurd hdi (j.pv i h1 h)
  ·exact h
  ·rcases j.Nh with h'|h'
   ·omega
   ·exact absurd h' (j.post γ (ZN j.le j.CY) (hall γ h (by rw[h'];simp)))
 subst h2
 obtain⟨hμ,hG⟩:=j.full R hall
 replace hμ:=hμ.symm
 subst hμ
 have hr:=j.hr
 rw[hG]at hr
 refine⟨hr,fun val w' hd=>?_⟩
 obtain⟨ρ2,F2,d1,d2,d3⟩:=hd
 have hext:=j.ext
 rw[hG]at hext
 have hmk:=j.Og
 rw[hG]at hmk
 obtain⟨μ',γ',h⟩:=J.begin R (B:=B) (S:=fun k=>S k∨k=i) (a:=a.put o.dst val) (w:=w') (ρ:=ρ2) (F:=F2) (β:=i+1) (by omega)
  (fun k o' hk' ho' e he hbd=>by
   rcases hk' with hk'|rfl
   ·exact .inl (j.closed k o' hk' ho' e he hbd)
   ·exact .inl (hcl o' ho' e he hbd))
  (fun k hk hp=>by
   by_cases e:k=i
   ·exact .inr e
   ·exact .inl (hall k (by omega) hp))
  (fun k hk hSk=>by
   have hSk:S k:=hSk.resolve_right (by omega)
   apply aaP
   intro hp
   have hkl:k<pl.length:=by
    rcases Zl k pl.length with h|h
    ·exact h
    ·exact absurd (by unfold dr;rw[aao h];rfl) hp
   rcases R.l9.gl i k hlt hkl hdi hp with h|h|h
   ·omega
   ·exact bh k hSk h
   ·have:=lt i k h;omega)
  (by rw[R.tr.nx i o d hi];unfold fA;rw[hb])
  (fun h=>by
   rw[R.l9.Fj i h,iM.2 hdi];rfl)
  d2 (hext.trans d3)
  (j.A4 R hi hS (d3.keeps hr) d3.gW d3.le (d1.mono (fun _ _=>rfl) (fun _ h=>h) (fun b l h=>⟨l,by rw[jy (d2.jn b l h)];exact h,.inl rfl⟩)) hdst)
  (by cases o.dst with
   |none=>exact j.sz
   |some u=>simpa[Act.put]using j.sz)
  (by
   have:(a.put o.dst val).defers=a.defers:=by cases o.dst<;>rfl
   rw[this]
   exact hmk.ext d3.toExt0)
 exact⟨ρ2,F2,_,μ',γ',h⟩
theorem Is{H:ab}{vis:Nat→Prop}{b:Nat}(hv:vis b):(Gh H vis).bl[b]?=H.bl[b]?:=by
 unfold Gh
 cases h:H.bl[b]? with
 |none=>simp[h]
 |some x=>simp[h,hv]
open Classical in
theorem AU{H H':ab}{vis:Nat→Prop}{b r:Nat}{y:aD}(hv:vis b)(h:cp H b y r=some H'):cp (Gh H vis) b y r=some (Gh H' vis):=by
 unfold cp at h⊢
 replace h:=aj h
 obtain⟨h1,h2⟩:=h
 have h3:(decide ((Gh H vis).ro≤b)&&decide (b<(Gh H vis).bl.length))=true:=by rw[gJ];exact h1
 rw[h3]
 cases h2
 simp only[Zr,Zs]
 have:(Gh H vis).bl.set b y=(H.bl.set b y).mapIdx (fun b x=>if vis b then x else aD.dead):=by
  apply aa2
  intro c
  by_cases e:c=b
  ·subst e
   simp only[abA,gJ,abD,Zv]
   by_cases hl:c<H.bl.length
   ·simp[hl,hv]
   ·simp[hl]
  ·rw[Zg (Ne.symm e),abD,Zg (Ne.symm e)]
   unfold Gh
   rw[abD]
 rw[this]
 rfl
theorem Ap{H H':ab}{vis:Nat→Prop}{n b v i o:Nat}{x:SV}(hv:vis b)(h:dP n H x (.ptr b v i o)=some H'):dP n (Gh H vis) x (.ptr b v i o)=some (Gh H' vis):=by
 have hg:bk (Gh H vis) b=bk H b:=Is hv
 unfold dP at h⊢
 simp only[Zd]at h⊢
 obtain⟨xs,h1,h⟩:=h
 refine⟨xs,h1,?_⟩
 rw[hg]
 replace h:=aj h
 obtain⟨h2,h⟩:=h
 rw[h2]
 simp only[Zr]
 split at h
 ·replace h:=aj h
  rw[h.1];exact AU hv h.2
 ·replace h:=aj h
  obtain⟨h3,h⟩:=h
  rw[h3]
  simp only[Zr]
  split at h
  ·replace h:=aj h
   rw[h.1];exact AU hv h.2
  ·cases h
 ·cases h
theorem J.place(R:fC C rec f nt ops pl es hs out Ns)(j:J C nt ops pl es hs out Ns B S a w ρ F β μ γ){i:Nat}{o:aK}{d:bE}(hi:pl[i]?=some (o,d))(hS:¬S i)
 (hcl:∀o,ops.toList[i]?=some o→∀e∈o.after,Region.binds .any e=true→S e.on) (hp:d.kind≠.pure) (hb:d.kind≠.gl):β≤i∧i<γ∧(df d=true→i=μ)∧(df d=false→i<μ):=by
 have hlt:=(Y8.1 hi).1
 have bf:=j.before R hcl
 have bh:=j.behind R hS
 have lt:=wo R.l9.Dq
 have hdi:dr pl i=d:=cF hi
 have hβ:β≤i:=by
  rcases Zl i β with h|h
  ·exact absurd (j.pre i h (by rw[hdi];exact hp)) hS
  ·exact h
 have hγ:i<γ:=by
  rcases Zl i γ with h|h
  ·exact h
  ·exfalso
   rcases j.Nh with h'|h'
   ·omega
   ·have hne:γ≠i:=fun e=>by rw[e,hdi]at h';exact hb h'
    rcases R.l9.gl γ i (by omega) hlt h' (by rw[hdi];exact hp)with h1|h1|h1
    ·exact hne h1
    ·exact absurd h' (j.post γ (ZN j.le j.CY) (bf γ h1))
    ·have:=lt γ i h1;omega
 refine⟨hβ,hγ,fun hw=>?_,fun hw=>?_⟩
 ·rcases aaL i μ with h|h|h
  ·exact absurd (j.uK i hβ h (by rw[hdi];exact hw)) hS
  ·exact h
  ·rcases j.Jt with h'|⟨h1,h2⟩
   ·omega
   ·exact absurd (bf μ (R.l9.PY μ i (by omega) hlt h1 h (by rw[hdi];exact hp))) h2
 ·rcases aaL i μ with h|h|h
  ·exact h
  ·rcases j.Jt with h'|⟨h1,h2⟩
   ·omega
   ·rw[←h,hdi,hw]at h1;cases h1
  ·rcases j.Jt with h'|⟨h1,h2⟩
   ·omega
   ·exact absurd (bf μ (R.l9.PY μ i (by omega) hlt h1 h (by rw[hdi];exact hp))) h2
theorem fC.MJ(R:fC C rec f nt ops pl es hs out Ns){β i b:Nat}(hβ:β≤i)(hi:i≤pl.length)(hb:∀m,β≤m→m<i→(dr pl m).kind≠.gl)(h0:¬b<aO hs β)(h:b<aO hs i) :
 ∃k,β≤k∧k<i∧aO hs k≤b∧b<aO hs (k+1)∧(dr pl k).kind=.jE∧b<aO hs k+(dr pl k).wi:=by
 have key:∀m,β+m≤i→b<aO hs (β+m)→∃k,β≤k∧k<i∧aO hs k≤b∧b<aO hs (k+1):=by
  intro m
  induction m with
  |zero=>intro _ h;exact absurd h h0
  |succ m ih=>
   intro h1 h2
   by_cases h3:b<aO hs (β+m)
   ·exact ih (by omega) h3
   ·exact⟨β+m,by omega,by omega,by omega,h2⟩
 obtain⟨k,k1,k2,k3,k4⟩:=key (i-β) (by omega) (by rwa [show β+(i-β)=i by omega])
 obtain⟨ok,dk,hk⟩:=gF (pl:=pl) (i:=k) (by omega)
 have hnbk:dk.kind≠.gl:=by have:=hb k k1 k2;rwa [cF hk]at this
 have hl:=(R.iv hk hnbk).1
 refine⟨k,k1,k2,k3,k4,?_,by rw[cF hk];omega⟩
 rw[cF hk]
 cases hkk:dk.kind with
 |gl=>exact absurd hkk hnbk
 |pure=>have:=(R.l9.Ft k ok dk hk hkk).2;omega
 |wr rd=>
  have:=R.l9.Vj k (by omega) (by rw[cF hk];exact cZ.2 ⟨rd,hkk⟩)
  rw[cF hk]at this;omega
 |jE=>rfl
theorem J.seen(R:fC C rec f nt ops pl es hs out Ns)(j:J C nt ops pl es hs out Ns B S a w ρ F β μ γ){i b:Nat}{o:aK}{d:bE}(hi:pl[i]?=some (o,d))(hS:¬S i)
 (hcl:∀o,ops.toList[i]?=some o→∀e∈o.after,Region.binds .any e=true→S e.on) (hd:d.kind=.jE∨df d=true) (hβ:β≤i) (hiμ:i≤μ) (hb:b<aO hs i) (hh:∀m∈d.eU,b≠Ns i+m):ja hs S β μ b∧ja hs S β i b:=by
 have hlt:=(Y8.1 hi).1
 have bf:=j.before R hcl
 have hnb:∀g,β≤g→g<i→(dr pl g).kind≠.gl:=fun g h1 h2=>j.pv g h1 (by have:=j.CY;omega)
 by_cases h0:b<aO hs β
 ·exact⟨.inl h0,.inl h0⟩
 ·obtain⟨k,k1,k2,k3,k4,k5,k6⟩:=R.MJ hβ (by omega) hnb h0 hb
  have hSk:S k:=by
   rcases R.l9.eU i hlt (by rw[cF hi];exact hd) k k2 k5 with⟨m,m1,m2,m3⟩|h|h
   ·exact absurd m3 (hnb m (by omega) m2)
   ·exact bf k h
   ·exfalso
    have hoff:=R.kq (j.yJ (by omega)) (k-β) (fun m h1 h2=>hnb m h1 (by omega)) (by omega)
    rw[show β+(k-β)=k by omega]at hoff
    have hNs:Ns i=aO hs β:=by rw[R.Uc hβ (by omega) hnb,j.Gy]
    have hoff':aO hs k=aO hs β+(dr pl k).kq:=hoff
    have:=h (b-aO hs k) (by omega)
    rw[cF hi]at this
    exact hh _ this (by rw[hNs];omega)
  exact⟨.inr ⟨k,hSk,k1,by omega,k3,k4⟩,.inr ⟨k,hSk,k1,k2,k3,k4⟩⟩
theorem J.wr(R:fC C rec f nt ops pl es hs out Ns)(j:J C nt ops pl es hs out Ns B S a w ρ F β μ γ){i:Nat}{o:aK}{d:bE}{rd:List (bU×Nat)}(hi:pl[i]?=some (o,d))(hS:¬S i)
 (hcl:∀o,ops.toList[i]?=some o→∀e∈o.after,Region.binds .any e=true→S e.on) (hk:d.kind=.wr rd) (hdst:∀d,o.dst=some d→d<nt) :
 ∃n p x V V',o.op=.store n p x∧o5 (es i) o.g∧HR C ρ F V w∧dP n V (ev (es i) x) (ev (es i) p)=some V'∧
  ∀w',HR C ρ F V' w'→Ext C ρ F V w ρ F V' w'→xE C ρ F V V' w w' (ev (es i) x).refs→∃μ',J C nt ops pl es hs out Ns B (fun k=>S k∨k=i) (a.put o.dst undef) w' ρ F β μ' γ:=by
 have hlt:=(Y8.1 hi).1
 have hw:df d=true:=cZ.2 ⟨rd,hk⟩
 have bf:=j.before R hcl
 have bh:=j.behind R hS
 obtain⟨hβ,hγ,hμ,_⟩:=j.place R hi hS hcl (by rw[hk];simp) (by rw[hk];simp)
 have hμ:=hμ hw
 subst hμ
 obtain⟨n,p,x,dZ,hwt,hrefs,htgt,_,hst,hout,hN⟩:=R.wr hi hk
 have hNs:Ns i=aO hs β:=by rw[R.Uc hβ (by omega) (fun m h1 h2=>j.pv m h1 (by omega)),j.Gy]
 rw[hNs]at hrefs
 obtain⟨b,v,ii,oo,xs,y0,y1,hp,hxs,hxn,hb0,hl0,hl1,hsh,hset0,_⟩:=fU hst
 have hbl:b<aO hs i:=(Y8.1 hb0).1
 have hvis:ja hs S β i b:=(j.seen R hi hS hcl (.inr hw) hβ (Zp _) hbl (fun m hm e=>by
  rw[hp]at htgt
  simp only[EH]at htgt
  have:=ZA.1 htgt m hm
  simp only[ZK,aaJ]at this
  exact this e.symm)).2
 have hstV:dP n (Gh (hs i) (ja hs S β i)) (ev (es i) x) (ev (es i) p)=some (Gh (hs (i+1)) (ja hs S β i)):=by
  rw[hp]at hst ⊢;exact Ap hvis hst
 refine⟨n,p,x,_,_,dZ,hwt,j.hr,hstV,fun w' q1 q2 q3=>?_⟩
 have hln:aO hs (i+1)=aO hs i:=R.wP hi hw
 obtain⟨μ,n1,n2,n3,n4⟩:=tq pl γ (γ-(i+1)) (i+1) (by omega)
 obtain⟨X,g1⟩:=R.GC n1 (by have:=j.Cv;omega) (fun m h1 h2=>j.pv m (by omega) (by omega)) n3
 have late:∀k,S k→i<k→k<pl.length→(dr pl k).kind=.pure:=by
  intro k h1 h2 h3
  apply aaP
  intro hp'
  exact bh k h1 (R.l9.PY i k hlt h3 (by rw[cF hi];exact hw) h2 hp')
 have nob:∀k,k<μ→(S k∨k=i)→β≤k→i≤k→aO hs (k+1)=aO hs k:=by
  intro k k0 k1 k2 k3
  rcases Zl i k with h|h
  ·have hkl:k<pl.length:=by have:=j.Cv;omega
   have hp':=late k (k1.resolve_right (by omega)) h hkl
   obtain⟨ok,dk,hk'⟩:=gF hkl
   rw[cF hk']at hp'
   have:=(R.iv hk' (by rw[hp'];simp)).1
   rw[(R.l9.Ft k ok dk hk' hp').2]at this
   omega
  ·have:k=i:=by omega
   subst this;exact hln
 have vis2:∀b,ja hs (fun k=>S k∨k=i) β μ b→ja hs S β i b:=by
  intro b h
  rcases h with h|⟨k,k1,k2,k3,k4,k5⟩
  ·exact .inl h
  ·rcases Zl k i with h|h
   ·exact .inr ⟨k,k1.resolve_right (by omega),k2,h,k4,k5⟩
   ·have:=nob k k3 k1 k2 h;omega
 have vis1:∀b,ja hs S β i b→ja hs (fun k=>S k∨k=i) β μ b:=by
  intro b h
  rcases h with h|⟨k,k1,k2,k3,k4,k5⟩
  ·exact .inl h
  ·exact .inr ⟨k,.inl k1,k2,by omega,k4,k5⟩
 have visl:∀b,ja hs S β i b→b<aO hs (i+1):=by
  intro b h
  rw[hln]
  rcases h with h|⟨k,k1,k2,k3,k4,k5⟩
  ·exact aaf h (R.mono hβ (by omega))
  ·exact aaf k5 (R.mono k3 (by omega))
 have hat:∀b,b<aO hs (i+1)→(hs μ).bl[b]?=(hs (i+1)).bl[b]?:=fun b hb=>by
  rw[g1]
  simp only
  rw[Zm hb]
 obtain⟨p1,p2⟩:=q1.pad (H':=Gh (hs μ) (ja hs (fun k=>S k∨k=i) β μ)) (fun b x hx=>by
  constructor
  ·intro h
   obtain⟨u1,u2⟩:=kH h hx
   have:=vis2 b u1
   rw[hat b (visl b this)]at u2
   exact gH this u2
  ·intro h
   obtain⟨u1,u2⟩:=kH h hx
   exact gH (vis1 b u1) (by rw[hat b (visl b u1)];exact u2)) (by rw[gJ,gJ];exact R.mono n1 (by have:=j.Cv;omega)) (by simp[Gh,g1]) (by simp[Gh,g1])
 have q2':=q2.trans p2
 have hold:∀(b:Nat) y,ja hs S β i b→(hs μ).bl[b]?=some y→y.live=true→∃z,(hs i).bl[b]?=some z∧z.live=true∧(Gh (hs i) (ja hs S β i)).bl[b]?=some z∧(Gh (hs (i+1)) (ja hs S β i)).bl[b]?=some y:=by
  intro b y hv hy hyl
  rw[hat b (visl b hv)]at hy
  have hsh2:cj (hs i).bl (hs (i+1)).bl:=by rw[(iT hset0).2.2.1];exact cj.set hb0 hsh
  rcases hsh2.get b with⟨_,h⟩|⟨z,y',h1,h2,h3⟩
  ·rw[h]at hy;cases hy
  ·rw[h2]at hy;cases hy
   exact⟨z,h1,by rw[vt h3];exact hyl,gH hv h1,gH hv h2⟩
 refine⟨μ,⟨fun k o' hk' ho' e he hbd=>?_,by omega,n2,j.Cv,j.pv,j.Nh,n4.imp id (fun h=>⟨h,fun hs'=>?_⟩),fun k h1 h2 h3=>?_,fun k h1 h2=>.inl (j.pre k h1 h2),fun k h1 h2=>?_,j.Gy,j.yJ,j.Ud,p1,fun b l h=>vis1 b (j.jn b l h),
  fun b y l hb hy hyl hl=>?_,fun k b y l k1 k2 k3 k4 k5 hy hyl hl=>?_,j.ext.trans q2',?_,?_,?_⟩⟩
 ·rcases hk' with hk'|rfl
  ·exact .inl (j.closed k o' hk' ho' e he hbd)
  ·exact .inl (hcl o' ho' e he hbd)
 ·rcases hs' with h1|h1
  ·have hμl:μ<pl.length:=by
    rcases Zl μ pl.length with h2|h2
    ·exact h2
    ·unfold dr at h;rw[aao h2]at h;cases h
   have:=late μ h1 (by omega) hμl
   obtain⟨rd',h'⟩:=cZ.1 h
   rw[h']at this;cases this
  ·omega
 ·rcases aaL k i with h|h|h
  ·exact .inl (j.uK k h1 h h3)
  ·exact .inr h
  ·rw[n3 k h h2]at h3;cases h3
 ·rcases h2 with h2|rfl
  ·exact j.post k h1 h2
  ·rw[cF hi,hk];simp
 ·obtain⟨z,z1,z2,z3,z4⟩:=hold b y (.inl hb) hy hyl
  exact q3 (aO hs β) hrefs b z y l z3 z2 z4 hl (j.UG b z l hb z1 z2 hl)
 ·rcases Zl k i with h|h
  ·have hSk:S k:=k1.resolve_right (by omega)
   obtain⟨z,z1,z2,z3,z4⟩:=hold b y (.inr ⟨k,hSk,k2,h,k4,k5⟩) hy hyl
   have hle:aO hs β≤aO hs (k+1):=R.mono (by omega) (by omega)
   exact q3 (aO hs (k+1)) (ZN hrefs hle) b z y l z3 z2 z4 hl (j.RA k b z l hSk k2 h k4 k5 z1 z2 hl)
  ·have:=nob k k3 k1 k2 h;omega
 ·exact j.A4 R hi hS (q2.keeps j.hr) (fun _ h=>h) (Map.le_refl _) (by rw[hout];exact .undef _) hdst
 ·cases o.dst with
  |none=>exact j.sz
  |some u=>simpa[Act.put]using j.sz
 ·have:(a.put o.dst undef).defers=a.defers:=by cases o.dst<;>rfl
  rw[this]
  exact j.Og.ext q2'.toExt0
theorem nL(N:Nat):∀(ds:List Nat) (l:List aD),(cz N ds l).length=l.length
 |[],_=>rfl
 |d::ds,l=>by
  have:=nL N ds (l.set (N+d) .dead)
  unfold cz at this⊢
  simpa using this
theorem l5(N:Nat):∀(ds:List Nat) (l:List aD) (b:Nat) (x:aD),(cz N ds l)[b]?=some x→x.live=true→l[b]?=some x∧∀d∈ds,b≠N+d
 |[],l,b,x,h,_=>⟨h,by simp⟩
 |d::ds,l,b,x,h,hx=>by
  obtain⟨h1,h2⟩:=l5 N ds (l.set (N+d) .dead) b x (by unfold cz at h ⊢;simpa using h) hx
  have hne:b≠N+d:=by
   intro e
   rw[←e]at h1
   have hlt:=(Y8.1 h1).1
   simp at hlt
   simp[hlt]at h1
   subst h1;cases hx
  rw[Zg (Ne.symm hne)]at h1
  exact⟨h1,fun d' hd'=>by
   rcases ZU.1 hd' with rfl|hd'
   ·exact hne
   ·exact h2 d' hd'⟩
theorem qb(N:Nat):∀(ds:List Nat) (l:List aD) (b:Nat),(∀d∈ds,b≠N+d)→(cz N ds l)[b]?=l[b]?
 |[],_,_,_=>rfl
 |d::ds,l,b,h=>by
  have:=qb N ds (l.set (N+d) .dead) b (fun d' hd'=>h d' (ZS _ hd'))
  unfold cz at this⊢
  rw[aad,this,Zg (Ne.symm (h d (ZI ..)))]
theorem oT{o:aK}{e:Env}{tmps:Array Value}{F:Nat→Prop}{ρ:Map}{w:World}(h:∀t∈bT o,VR w F ρ (get e t) (tmps.getD t undef)):ER w F ρ (dx (bT o) e) tmps:=by
 intro t
 rw[iG]
 cases hm:(bT o).contains t with
 |false=>exact .undef _
 |true=>exact h t (by simpa using hm)
theorem lu{o:aK}{e:Env}{H:ab}:aq rec (dx (bT o) e) H o.op=aq rec e H o.op:=
 oz (fun t ht=>by rw[iG];simp[ht])
theorem J.step(hrec:fx C rec)(R:fC C rec f nt ops pl es hs out Ns)(j:J C nt ops pl es hs out Ns B S a w ρ F β μ γ){i:Nat}(hi:i<pl.length)(hS:¬S i)
 (hcl:∀o,ops.toList[i]?=some o→∀e∈o.after,Region.binds .any e=true→S e.on) {ro:Option Nat} {n:Nat} {Q:Exit→Act→World→Prop} {K:Act→World→Prop}
 (hK:∀a' w' ρ' F' β' μ' γ',J C nt ops pl es hs out Ns B (fun k=>S k∨k=i) a' w' ρ' F' β' μ' γ'→K a' w'):wpOpIn (WF ro) n C.P ops Q i K a w:=by
 obtain⟨o,d,ho⟩:=gF hi
 obtain⟨op,dZ,hco⟩:=R.dZ i o d ho
 unfold wpOpIn
 simp only[dZ]
 unfold ib at hco
 replace hco:=eK hco
 obtain⟨hdst,hco⟩:=hco
 have hdst':∀d,op.dst=some d→d<nt:=fun d hd=>by rw[hd]at hdst;simpa using hdst
 have hslots:=j.LR R ho hS hcl
 have go:∀(hd:op.dst=o.dst) (hopo:o.op=ui (lk C.dz f op.dst) ((oy C.P op.op).getD .bad)),bY rec (Ns i) d (es i) (hs i) o.op=some (out i,hs (i+1))→op.wpIn (WF ro) n C.P a w K Q:=by
  intro hd hopo hst
  unfold bY at hst
  split at hst
  ·rename_i hk
   obtain⟨g1,g2⟩:=R.l9.Ft i o d ho hk
   obtain⟨g3,g4⟩:=mV g1 hst
   have hr:=j.sub R (i:=i) (V:={bl:=List.replicate (aO hs i) .dead,bQ:=[],ro:=aO hs i}) (by omega) (by simp) (fun b x hb hx=>by
    simp only[aa7]at hb
    split at hb
    ·cases hb;cases hx
    ·cases hb)
   have hs1:=g4 {bl:=List.replicate (aO hs i) .dead,bQ:=[],ro:=aO hs i}
   rw[←lu]at hs1
   refine iK hrec hopo hs1 hr (oT hslots) (fun val w' hdn=>?_)
   have hln:aO hs (i+1)=aO hs i:=by unfold aO;rw[g3]
   obtain⟨ρ',F',h⟩:=j.quiet R ho hS hcl (by rw[hk];simp) (by unfold df;rw[hk]) (by simp) rfl (by simp[hln]) rfl (fun b h1 h2=>by omega) (.inl hln) hdn (fun d h=>hdst' d (by rw[hd];exact h))
   rw[hd]
   exact hK _ _ _ _ _ _ _ h
  ·rename_i hk
   simp only[Zd]at hst
   obtain⟨r,h1,h2⟩:=hst
   replace h2:=aj h2
   obtain⟨_,h2⟩:=h2
   cases h2
   obtain⟨hr,hfin⟩:=j.gl R ho hS hcl hk (fun d h=>hdst' d (by rw[hd];exact h))
   rw[←lu]at h1
   refine iK hrec hopo h1 hr (oT (fun t ht=>(hslots t ht).mono (fun _ _=>rfl) (fun _ h=>h) (Map.sN _ _))) (fun val w' hdn=>?_)
   obtain⟨ρ',F',β',μ',γ',h⟩:=hfin val w' hdn
   rw[hd]
   exact hK _ _ _ _ _ _ _ h
  ·rename_i hk
   simp only[Zd]at hst
   obtain⟨r,h1,h2⟩:=hst
   replace h2:=aj h2
   obtain⟨h3,h2⟩:=h2
   simp only[Zh,aah,List.isEmpty_iff]at h3
   obtain⟨h3,h4⟩:=h3
   simp only[Zs,Zy]at h2
   obtain⟨h5,h6⟩:=h2
   obtain⟨s,V'⟩:=r
   simp only at h1 h3 h4 h5 h6
   subst h5
   have hdi:(dr pl i).kind=.jE:=by rw[cF ho];exact hk
   have hnw:df d=false:=by unfold df;rw[hk]
   obtain⟨hβ,hγ,_,hμ⟩:=j.place R ho hS hcl (by rw[hk];simp) (by rw[hk];simp)
   have hμ:=hμ hnw
   have bh:=j.behind R hS
   have hlM:=j.CY
   have hlN:=j.Cv
   have hnb:∀g,β≤g→g<μ→(dr pl g).kind≠.gl:=fun g h1 h2=>j.pv g h1 (by omega)
   have hln:aO hs (i+1)=aO hs i+d.wi:=by
    unfold aO;rw[←h6];simp;omega
   have hsz:aO hs i≤aO hs μ:=R.mono (by omega) (by omega)
   have hnow:∃V1',aq rec (es i) {bl:=cz (Ns i) d.eU ((hs μ).bl.take (aO hs i)),bQ:=[],ro:=aO hs i} o.op=some (out i,V1')∧V1'.bl.length=aO hs (i+1)∧V1'.bQ=[]∧
    ∀b,aO hs i≤b→b<aO hs (i+1)→V1'.bl[b]?=(hs (i+1)).bl[b]?:=by
    have hbl1:∀V0:List aD,V0.length=aO hs i→∀b,aO hs i≤b→V'.bl[b]?=(hs (i+1)).bl[b]?:=fun V0 _ b h1=>by
     rw[←h6]
     simp only
     rw[ZR h1,ZT]
     congr 1
     have:aO hs i=(hs i).bl.length:=rfl
     omega
    by_cases hno:∀m,i<m→m<μ→df (dr pl m)=false
    ·obtain⟨X,hX⟩:=R.GC (show i≤μ by omega) (by omega) (fun m h1 h2=>hnb m (by omega) h2) (fun m h1 h2=>by
      rcases Zl i m with h|h
      ·exact hno m h h2
      ·have:m=i:=by omega
       subst this;rw[cF ho];exact hnw)
     have:(hs μ).bl.take (aO hs i)=(hs i).bl:=by
      rw[hX]
      simp only
      exact List.take_left' rfl
     rw[this]
     exact⟨V',h1,by rw[h3,hln],h4,fun b h1 _=>hbl1 (hs i).bl rfl b h1⟩
    ·have hind:∀m,i<m→m<μ→df (dr pl m)=true→nE o.op=true∨nY pl i m o.op (dr pl m)=true:=fun m m1 m2 m3=>by
      rcases R.l9.ind i m (o,d) (by omega) m1 m3 hdi ho with⟨g,g1,g2,g3⟩|h|h
      ·exact absurd g3 (hnb g (by omega) (by omega))
      ·exact absurd h (bh m (j.uK m (by omega) m2 m3))
      ·exact h
     have hsh:cj (cz (Ns i) d.eU (hs i).bl) (cz (Ns i) d.eU ((hs μ).bl.take (aO hs i))):=
      (R.shape (show i≤μ by omega) (by omega) (fun m h1 h2=>hnb m (by omega) h2)).eU _ _
     have hlen0:(cz (Ns i) d.eU (hs i).bl).length=aO hs i:=nL _ _ _
     cases hbo:nE o.op with
     |true=>
      obtain⟨X,x1,x2⟩:=zU hbo (V0:={bl:=cz (Ns i) d.eU (hs i).bl,bQ:=[],ro:=(hs i).bl.length})
       (V1:={bl:=cz (Ns i) d.eU ((hs μ).bl.take (aO hs i)),bQ:=[],ro:=aO hs i}) hsh h1
      refine⟨_,x2,?_,rfl,fun b b1 b2=>?_⟩
      ·have:V'.bl.length=(cz (Ns i) d.eU (hs i).bl).length+X.length:=by rw[x1];simp
       simp only[Y9]
       rw[←hsh.len]
       have hli:aO hs i=(hs i).bl.length:=rfl
       omega
      ·rw[←hbl1 (hs i).bl rfl b b1,x1]
       simp only
       rw[ZR (by rw[←hsh.len];omega),ZR (by omega),hsh.len]
     |false=>
      have CJ:∀m,i<m→m<μ→df (dr pl m)=true→nY pl i m o.op (dr pl m)=true:=fun m m1 m2 m3=>by
       rcases hind m m1 m2 m3 with h|h
       ·rw[hbo]at h;cases h
       ·exact h
      have⟨m0,m1,m2,m3⟩:∃m,i<m∧m<μ∧df (dr pl m)=true:=by
       apply aaP
       intro hn
       exact hno (fun m m1 m2=>by
        cases hw:df (dr pl m)with
        |false=>rfl
        |true=>exact absurd ⟨m,m1,m2,hw⟩ hn)
      obtain⟨ag,z,u,rd0,dZ,_,_,_⟩:=oc (CJ m0 m1 m2 m3)
      rw[dZ]at h1
      have h1':(cW ag z {bl:=cz (Ns i) d.eU (hs i).bl,bQ:=[],ro:=(hs i).bl.length} (get (es i) u)).map (fun v=>(v,({bl:=cz (Ns i) d.eU (hs i).bl,bQ:=[],ro:=(hs i).bl.length}:ab)))=some (out i,V'):=h1
      simp only[Zb,Zy]at h1'
      obtain⟨s',l1,e1,l2⟩:=h1'
      rw[e1]at l1
      have hnal:aO hs (i+1)=aO hs i:=by
       have:V'.bl.length=aO hs i:=by rw[←l2];exact hlen0
       have hli:aO hs i=(hs i).bl.length:=rfl
       omega
      have hidden:∀b v ii oo,get (es i) u=.ptr b v ii oo→(∃x,(hs i).bl[b]?=some x)∧∀m∈d.eU,b≠Ns i+m:=fun b v ii oo hp=>by
       rw[hp]at l1
       obtain⟨x,q1,q2⟩:=qJ l1
       obtain⟨q3,q4⟩:=l5 _ _ _ _ _ q1 q2
       exact⟨⟨x,q3⟩,q4⟩
      have l3:cW ag z (hs i) (get (es i) u)=some (out i):=lE l1 (fun b v ii oo hp=>by
       obtain⟨_,q⟩:=hidden b v ii oo hp
       exact qb _ _ (hs i).bl _ q)
      have l4:cW ag z (hs μ) (get (es i) u)=some (out i):=R.KD (show i≤μ by omega) (by omega) (fun m h1 h2=>hnb m (by omega) h2) l3 (fun m om dm n a' x h1 h2 hm hwm hopm=>by
       have him:i<m:=by
        rcases Zl i m with h|h
        ·exact h
        ·have:m=i:=by omega
         subst this
         rw[ho]at hm;cases hm
         rw[hnw]at hwm;cases hwm
       obtain⟨ag',z',u',rd,hop',hkd,hmem,hslot⟩:=oc (CJ m him h2 (by rw[cF hm];exact hwm))
       rw[dZ]at hop'
       cases hop'
       rw[cF hm]at hkd
       obtain⟨n',a2,x2,ho2,_,_,_,hdj,_⟩:=R.wr hm hkd
       rw[hopm]at ho2
       cases ho2
       have:=hdj _ hmem
       simp only[ev]at this
       rw[R.Qq (show i≤m by omega) (by omega) hslot]at this
       exact this)
      refine⟨{bl:=cz (Ns i) d.eU ((hs μ).bl.take (aO hs i)),bQ:=[],ro:=aO hs i},?_,by simp only;rw[←hsh.len,hlen0,hnal],rfl,fun b b1 b2=>by omega⟩
      rw[dZ]
      show(cW ag z {bl:=cz (Ns i) d.eU ((hs μ).bl.take (aO hs i)),bQ:=[],ro:=aO hs i} (get (es i) u)).map _=_
      rw[lE l4 (H':={bl:=cz (Ns i) d.eU ((hs μ).bl.take (aO hs i)),bQ:=[],ro:=aO hs i}) (fun b v ii oo hp=>by
       obtain⟨⟨x,q0⟩,q⟩:=hidden b v ii oo hp
       have hblt:b<aO hs i:=(Y8.1 q0).1
       simp only
       rw[qb _ _ _ _ q,ZC,if_pos hblt])]
      rfl
   obtain⟨V1',r1,r2,r3,r4⟩:=hnow
   have hlive:∀(b:Nat) x,(cz (Ns i) d.eU ((hs μ).bl.take (aO hs i)))[b]?=some x→x.live=true→β≤i∧i≤μ∧ja hs S β μ b∧(hs μ).bl[b]?=some x:=by
    intro b x hb hx
    obtain⟨u1,u2⟩:=l5 _ _ _ _ _ hb hx
    rw[ZC]at u1
    split at u1
    ·rename_i hblt
     exact⟨hβ,by omega,(j.seen R ho hS hcl (.inl hk) hβ (by omega) hblt u2).1,u1⟩
    ·cases u1
   have hVl:(cz (Ns i) d.eU ((hs μ).bl.take (aO hs i))).length=aO hs i:=by
    rw[nL,Z8];exact aap hsz
   have hr:=j.sub R (i:=i) (V:={bl:=cz (Ns i) d.eU ((hs μ).bl.take (aO hs i)),bQ:=[],ro:=aO hs i}) (by omega) hVl hlive
   rw[←lu]at r1
   refine iK hrec hopo r1 hr (oT hslots) (fun val w' hdn=>?_)
   obtain⟨ρ',F',h⟩:=j.quiet R ho hS hcl (by rw[hk];simp) hnw hVl rfl r2 r3 (fun b b1 b2=>by
    rw[r4 b b1 b2]
    symm
    refine R.JE (show i+1≤μ by omega) (by omega) (fun m h1 h2=>hnb m (by omega) h2) b2 (fun m om dm n a' x m1 m2 hm hwm hopm v jj q hp=>?_)
    have hSm:S m:=j.uK m (by omega) m2 (by rw[cF hm];exact hwm)
    obtain⟨rd,hkd⟩:=cZ.1 hwm
    obtain⟨n',a2,x2,ho2,_,_,htgt,_,_⟩:=R.wr hm hkd
    rw[hopm]at ho2
    cases ho2
    rw[hp]at htgt
    rcases R.l9.eU m (by omega) (.inr (by rw[cF hm];exact hwm)) i (by omega) hdi with⟨g,g1,g2,g3⟩|h|h
    ·exact hnb g (by omega) (by omega) g3
    ·exact bh m hSm h
    ·have hoff:=R.kq (j.yJ (by omega)) (i-β) (fun m h1 h2=>hnb m h1 (by omega)) (by omega)
     rw[show β+(i-β)=i by omega]at hoff
     have hoff':aO hs i=aO hs β+(dr pl i).kq:=hoff
     have:=h (b-aO hs i) (by rw[cF ho];omega)
     rw[cF hm]at this
     simp only[EH]at htgt
     have:=ZA.1 htgt _ this
     have hNs:Ns m=aO hs β:=by rw[R.Uc (show β≤m by omega) (by omega) (fun g g1 g2=>hnb g g1 (by omega)),j.Gy]
     simp only[ZK,aaJ]at this
     rw[hNs]at this
     omega) (.inr ⟨hβ,hμ⟩) hdn (fun d h=>hdst' d (by rw[hd];exact h))
   rw[hd]
   exact hK _ _ _ _ _ _ _ h
  ·rename_i rd hk
   obtain⟨n',p,x,V,V',hop',hwt,Ja,hsV,hfin⟩:=j.wr R ho hS hcl hk (fun d h=>hdst' d (by rw[hd];exact h))
   have hev:∀y∈[p,x],ev (dx (bT o) (es i)) y=ev (es i) y:=fun y hy=>by
    cases y with
    |c v=>rfl
    |t u=>
     have hm:u∈bT o:=by
      unfold bT
      rw[hop']
      refine aas _ ?_
      unfold bT.f
      exact List.mem_filterMap.2 ⟨.t u,hy,rfl⟩
     simp only[ev,iG]
     simp[hm]
   rw[←hev p (by simp),←hev x (by simp)]at hsV
   refine Aq hopo hop' hsV Ja (oT (fun t ht=>(hslots t ht).mono (fun _ _=>rfl) (fun _ h=>h) (Map.sN _ _))) (fun w' z1 z2 z3=>?_)
   obtain⟨μ',h⟩:=hfin w' z1 z2 (by rw[hev x (by simp)]at z3;exact z3)
   rw[hd]
   exact hK _ _ _ _ _ _ _ h
 have pass:∀(hd:op.dst=o.dst),hU d=true→out i=.iz→hs (i+1)=hs i→K (a.put op.dst undef) w:=by
  intro hd hsk ho' hh
  have hln:aO hs (i+1)=aO hs i:=by unfold aO;rw[hh]
  by_cases hk:d.kind=.gl
  ·obtain⟨hr,hfin⟩:=j.gl R ho hS hcl hk (fun d h=>hdst' d (by rw[hd];exact h))
   obtain⟨ρ',F',β',μ',γ',h⟩:=hfin undef w (by rw[ho',hh];exact dD.same hr .iz)
   rw[hd]
   exact hK _ _ _ _ _ _ _ h
  ·have hr:=j.sub R (i:=i) (V:={bl:=List.replicate (aO hs i) .dead,bQ:=[],ro:=aO hs i}) (by omega) (by simp) (fun b x hb hx=>by
    simp only[aa7]at hb
    split at hb
    ·cases hb;cases hx
    ·cases hb)
   obtain⟨ρ',F',h⟩:=j.quiet R ho hS hcl hk (by cases hw:df d with
    |false=>rfl
    |true=>obtain⟨rd,hk'⟩:=cZ.1 hw;unfold hU at hsk;rw[hk']at hsk;cases hsk) (val:=undef) (V:={bl:=List.replicate (aO hs i) .dead,bQ:=[],ro:=aO hs i}) (V':={bl:=List.replicate (aO hs i) .dead,bQ:=[],ro:=aO hs i}) (by simp) rfl (by simp[hln]) rfl (fun b h1 h2=>by omega) (.inl hln)
    (by rw[ho'];exact dD.same hr .iz) (fun d h=>hdst' d (by rw[hd];exact h))
   rw[hd]
   exact hK _ _ _ _ _ _ _ h
 have hgt:∀t b,(∃w,o.g=some (t,w))→get (es i) t=.bool b→a.tmps.getD t undef=.bool b:=by
  rintro t b ⟨w,hg⟩ hb
  have hm:t∈bT o:=by unfold bT;rw[hg];simp
  have:=hslots t hm
  rw[hb]at this
  exact eu this
 have hgs:∀t,(∃w,o.g=some (t,w))→get (es i) t=.iz→a.tmps.getD t undef=undef:=by
  rintro t ⟨w,hg⟩ hb
  have hm:t∈bT o:=by unfold bT;rw[hg];simp
  have:=hslots t hm
  rw[hb]at this
  exact wI this
 split at hco
 ·rename_i hg
  cases hco
  have hw:Region.wanted op (yielded ops a.tmps)=true:=by simp[Region.wanted,hg]
  rw[hw,if_pos rfl]
  rcases R.tr.st i _ d ho with⟨_,h⟩|⟨⟨t,w,h,_⟩,_⟩
  ·exact go rfl rfl h
  ·cases h
 ·rename_i j' want hg
  split at hco
  ·rename_i t ht
   cases hco
   rcases R.tr.st i _ d ho with⟨h,h'⟩|⟨⟨t',w',h,hb⟩,hsk,ho',hh⟩
   ·rcases h with h|⟨t',w',h,hb⟩
    ·cases h
    ·cases h
     have htv:=hgt t want ⟨want,rfl⟩ hb
     have hy:yielded ops a.tmps j'=some want:=by simp only[yielded,ht,ZV,kL htv]
     have hw:Region.wanted op (yielded ops a.tmps)=true:=by simp only[Region.wanted,hg,hy];simp
     rw[hw,if_pos rfl]
     exact go rfl rfl h'
   ·cases h
    have hw:¬Region.wanted op (yielded ops a.tmps)=true:=by
     rcases hb with hb|hb
     ·have htv:=hgt t (!want) ⟨want,rfl⟩ hb
      have hy:yielded ops a.tmps j'=some (!want):=by simp only[yielded,ht,ZV,kL htv]
      simp only[Region.wanted,hg,hy];cases want<;>simp
     ·have htv:=hgs t ⟨want,rfl⟩ hb
      simp only[Region.wanted,hg,oE ht htv];simp
    rw[if_neg hw]
    exact⟨fun _ _=>trivial,pass rfl hsk ho' hh⟩
  ·cases hco
def FC(listed:Array Bool):Nat:=listed.toList.count false
theorem yW(hrec:fx C rec)(R:fC C rec f nt ops pl es hs out Ns){B:jJ}{ro:Option Nat}{n:Nat}{Q:Exit→Act→World→Prop}
 (hQ:∀a w,Rel C nt B (es pl.length) (hs pl.length) a w→Q .normal a w) :
 ∀(fuel:Nat) (listed:Array Bool) (a:Act) (w:World),listed.size=ops.size→FC listed≤fuel→(∃ρ F β μ γ,J C nt ops pl es hs out Ns B (fun k=>listed.getD k false=true) a w ρ F β μ γ)→wpAnyIn (WF ro) n C.P .any ops Q fuel listed a w:=by
 have hlast:∀(listed:Array Bool) (a:Act) (w:World),listed.size=ops.size→(∃ρ F β μ γ,J C nt ops pl es hs out Ns B (fun k=>listed.getD k false=true) a w ρ F β μ γ)→Region.ready .any ops listed=[]→Q .normal a w:=by
  intro listed a w hsz ⟨ρ,F,β,μ,γ,j⟩ hnil
  have hall:∀k,k<pl.length→listed.getD k false=true:=by
   intro k
   induction k using Nat.strongRecOn with
   |_ k ih=>
    intro hk
    apply aaP
    intro hn
    have hks:k<listed.size:=by rw[hsz,←R.hlen];exact hk
    have hmem:k∈Region.ready .any ops listed:=by
     rw[mem_ready]
     obtain⟨o,d,ho⟩:=gF hk
     obtain⟨op,dZ,_⟩:=R.dZ k o d ho
     refine⟨by simpa[hks]using hn,op,dZ,fun e he hb=>?_⟩
     exact ih e.on (R.l9.Dq k op (by simpa using dZ) e he hb) (by have:=R.l9.Dq k op (by simpa using dZ) e he hb;omega)
    rw[hnil]at hmem
    cases hmem
  have hγ:γ=pl.length:=by
   rcases j.Nh with h|h
   ·exact h
   ·by_cases hlt:γ<pl.length
    ·exact absurd h (j.post γ (ZN j.le j.CY) (hall γ hlt))
    ·have:=j.Cv;omega
  subst hγ
  obtain⟨hμ,hG⟩:=j.full R (fun k hk _=>hall k hk)
  subst hμ
  refine hQ a w ⟨ρ,F,hG▸j.hr,fun t=>?_,hG▸j.ext,j.sz,hG▸j.Og⟩
  obtain⟨m,h1,h2⟩:=R.vG t pl.length (Zp _)
  refine(j.fq t _ m ?_).mono (fun _ _=>rfl) (fun _ h=>h) (Map.sN _ _)
  rcases h1 with⟨k,o',d',g1,g2,g3,g4,g5,g6⟩|⟨g1,g2,g3⟩
  ·exact .inl ⟨k,o',d',g1,hall k g2,g3,fun j' o2 d2 k1 k2 k3=>g4 j' o2 d2 k1 k2 (Y8.1 k2).1,g5,g6⟩
  ·exact .inr ⟨fun j o d h _=>g1 j o d h (Y8.1 h).1,g2,g3⟩
 intro fuel
 induction fuel with
 |zero=>
  intro listed a w hsz hu hj
  have hnil:Region.ready .any ops listed=[]:=by
   apply List.eq_nil_iff_forall_not_mem.2
   intro k hk
   have h1:=(mem_ready.1 hk).1
   have hks:k<listed.size:=by
    rcases Zl k listed.size with h|h
    ·exact h
    ·simp[abt h]at h1
   have:false∈listed.toList:=by
    simp[hks]at h1
    rw[←h1];simp
   have:=List.count_pos_iff.2 this
   unfold FC at hu
   omega
  exact⟨hnil,hlast listed a w hsz hj hnil⟩
 |succ fuel ih=>
  intro listed a w hsz hu hj
  refine⟨hlast listed a w hsz hj,fun i hi=>?_⟩
  obtain⟨h1,o,ho,hafter⟩:=mem_ready.1 hi
  have hks:i<listed.size:=by
   rcases Zl i listed.size with h|h
   ·exact h
   ·simp[abt h]at h1
  have hfl:listed[i]=false:=by simpa[hks]using h1
  obtain⟨ρ,F,β,μ,γ,j⟩:=hj
  refine j.step hrec R (by rw[R.hlen];omega) (by simp[hks,hfl]) (fun o' ho' e he hb=>?_) (fun a' w' ρ' F' β' μ' γ' j'=>ih _ a' w' (by simpa using hsz) ?_ ⟨ρ',F',β',μ',γ',?_⟩)
  ·have:ops.toList[i]?=some o:=by simpa using ho
   rw[this]at ho';cases ho'
   exact hafter e he hb
  ·unfold FC at hu⊢
   rw[Array.toList_setIfInBounds,List.count_set (by simpa using hks)]
   have hq:listed.toList[i]'(by simpa using hks)=false:=by simpa using hfl
   rw[hq]
   simp only[aaz,if_true]
   have:((true==false)=true)=False:=by simp
   simp only[this,if_false]
   omega
  ·have:(fun k=>(listed.setIfInBounds i true).getD k false=true)=(fun k=>listed.getD k false=true∨k=i):=by
    funext k
    by_cases e:i=k
    ·subst e;simp[hks]
    ·simp[Z0 e,Ne.symm e]
   rw[this];exact j'
theorem AZ(hmix:C.P.follows .mixedOrders=true)(hrec:fx C rec){id:Nat}{ops:Array Oper}{l:List aK}{d:List (aK×bE)}(hl:bN (ops.toList.map (ib C.P C.dz f nt ops))=some l){g:FuncId}(hd:wz C.dz g ops.toList l=some d) :
 gf C rec nt (.region id ops true) (.drawn d):=by
 intro ro n B Q R k r e H a w hro hrun hk hrel
 simp only[run]at hrun
 obtain⟨es,hs,out,Ns,h1,h2,h3,h4,h5⟩:=trace d _ _ _ hrun
 obtain⟨g1,g2⟩:=dO hl
 have hmk:∃u,d=nC C.dz g (bI ops.toList) l u∧kC (bI ops.toList) ops.toList d=true:=by
  unfold wz at hd
  dsimp only at hd
  cases h1:kC (bI ops.toList) ops.toList (nC C.dz g (bI ops.toList) l true)with
  |true=>
   rw[h1]at hd
   simp only[Zr,Zs]at hd
   exact⟨true,hd.symm,hd▸h1⟩
  |false=>
   rw[h1]at hd
   simp only[Zu]at hd
   replace hd:=aj hd
   obtain⟨h2,hd⟩:=hd
   simp only[Zs]at hd
   exact⟨false,hd.symm,hd▸h2⟩
 obtain⟨u,hdu,hok⟩:=hmk
 have hlen:d.length=l.length:=by rw[hdu];simp[nC]
 have hfst:∀(i:Nat) o dd,d[i]?=some (o,dd)→l[i]?=some o:=by
  intro i o dd hi
  rw[hdu]at hi
  unfold nC at hi
  simp only[aat,Zb,List.getElem?_zipIdx]at hi
  obtain⟨p,⟨q,hq,rfl⟩,hp⟩:=hi
  cases hp
  exact hq
 have RG:fC C rec f nt ops d es hs out Ns:=by
  refine⟨fun i o dd hi=>?_,by rw[hlen,g1];simp,sY hok,h4,by rw[h3,h2]⟩
  have hli:=hfst i o dd hi
  have hlt:=(Y8.1 hli).1
  have hops:ops.toList[i]?=some ops.toList[i]:=Zq (by omega)
  exact⟨_,by simpa using hops,g2 i _ _ hops hli⟩
 refine wpIn_region_any hmix ?_
 obtain⟨ρ,F,q1,q2,q3,q4,q5⟩:=hrel
 obtain⟨z1,z2⟩:=q1.same (w':={w with drawn:=w.drawn+1}) (Zp _) (fun _ _=>rfl)
 refine yW hrec RG (B:=B) (fun a' w' hr'=>hk .normal _ _ a' w' h5 hr') ops.size _ a _ (by simp) ?_ ?_
 ·unfold FC;simp
 ·have hS:(fun k=>(Array.replicate ops.size false).getD k false=true)=(fun _=>False):=by
   funext k
   by_cases hk:k<ops.size<;>simp[hk]
  rw[hS]
  subst h1;subst h2
  obtain⟨μ,γ,hj⟩:=J.begin RG (B:=B) (S:=fun _=>False) (a:=a) (w:={w with drawn:=w.drawn+1}) (ρ:=ρ) (F:=F) (β:=0) (abc _) (fun _ _ h=>h.elim) (fun _ h=>by omega) (fun _ _ h=>h.elim) h3 (fun h=>RG.l9.K3 h) z1 (q3.trans z2)
   (fun t s m hW=>by
    rcases hW with⟨_,_,_,_,h,_⟩|⟨_,rfl,rfl⟩
    ·exact h.elim
    ·exact(z2.er q1 q2 t).mono (fun _ _=>rfl) (fun _ h=>h) (fun b l h=>⟨l,by rw[jy (q1.jn b l h)];exact h,.inl rfl⟩))
   q4 (q5.ext z2.toExt0)
  exact⟨ρ,F,0,μ,γ,hj⟩
end
end
section
section
variable{rec:Rec}{e e' e1 e2:Env}{H H' H1 H2:ab}
def gm(rec:Rec)(o:aK)(e:Env)(H:ab):Option (SV×ab):=match o.g with
 |none=>aq rec e H o.op
 |some (t,w)=>match get e t with
  | .bool b=>bif b==w then aq rec e H o.op else some (.iz,H)
  | .iz=>some (.iz,H)
  |_=>none
def stepG(rec:Rec)(o:aK)(e:Env)(H:ab):Option (Env×ab):=(gm rec o e H).map fun r=>(cb e o.dst r.1,r.2)
theorem ug{R:Type}{o:aK}{os:List aK}{k:Env→ab→Option R}:cc rec (o::os) e H k ()=(stepG rec o e H).bind fun s=>cc rec os s.1 s.2 k ():=by
 unfold stepG gm
 cases hg:o.g with
 |none=>
  simp only[cc,hg]
  cases aq rec e H o.op<;>rfl
 |some p=>
  obtain⟨t,w⟩:=p
  simp only[cc,hg,fj,fork]
  cases get e t<;>try rfl
  rename_i b
  simp only
  cases(b==w)with
  |true=>cases aq rec e H o.op<;>rfl
  |false=>rfl
def cM(rec:Rec):List aK→Env→ab→Option (Env×ab)
 |[],e,H=>some (e,H)
 |o::os,e,H=>(stepG rec o e H).bind fun s=>cM rec os s.1 s.2
theorem mU{R:Type}{k:Env→ab→Option R}:∀(os:List aK) (e:Env) (H:ab),cc rec os e H k ()=(cM rec os e H).bind fun s=>k s.1 s.2
 |[],e,H=>rfl
 |o::os,e,H=>by
  rw[ug,cM]
  cases stepG rec o e H with
  |none=>rfl
  |some s=>exact mU os s.1 s.2
theorem de:∀(a b:List aK) (e:Env) (H:ab),cM rec (a++b) e H=(cM rec a e H).bind fun s=>cM rec b s.1 s.2
 |[],b,e,H=>rfl
 |o::a,b,e,H=>by
  rw[Z5,cM,cM]
  cases stepG rec o e H with
  |none=>rfl
  |some s=>exact de a b s.1 s.2
def uo(e e':Env):Prop:=∀t,get e t=get e' t
theorem uo.bind(h:uo e e')(d:Option Nat)(v:SV):uo (cb e d v) (cb e' d v):=by
 intro t
 cases d with
 |none=>exact h t
 |some d=>
  simp only[cb,get]
  rw[h t]
theorem fY{o:aK}(h:∀t∈bT o,get e t=get e' t):gm rec o e H=gm rec o e' H:=by
 have h1:=oz (rec:=rec) (H:=H) (o:=o) (e:=e) (e':=e') h
 unfold gm
 cases hg:o.g with
 |none=>exact h1
 |some p=>
  obtain⟨t,w⟩:=p
  have ht:get e t=get e' t:=h t (by unfold bT;rw[hg];simp)
  simp only[ht,h1]
theorem rM{o:aK}(h:uo e e')(hs:stepG rec o e' H=some (e2,H2)):∃e1,stepG rec o e H=some (e1,H2)∧uo e1 e2:=by
 unfold stepG at hs⊢
 rw[fY (e:=e) (e':=e') (fun t _=>h t)]
 obtain⟨r,h1,h2⟩:=Zb.1 hs
 cases h2
 exact⟨_,by rw[h1];rfl,h.bind _ _⟩
theorem pD:∀(l:List aK) {e e':Env} {H:ab},uo e e'→cM rec l e' H=some (e2,H2)→∃e1,cM rec l e H=some (e1,H2)∧uo e1 e2
 |[],e,e',H,h,hs=>by
  simp only[cM,Zs,Zy]at hs
  obtain⟨rfl,rfl⟩:=hs
  exact⟨e,rfl,h⟩
 |o::l,e,e',H,h,hs=>by
  rw[cM]at hs
  obtain⟨s,h1,h2⟩:=Zd.1 hs
  obtain⟨e3,h3,h4⟩:=rM h h1
  obtain⟨e4,h5,h6⟩:=pD l h4 h2
  exact⟨e4,by rw[cM,h3];exact h5,h6⟩
theorem jA{o:aK}{v:SV}(hp:fP o.op=true)(h:gm rec o e H=some (v,H')):H'=H∧∀H2,gm rec o e H2=some (v,H2):=by
 unfold gm at h⊢
 split at h
 ·exact mV hp h
 ·rename_i t w hg
  split at h
  ·rename_i b hb
   cases hbw:(b==w)with
   |true=>rw[hbw]at h;exact mV hp h
   |false=>rw[hbw]at h;cases h;exact⟨rfl,fun _=>rfl⟩
  ·cases h;exact⟨rfl,fun _=>rfl⟩
  ·cases h
theorem lJ{a b:aK}(h:eQ a b=true):(∀d,a.dst=some d→d∉bT b∧b.dst≠some d)∧(∀d,b.dst=some d→d∉bT a):=by
 unfold eQ at h
 simp only[ZK,aaw]at h
 refine⟨fun d hd=>?_,fun d hd=>?_⟩
 ·have:=h.1
  rw[hd]at this
  simp only[aaw,aaJ]at this
  exact⟨by simpa using this.1,this.2⟩
 ·have:=h.2
  rw[hd]at this
  simpa using this
theorem ig{d:Option Nat}{v:SV}{t:Nat}(h:∀x,d=some x→x≠t):get (cb e d v) t=get e t:=by
 cases d with
 |none=>rfl
 |some x=>
  have:(t==x)=false:=by simpa using(h x rfl).symm
  simp only[cb,get,this,Zu]
theorem DX{x y:aK}(hi:eQ x y=true∨eQ y x=true)(hp:fP x.op=true∨fP y.op=true)(h1:stepG rec y e H=some (e1,H1))(h2:stepG rec x e1 H1=some (e2,H2)) :
 ∃e3 H3 e4,stepG rec x e H=some (e3,H3)∧stepG rec y e3 H3=some (e4,H2)∧uo e4 e2:=by
 have hxy:(∀d,x.dst=some d→d∉bT y∧y.dst≠some d)∧(∀d,y.dst=some d→d∉bT x∧x.dst≠some d):=by
  rcases hi with hi|hi
  ·obtain⟨a,b⟩:=lJ hi
   exact⟨a,fun d hd=>⟨b d hd,fun hx=>(a d hx).2 hd⟩⟩
  ·obtain⟨a,b⟩:=lJ hi
   exact⟨fun d hd=>⟨b d hd,fun hy=>(a d hy).2 hd⟩,a⟩
 obtain⟨hx,hy⟩:=hxy
 unfold stepG at h1 h2
 obtain⟨⟨vy,K1⟩,k1,k2⟩:=Zb.1 h1
 obtain⟨⟨vx,K2⟩,k3,k4⟩:=Zb.1 h2
 simp only[Zy]at k2 k4
 obtain⟨rfl,rfl⟩:=k2
 obtain⟨rfl,rfl⟩:=k4
 have gx:∀v t,t∈bT x→get (cb e y.dst v) t=get e t:=fun v t ht=>ig (fun d hd hdt=>(hy d hd).1 (hdt▸ht))
 have gy:∀v t,t∈bT y→get (cb e x.dst v) t=get e t:=fun v t ht=>ig (fun d hd hdt=>(hx d hd).1 (hdt▸ht))
 rw[fY (e':=e) (gx vy)]at k3
 have heq:uo (cb (cb e x.dst vx) y.dst vy) (cb (cb e y.dst vy) x.dst vx):=by
  intro t
  cases hdx:x.dst with
  |none=>rfl
  |some a=>
   cases hdy:y.dst with
   |none=>rfl
   |some b=>
    have hab:a≠b:=fun h=>(hx a hdx).2 (by rw[hdy,h])
    simp only[cb,get]
    by_cases ha:(t==a)=true
    ·by_cases hb:(t==b)=true
     ·exfalso;apply hab
      rw[aah]at ha hb;omega
     ·rw[aa6]at hb;rw[ha,hb];rfl
    ·rw[aa6]at ha;rw[ha];rfl
 rcases hp with hp|hp
 ·obtain⟨rfl,k5⟩:=jA hp k3
  refine⟨_,H,_,by unfold stepG;rw[k5 H];rfl,?_,heq⟩
  unfold stepG
  rw[fY (e':=e) (gy vx),k1];rfl
 ·obtain⟨rfl,k5⟩:=jA hp k1
  refine⟨_,K2,_,by unfold stepG;rw[k3];rfl,?_,heq⟩
  unfold stepG
  rw[fY (e':=e) (gy vx),k5 K2];rfl
theorem z8{x:aK}{b:List aK}:∀(a:List aK) {e:Env} {H:ab},(∀y∈a,(eQ x y=true∨eQ y x=true)∧(fP x.op=true∨fP y.op=true))→cM rec (a++x::b) e H=some (e2,H2)→
 ∃e1,cM rec (x::(a++b)) e H=some (e1,H2)∧uo e1 e2
 |[],e,H,_,h=>⟨_,h,fun _=>rfl⟩
 |y::a,e,H,hi,h=>by
  rw[Z5,cM]at h
  obtain⟨s,h1,h2⟩:=Zd.1 h
  obtain⟨e3,h3,h4⟩:=z8 a (fun z hz=>hi z (ZS _ hz)) h2
  rw[cM]at h3
  obtain⟨s2,h5,h6⟩:=Zd.1 h3
  obtain⟨c1,c2⟩:=hi y (ZI ..)
  obtain⟨f1,K1,f2,g1,g2,g3⟩:=DX (e:=e) (H:=H) c1 c2 (by rw[h1]) (by rw[h5])
  obtain⟨f3,g4,g5⟩:=pD (a++b) g3 h6
  refine⟨f3,?_,fun t=>(g5 t).trans (h4 t)⟩
  rw[cM,g1]
  show cM rec (y::(a++b)) f1 K1=_
  rw[cM,g2]
  exact g4
end
section
variable{rec:Rec}{l:List aK}{bs:List Nat}
def dep(bs:List Nat)(i j:Nat):Prop:=(bs.getD j 0).testBit i=true
theorem cH(l:List aK):∀a b:List Nat,cC l (a++b)=cC l a++cC l b
 |[],b=>rfl
 |i::a,b=>by
  simp only[Z5,cC,cH l a b]
  cases l[i]?<;>rfl
theorem eS{i:Nat}{o:aK}{r:List Nat}(h:l[i]?=some o):cC l (i::r)=o::cC l r:=by
 rw[cC,h];rfl
theorem fR{o:aK}:∀{a:List Nat},o∈cC l a→∃i∈a,l[i]?=some o
 |[],h=>by simp[cC]at h
 |i::a,h=>by
  simp only[cC]at h
  cases hl:l[i]? with
  |none=>
   rw[hl]at h
   obtain⟨j,h1,h2⟩:=fR h
   exact⟨j,ZS _ h1,h2⟩
  |some o'=>
   rw[hl]at h
   simp only[xR,ZU]at h
   rcases h with rfl|h
   ·exact⟨i,ZI ..,hl⟩
   ·obtain⟨j,h1,h2⟩:=fR h
    exact⟨j,ZS _ h1,h2⟩
theorem reduce(hind:∀i j a b,l[i]?=some a→l[j]?=some b→i≠j→dep bs i j∨dep bs j i∨eQ a b=true∨eQ b a=true) :
 ∀(τ σ:List Nat),(∀i∈τ,i<l.length)→τ.Nodup→τ.Perm σ→τ.Pairwise (fun j i=>¬dep bs i j)→σ.Pairwise (fun j i=>¬dep bs i j)→τ.filter (ir l)=σ.filter (ir l)→
  ∀{e e' e2:Env} {H H2:ab},uo e e'→cM rec (cC l σ) e' H=some (e2,H2)→∃e1,cM rec (cC l τ) e H=some (e1,H2)∧uo e1 e2
 |[],σ,_,_,hp,_,_,_,e,e',e2,H,H2,he,h=>by
  have:σ=[]:=hp.nil_eq.symm
  subst this
  exact pD _ he h
 |x::τ,σ,hlt,hnd,hp,h1,h2,hf,e,e',e2,H,H2,he,h=>by
  have hx:x∈σ:=hp.mem_iff.1 (ZI ..)
  obtain⟨a,b,rfl⟩:=List.append_of_mem hx
  obtain⟨ox,hox⟩:∃ox,l[x]?=some ox:=⟨_,Zq (hlt x (ZI ..))⟩
  have hnd2:(a++x::b).Nodup:=hp.nodup_iff.1 hnd
  have hxa:x∉a:=by
   intro hxa
   rw[aaH]at hnd2
   exact hnd2.2.2 x hxa x (ZI ..) rfl
  have hpure:ir l x=true→∀y∈a,ir l y=false:=by
   intro hn y hy
   rw[aa8 hn,ZB,aa8 hn]at hf
   cases ha:a.filter (ir l)with
   |nil=>
    cases hny:ir l y with
    |false=>rfl
    |true=>
     have:y∈a.filter (ir l):=aaA.2 ⟨hy,hny⟩
     rw[ha]at this;cases this
   |cons z r=>
    rw[ha]at hf
    simp only[Z5,aca]at hf
    have hz:z∈a.filter (ir l):=by rw[ha];exact ZI ..
    exact absurd (hf.1▸(aaA.1 hz).1) hxa
  have hτ:τ.Perm (a++b):=(hp.trans List.perm_middle).cons_inv
  rw[cH,eS hox]at h
  obtain⟨e3,g1,g2⟩:=z8 (cC l a) (fun o ho=>by
   obtain⟨y,hy,hoy⟩:=fR ho
   have hne:y≠x:=fun h=>hxa (h▸hy)
   have hyt:y∈τ:=hτ.mem_iff.2 (aas _ hy)
   have q1:¬dep bs y x:=(aag.1 h1).1 y hyt
   have q2:¬dep bs x y:=by
    rw[aaG]at h2
    exact h2.2.2 y hy x (ZI ..)
   refine⟨?_,?_⟩
   ·rcases hind x y ox o hox hoy (Ne.symm hne)with h|h|h|h
    ·exact absurd h q2
    ·exact absurd h q1
    ·exact .inl h
    ·exact .inr h
   ·cases hnx:ir l x with
    |false=>
     left
     unfold ir at hnx;rw[hox]at hnx;simpa using hnx
    |true=>
     right
     have:=hpure hnx y hy
     unfold ir at this;rw[hoy]at this;simpa using this) h
  rw[←cH]at g1
  rw[eS hox,cM]
  rw[cM]at g1
  obtain⟨s,k1,k2⟩:=Zd.1 g1
  obtain⟨e4,k3,k4⟩:=rM he (show stepG rec ox e' H=some (s.1,s.2)from k1)
  have hf2:τ.filter (ir l)=(a++b).filter (ir l):=by
   cases hnx:ir l x with
   |false=>
    rw[List.filter_cons_of_neg (by simp[hnx]),ZB,List.filter_cons_of_neg (by simp[hnx]),←ZB]at hf
    exact hf
   |true=>
    have ha:a.filter (ir l)=[]:=by
     apply List.filter_eq_nil_iff.2
     intro y hy
     rw[hpure hnx y hy];simp
    rw[aa8 hnx,ZB,aa8 hnx,ha]at hf
    simp only[ZZ,aca,true_and]at hf
    rw[ZB,ha,ZZ];exact hf
  have hsub:(a++b).Sublist (a++x::b):=List.Sublist.append_left (List.sublist_cons_self x b) a
  obtain⟨e5,k5,k6⟩:=reduce hind τ (a++b) (fun i hi=>hlt i (ZS _ hi)) (aaX.1 hnd).2 hτ (aag.1 h1).2 (h2.sublist hsub) hf2 k4 k2
  exact⟨e5,by rw[k3];exact k5,fun t=>(k6 t).trans (g2 t)⟩
theorem qj:∀(n:Nat) (rem τ:List Nat),τ.length=n→τ.Perm rem→τ.Nodup→τ.Pairwise (fun j i=>¬dep bs i j)→τ∈lT bs n rem
 |0,rem,τ,hl,_,_,_=>by
  rw[List.length_eq_zero_iff.1 hl];simp[lT]
 |n+1,rem,[],hl,_,_,_=>by simp at hl
 |n+1,rem,m::τ,hl,hp,hnd,hc=>by
  simp only[lT,List.mem_flatMap]
  refine⟨m,hp.mem_iff.1 (ZI ..),?_⟩
  have hall:rem.all (fun k=>k==m||!(bs.getD m 0).testBit k)=true:=by
   apply ZA.2
   intro k hk
   have hk2:=hp.mem_iff.2 hk
   rcases ZU.1 hk2 with rfl|hk3
   ·simp
   ·have:=(aag.1 hc).1 k hk3
    unfold dep at this
    rw[aa6]at this
    rw[this];simp
  rw[hall]
  simp only[Zr]
  apply Z3.2
  refine⟨τ,qj n (rem.erase m) τ (by simpa using hl) ?_ (aaX.1 hnd).2 (aag.1 hc).2,rfl⟩
  have:=hp.erase m
  simpa using this
theorem pc{n:Nat}:∀(τ done:List Nat),pE bs n done τ=true→done.Nodup→(∀i∈done,i<n)→(done.reverse++τ).Nodup∧(∀i∈τ,i<n)∧(done.reverse++τ).length=n∧
 τ.Pairwise (fun j i=>¬((i<n)∧dep bs i j))
 |[],done,h,hnd,hlt=>by
  simp only[pE,Ze]at h
  exact⟨by simpa using(List.reverse_perm done).nodup_iff.2 hnd,by simp,by simpa using h,List.Pairwise.nil⟩
 |i::r,done,h,hnd,hlt=>by
  simp only[pE,Zh,Ze,ZK]at h
  obtain⟨⟨⟨h1,h2⟩,h3⟩,h4⟩:=h
  have h2':i∉done:=by simpa using h2
  obtain⟨g1,g2,g3,g4⟩:=pc r (i::done) h4 (aaX.2 ⟨h2',hnd⟩) (fun j hj=>by
   rcases ZU.1 hj with rfl|hj
   ·exact h1
   ·exact hlt j hj)
  rw[abV,Za]at g1 g3
  refine⟨g1,fun j hj=>?_,g3,aag.2 ⟨fun j hj hd=>?_,g4⟩⟩
  ·rcases ZU.1 hj with rfl|hj
   ·exact h1
   ·exact g2 j hj
  ·have h5:=ZA.1 h3 j (ZF.2 hd.1)
   have hdj:(bs.getD i 0).testBit j=true:=hd.2
   rw[hdj]at h5
   simp only[aai,aay,List.contains_eq_mem,Ze]at h5
   rw[aaH]at g1
   exact g1.2.2 j (List.mem_reverse.2 h5) j (by simp[hj]) rfl
end
section
variable{rec:Rec}
theorem vk{o:aK}{e e1:Env}{H H1:ab}(h:stepG rec o e H=some (e1,H1)){t:Nat}(ht:o.dst≠some t):get e1 t=get e t:=by
 unfold stepG at h
 obtain⟨r,h1,h2⟩:=Zb.1 h
 cases h2
 exact ig (fun x hx hxt=>ht (hxt▸hx))
theorem fI:∀(l:List aK) {e e1:Env} {H H1:ab},cM rec l e H=some (e1,H1)→∀t,(∀o∈l,o.dst≠some t)→get e1 t=get e t
 |[],e,e1,H,H1,h,t,_=>by simp only[cM,Zs,Zy]at h;rw[h.1]
 |o::l,e,e1,H,H1,h,t,ht=>by
  rw[cM]at h
  obtain⟨s,h1,h2⟩:=Zd.1 h
  rw[fI l h2 t (fun o' ho=>ht o' (ZS _ ho)),vk (show stepG rec o e H=some (s.1,s.2)from h1) (ht o (ZI ..))]
theorem lS:∀(l:List aK) (e e0:Env) (t:Nat),get (eF l e e0) t=get e t∨((∀o∈l,o.dst≠some t)∧get (eF l e e0) t=get e0 t)
 |[],e,e0,t=>.inr ⟨by simp,rfl⟩
 |⟨some d,op,g⟩::l,e,e0,t=>by
  simp only[eF,get]
  by_cases h:t=d
  ·subst h
   left;simp
  ·have hb:(t==d)=false:=by simpa using h
   rw[hb]
   simp only[Zu]
   rcases lS l e e0 t with h1|⟨h1,h2⟩
   ·exact .inl h1
   ·refine .inr ⟨fun o ho=>?_,h2⟩
    rcases ZU.1 ho with rfl|ho
    ·simp only[ne_eq,Zs];exact fun h'=>h h'.symm
    ·exact h1 o ho
 |⟨none,op,g⟩::l,e,e0,t=>by
  simp only[eF]
  rcases lS l e e0 t with h1|⟨h1,h2⟩
  ·exact .inl h1
  ·refine .inr ⟨fun o ho=>?_,h2⟩
   rcases ZU.1 ho with rfl|ho
   ·simp
   ·exact h1 o ho
theorem qt{l:List aK}{σ:List Nat}{e e1:Env}{H H1:ab}(h:cM rec (cC l σ) e H=some (e1,H1)):uo (eF l e1 e) e1:=by
 intro t
 rcases lS l e1 e t with h1|⟨h1,h2⟩
 ·exact h1
 ·rw[h2]
  exact(fI _ h t (fun o ho=>by
   obtain⟨i,_,hi⟩:=fR ho
   exact h1 o (Zj hi))).symm
theorem qN{A:Type}:∀(l:List (Option A)) {s:A},iU l=some s→∀x∈l,x=some s
 |[],s,h=>by simp[iU]at h
 |[a],s,h=>by intro x hx;simp only[aab]at hx;subst hx;exact h
 |a::b::r,s,h=>by
  rw[iU]at h
  split at h
  ·rename_i hab
   intro x hx
   have ih:=qN (b::r) h
   rcases ZU.1 hx with rfl|hx
   ·rw[hab];exact ih b (ZI ..)
   ·exact ih x hx
  ·cases h
end
theorem cQ:∀(a b:List Nat),a.Nodup→(∀x∈a,x∈b)→a.length≤b.length
 |[],b,_,_=>abc _
 |x::a,b,hn,hs=>by
  have hx:=hs x (ZI ..)
  have h1:=cQ a (b.erase x) (aaX.1 hn).2 (fun y hy=>(List.mem_erase_of_ne (fun h:y=x=>(aaX.1 hn).1 (by rw[←h];exact hy))).2 (hs y (ZS _ hy)))
  rw[List.length_erase_of_mem hx]at h1
  have:=List.length_pos_of_mem hx
  simp only[Zw]
  omega
theorem lK:∀(a b:List Nat),a.Nodup→(∀x∈a,x∈b)→a.length=b.length→a.Perm b
 |[],b,_,_,hl=>by rw[List.length_eq_zero_iff.1 hl.symm]
 |x::a,b,hn,hs,hl=>by
  have hx:=hs x (ZI ..)
  have:=List.length_pos_of_mem hx
  have h1:=lK a (b.erase x) (aaX.1 hn).2 (fun y hy=>(List.mem_erase_of_ne (fun h:y=x=>(aaX.1 hn).1 (by rw[←h];exact hy))).2 (hs y (ZS _ hy))) (by
   rw[List.length_erase_of_mem hx];simp only[Zw]at hl;omega)
  exact(h1.cons x).trans (List.perm_cons_erase hx).symm
section
variable{rec:Rec}{l:List aK}{bs:List Nat}{e:Env}{H:ab}
theorem wj{o:aK}{e:Env}{H H':ab}{v:SV}(hp:Dg o.op=true)(h:gm rec o e H=some (v,H')):H'=H:=by
 have key:aq rec e H o.op=some (v,H')→H'=H:=by
  intro h
  cases dZ:o.op<;>rw[dZ]at hp h<;>try (exfalso;simp only[Dg,ZY]at hp;done)
  all_goals simp only[aq,b9]at h
  all_goals first
   |(obtain⟨_,_,h2⟩:=Zb.1 h;cases h2;rfl)
   |(replace h:=(aj h).2;obtain⟨_,_,h2⟩:=Zb.1 h;cases h2;rfl)
   |(replace h:=(aj h).2;obtain⟨_,_,h2⟩:=Zd.1 h;obtain⟨_,_,h3⟩:=Zb.1 h2;cases h3;rfl)
 unfold gm at h
 split at h
 ·exact key h
 ·rename_i t w hg
  split at h
  ·rename_i b hb
   cases hbw:(b==w)with
   |true=>rw[hbw]at h;exact key h
   |false=>rw[hbw]at h;cases h;rfl
  ·cases h;rfl
  ·cases h
theorem kP(p:Nat→Bool)(n:Nat):((List.range n).filter p).Pairwise (· < ·):=List.Pairwise.filter _ List.pairwise_lt_range
def dF(W a:List Nat):Nat:=(a.filter W.contains).length
theorem mn(W a b:List Nat):dF W (a++b)=dF W a+dF W b:=by simp[dF]
section
variable{W:List Nat}(hsort:W.Pairwise (· < ·))(hchain:∀w∈W,∀w'∈W,w<w'→dep bs w w')
include hsort hchain
theorem dg{p q x y:Nat}(hx:W[p]?=some x)(hy:W[q]?=some y)(h:p<q):x<y:=by
 obtain⟨h1,rfl⟩:=Y8.1 hx
 obtain⟨h2,rfl⟩:=Y8.1 hy
 exact abG.1 hsort p q h1 h2 h
theorem mQ{a b:List Nat}(hnd:(a++b).Nodup)(hall:∀w∈W,w∈a++b)(hp:(a++b).Pairwise (fun j i=>¬dep bs i j)){w:Nat}(hw:w∈W):w∈a↔w∈W.take (dF W a):=by
 have hnd1:=(aaH.1 hnd).1
 have clo:∀w∈W,∀w'∈W,w'<w→w∈a→w'∈a:=by
  intro w hw w' hw' hlt ha
  rcases Z1.1 (hall w' hw')with h|h
  ·exact h
  ·exact absurd (hchain w' hw' w hw hlt) ((aaG.1 hp).2.2 w ha w' h)
 obtain⟨p,hpw⟩:=ZH hw
 have hpl:=(Y8.1 hpw).1
 constructor
 ·intro ha
  have hsub:∀x∈W.take (p+1),x∈a.filter W.contains:=by
   intro x hx
   obtain⟨q,hq⟩:=ZH hx
   rw[ZC]at hq
   split at hq
   ·rename_i hlt
    have hxW:=Zj hq
    refine aaA.2 ⟨?_,by simpa using hxW⟩
    rcases Zl q p with h|h
    ·exact clo w hw x hxW (dg hsort hchain hq hpw h) ha
    ·obtain rfl:q=p:=by omega
     rw[hpw]at hq;cases hq;exact ha
   ·cases hq
  have h1:=cQ (W.take (p+1)) (a.filter W.contains) ((hsort.imp (fun h=>aaS h)).sublist (List.take_sublist _ _)) hsub
  rw[Z8]at h1
  have:p<dF W a:=by unfold dF;omega
  refine Zj (i:=p) ?_
  rw[ZC,if_pos this,hpw]
 ·intro ht
  obtain⟨q,hq⟩:=ZH ht
  rw[ZC]at hq
  split at hq
  ·rename_i hlt
   have hqp:q=p:=by
    rcases aaL q p with h|h|h
    ·exact absurd (dg hsort hchain hq hpw h) (abp _)
    ·exact h
    ·exact absurd (dg hsort hchain hpw hq h) (abp _)
   subst hqp
   apply aaP
   intro hna
   have hsub:∀x∈a.filter W.contains,x∈W.take q:=by
    intro x hx
    obtain⟨hxa,hxW⟩:=aaA.1 hx
    have hxW:x∈W:=by simpa using hxW
    obtain⟨r,hr⟩:=ZH hxW
    have hrq:r<q:=by
     rcases aaL r q with h|h|h
     ·exact h
     ·subst h;rw[hr]at hq;cases hq;exact absurd hxa hna
     ·exact absurd (clo x hxW w hw (dg hsort hchain hpw hr h) hxa) hna
    refine Zj (i:=r) ?_
    rw[ZC,if_pos hrq,hr]
   have h1:=cQ (a.filter W.contains) (W.take q) (hnd1.filter _) hsub
   rw[Z8]at h1
   unfold dF at hlt
   omega
  ·cases hq
theorem wk{a b:List Nat}{i:Nat}(hnd:(a++i::b).Nodup)(hall:∀w∈W,w∈a++i::b)(hp:(a++i::b).Pairwise (fun j i=>¬dep bs i j))(hi:i∈W):W[dF W a]?=some i:=by
 obtain⟨p,hpw⟩:=ZH hi
 have hpl:=(Y8.1 hpw).1
 have hia:i∉a:=fun h=>(aaH.1 hnd).2.2 i h i (ZI ..) rfl
 have h1:¬p<dF W a:=fun h=>hia ((mQ hsort hchain hnd hall hp hi).2 (Zj (i:=p) (by rw[ZC,if_pos h,hpw])))
 rcases Zl (dF W a) p with h|h
 ·obtain⟨w,hw⟩:∃w,W[dF W a]?=some w:=⟨_,Zq (by omega)⟩
  have hwW:=Zj hw
  have hd:=hchain w hwW i hi (dg hsort hchain hw hpw h)
  have hwa:w∈a:=by
   rcases Z1.1 (hall w hwW)with h2|h2
   ·exact h2
   ·rcases ZU.1 h2 with rfl|h2
    ·exact absurd (dg hsort hchain hw hpw h) (abp _)
    ·have:=(aaG.1 hp).2.1
     exact absurd hd ((aag.1 this).1 w h2)
  have h3:=(mQ hsort hchain hnd hall hp hwW).1 hwa
  obtain⟨q,hq⟩:=ZH h3
  rw[ZC]at hq
  split at hq
  ·rename_i hlt
   exact absurd (dg hsort hchain hq hw hlt) (abp _)
  ·cases hq
 ·rw[show dF W a=p by omega];exact hpw
end
def jF(rec:Rec)(l:List aK)(W:List Nat)(S:Env)(H:ab):Nat→ab
 |0=>H
 |j+1=>match(W[j]?).bind (l[·]?)with
  |some o=>match gm rec o S (jF rec l W S H j)with
   |some r=>r.2
   |none=>jF rec l W S H j
  |none=>jF rec l W S H j
theorem wW{os:List (List Nat)}{W:List Nat}(hW:W=Eb l)
 (hdst:∀(i k:Nat) (a b:aK) (d:Nat),l[k]?=some a→l[i]?=some b→k≤i→b.dst=some d→d∉bT a∧(k≠i→a.dst≠some d))
 (hind:∀i j a b,i<j→l[i]?=some a→l[j]?=some b→dep bs i j∨eQ a b=true)
 (hchain:∀w∈W,∀w'∈W,w<w'→dep bs w w') (hne:os≠[])
 (hst:∀r o j,l[r]?=some o→Dg o.op=true→j≤W.length→(∀w∈W.take j,¬dep bs r w)→(∀w∈W.drop j,¬dep bs w r)→∃σ∈os,si W σ r=j)
 (hlin:∀σ∈os,σ.Nodup∧(∀i∈σ,i<l.length)∧σ.length=l.length∧σ.Pairwise (fun j i=>¬dep bs i j))
 {S:Env} {H2:ab} (hrun:∀σ∈os,∃e2,cM rec (cC l σ) e H=some (e2,H2)∧uo S e2) :
 ∀τ:List Nat,τ.Nodup→(∀i∈τ,i<l.length)→τ.length=l.length→τ.Pairwise (fun j i=>¬dep bs i j)→∃e1,cM rec (cC l τ) e H=some (e1,H2)∧uo S e1:=by
 have hsort:W.Pairwise (· < ·):=by rw[hW];exact kP _ _
 have hWl:∀w∈W,w<l.length:=fun w hw=>by rw[hW]at hw;exact ZF.1 (aaA.1 hw).1
 have hfull:∀τ:List Nat,τ.Nodup→(∀i∈τ,i<l.length)→τ.length=l.length→∀i,i<l.length→i∈τ:=by
  intro τ h1 h2 h3 i hi
  exact(lK τ (List.range l.length) h1 (fun j hj=>ZF.2 (h2 j hj)) (by simp[h3])).mem_iff.2 (ZF.2 hi)
 have hkind:∀(i:Nat) (o:aK),l[i]?=some o→fP o.op=true∨Dg o.op=true∨i∈W:=by
  intro i o ho
  cases h1:fP o.op with
  |true=>exact .inl rfl
  |false=>
   cases h2:Dg o.op with
   |true=>exact .inr (.inl rfl)
   |false=>
    refine .inr (.inr ?_)
    rw[hW]
    refine aaA.2 ⟨ZF.2 (Y8.1 ho).1,?_⟩
    rw[ho];simp[h1,h2]
 have hWno:∀(i:Nat) (o:aK),l[i]?=some o→i∈W→fP o.op=false∧Dg o.op=false:=by
  intro i o ho hi
  rw[hW]at hi
  have:=(aaA.1 hi).2
  rw[ho]at this
  simpa using this
 have hdep:∀(i k:Nat) (a b:aK) (d:Nat),l[k]?=some a→l[i]?=some b→a.dst=some d→d∈bT b→dep bs k i:=by
  intro i k a b d ha hb hd ht
  rcases Zl k i with h|h
  ·rcases hind k i a b h ha hb with h2|h2
   ·exact h2
   ·exact absurd ht ((lJ h2).1 d hd).1
  ·exact absurd ht (hdst k i b a d hb ha h hd).1
 have hS:∀t,(∀(i:Nat) (o:aK),l[i]?=some o→o.dst≠some t)→get S t=get e t:=by
  intro t ht
  obtain⟨σ,hσ⟩:=abj os hne
  obtain⟨e2,h1,h2⟩:=hrun σ hσ
  rw[h2 t]
  exact fI _ h1 t (fun o ho=>by obtain⟨i,_,hi⟩:=fR ho;exact ht i o hi)
 have hin:∀(a b:List Nat) (i:Nat) (o:aK) (ea:Env) (Ha:ab),(∀k,k<l.length→k∈a++i::b)→(a++i::b).Pairwise (fun j i=>¬dep bs i j)→l[i]?=some o→cM rec (cC l a) e H=some (ea,Ha)→
  (∀k∈a,∀(ok:aK) (d:Nat),l[k]?=some ok→ok.dst=some d→get ea d=get S d)→∀hh,gm rec o ea hh=gm rec o S hh:=by
  intro a b i o ea Ha hall hp ho hra hva hh
  refine fY (fun t ht=>?_)
  by_cases hx:∃(k:Nat) (ok:aK),l[k]?=some ok∧ok.dst=some t
  ·obtain⟨k,ok,hk,hkd⟩:=hx
   have hd:=hdep i k ok o t hk ho hkd ht
   rcases Z1.1 (hall k (Y8.1 hk).1)with h|h
   ·exact hva k h ok t hk hkd
   ·rcases ZU.1 h with rfl|h
    ·exact absurd ht (hdst k k o ok t ho hk (Zp _) hkd).1
    ·have:=(aaG.1 hp).2.1
     exact absurd hd ((aag.1 this).1 k h)
  ·have h1:∀(j:Nat) (oj:aK),l[j]?=some oj→oj.dst≠some t:=fun j oj hj hjd=>hx ⟨j,oj,hj,hjd⟩
   rw[hS t h1]
   exact fI _ hra t (fun o' ho'=>by obtain⟨j,_,hj⟩:=fR ho';exact h1 j o' hj)
 have hval:∀σ∈os,∀a b ea Ha,σ=a++b→cM rec (cC l a) e H=some (ea,Ha)→∀k∈a,∀(ok:aK) (d:Nat),l[k]?=some ok→ok.dst=some d→get ea d=get S d:=by
  intro σ hσ a b ea Ha hab hra k hk ok d hok hd
  obtain⟨e2,h1,h2⟩:=hrun σ hσ
  rw[hab,cH,de,hra]at h1
  simp only[ZV]at h1
  rw[h2 d,fI _ h1 d (fun o ho hod=>?_)]
  obtain⟨j,hj,hoj⟩:=fR ho
  have hnd:=(hlin σ hσ).1
  rw[hab]at hnd
  have hne:k≠j:=fun h=>(aaH.1 hnd).2.2 k hk j hj h
  rcases Zl k j with h|h
  ·exact(hdst j k ok o d hok hoj (Nat.le_of_lt h) hod).2 hne hd
  ·exact(hdst k j o ok d hoj hok h hd).2 (Ne.symm hne) hod
 have hmemW:∀σ∈os,∀w∈W,w∈σ:=fun σ hσ w hw=>hfull σ (hlin σ hσ).1 (hlin σ hσ).2.1 (hlin σ hσ).2.2.1 w (hWl w hw)
 have hheap:∀σ∈os,∀(n:Nat) (a b:List Nat) ea Ha,a.length=n→σ=a++b→cM rec (cC l a) e H=some (ea,Ha)→Ha=jF rec l W S H (dF W a):=by
  intro σ hσ n
  induction n with
  |zero=>
   intro a b ea Ha hn hab hra
   cases aan hn
   simp only[cC,cM,Zs,Zy]at hra
   rw[←hra.2];rfl
  |succ n ih=>
   intro a' b ea Ha hn hab hra
   obtain⟨a,i,rfl⟩:∃a i,a'=a++[i]:=by
    rcases ab2 a' with rfl|⟨a,i,h⟩
    ·cases hn
    ·exact⟨a,i,by simpa using h⟩
   have hn':a.length=n:=by simpa using hn
   have hil:i<l.length:=(hlin σ hσ).2.1 i (by rw[hab];simp)
   obtain⟨o,ho⟩:∃o,l[i]?=some o:=⟨_,Zq hil⟩
   rw[cH,de]at hra
   obtain⟨⟨e3,H3⟩,h3,h4⟩:=Zd.1 hra
   rw[eS ho,cM]at h4
   obtain⟨⟨e5,H5⟩,h5,h6⟩:=Zd.1 h4
   simp only[cC,cM,Zs,Zy]at h6
   obtain⟨rfl,rfl⟩:=h6
   have hab2:σ=a++i::b:=by rw[hab];simp
   have hH3:=ih a (i::b) e3 H3 hn' hab2 h3
   unfold stepG at h5
   obtain⟨⟨v,H6⟩,h7,h8⟩:=Zb.1 h5
   simp only[Zy]at h8
   obtain⟨_,rfl⟩:=h8
   rw[mn]
   rcases hkind i o ho with hk|hk|hk
   ·have hnW:i∉W:=fun h=>by rw[(hWno i o ho h).1]at hk;cases hk
    have:dF W [i]=0:=by simp[dF,hnW]
    rw[this,(jA hk h7).1]
    exact hH3
   ·have hnW:i∉W:=fun h=>by rw[(hWno i o ho h).2]at hk;cases hk
    have:dF W [i]=0:=by simp[dF,hnW]
    rw[this,wj hk h7]
    exact hH3
   ·have h1:dF W [i]=1:=by simp[dF,hk]
    have hnx:=wk hsort hchain (a:=a) (b:=b) (i:=i) (by rw[←hab2];exact(hlin σ hσ).1) (fun w hw=>by rw[←hab2];exact hmemW σ hσ w hw) (by rw[←hab2];exact(hlin σ hσ).2.2.2) hk
    have hag:=hin a b i o e3 H3 (fun k hk=>by rw[←hab2];exact hfull σ (hlin σ hσ).1 (hlin σ hσ).2.1 (hlin σ hσ).2.2.1 k hk) (by rw[←hab2];exact(hlin σ hσ).2.2.2) ho h3 (hval σ hσ a (i::b) e3 H3 hab2 h3) H3
    rw[hag,hH3]at h7
    rw[h1]
    show H6=jF rec l W S H (dF W a+1)
    unfold jF
    rw[hnx]
    simp only[ZV,ho,h7]
 have hH2:H2=jF rec l W S H W.length:=by
  obtain⟨σ,hσ⟩:=abj os hne
  obtain⟨e2,h1,_⟩:=hrun σ hσ
  have:=hheap σ hσ σ.length σ [] e2 H2 rfl (by simp) h1
  rw[this]
  congr 1
  have h3:=cQ W (σ.filter W.contains) (hsort.imp (fun h=>aaS h)) (fun w hw=>aaA.2 ⟨hmemW σ hσ w hw,by simpa using hw⟩)
  have h4:=cQ (σ.filter W.contains) W ((hlin σ hσ).1.filter _) (fun w hw=>by simpa using(aaA.1 hw).2)
  unfold dF
  omega
 intro τ t1 t2 t3 t4
 have tall:=hfull τ t1 t2 t3
 have main:∀(n:Nat) (a b:List Nat),a.length=n→τ=a++b→∃ea,cM rec (cC l a) e H=some (ea,jF rec l W S H (dF W a))∧∀k∈a,∀(ok:aK) (d:Nat),l[k]?=some ok→ok.dst=some d→get ea d=get S d:=by
  intro n
  induction n with
  |zero=>
   intro a b hn hab
   cases aan hn
   exact⟨e,rfl,fun k hk=>by cases hk⟩
  |succ n ih=>
   intro a' b hn hab
   obtain⟨a,i,rfl⟩:∃a i,a'=a++[i]:=by
    rcases ab2 a' with rfl|⟨a,i,h⟩
    ·cases hn
    ·exact⟨a,i,by simpa using h⟩
   have hn':a.length=n:=by simpa using hn
   have hab2:τ=a++i::b:=by rw[hab];simp
   have hil:i<l.length:=t2 i (by rw[hab];simp)
   have hp2:(a++i::b).Pairwise (fun j i=>¬dep bs i j):=by rw[←hab2];exact t4
   have hn2:(a++i::b).Nodup:=by rw[←hab2];exact t1
   obtain⟨o,ho⟩:∃o,l[i]?=some o:=⟨_,Zq hil⟩
   obtain⟨ea,h1,h2⟩:=ih a (i::b) hn' hab2
   have hag:=hin a b i o ea _ (fun k hk=>by rw[←hab2];exact tall k hk) (by rw[←hab2];exact t4) ho h1 h2
   have hobs:∀σ∈os,∃a1 b1 v,σ=a1++i::b1∧gm rec o S (jF rec l W S H (dF W a1))=some (v,jF rec l W S H (dF W (a1++[i])))∧∀d,o.dst=some d→v=get S d:=by
    intro σ hσ
    obtain⟨q1,q2,q3,q4⟩:=hlin σ hσ
    obtain⟨a1,b1,hs⟩:=List.append_of_mem (hfull σ q1 q2 q3 i hil)
    obtain⟨e2,r1,r2⟩:=hrun σ hσ
    rw[hs,cH,de]at r1
    obtain⟨⟨e3,H3⟩,r3,r4⟩:=Zd.1 r1
    rw[eS ho,cM]at r4
    obtain⟨⟨e5,H5⟩,r5,r6⟩:=Zd.1 r4
    have hH3:=hheap σ hσ _ a1 (i::b1) e3 H3 rfl hs r3
    have hr:cM rec (cC l (a1++[i])) e H=some (e5,H5):=by
     rw[cH,de,r3]
     show cM rec (cC l [i]) e3 H3=_
     rw[eS ho,cM,r5];rfl
    have hH5:=hheap σ hσ _ (a1++[i]) b1 e5 H5 rfl (by rw[hs];simp) hr
    have hv5:=hval σ hσ (a1++[i]) b1 e5 H5 (by rw[hs];simp) hr i (by simp)
    have hag1:=hin a1 b1 i o e3 H3 (fun k hk=>by rw[←hs];exact hfull σ q1 q2 q3 k hk) (by rw[←hs];exact q4) ho r3 (hval σ hσ a1 (i::b1) e3 H3 hs r3) H3
    unfold stepG at r5
    obtain⟨⟨v,H6⟩,r7,r8⟩:=Zb.1 r5
    simp only[Zy]at r8
    obtain⟨r9,rfl⟩:=r8
    rw[hag1,hH3]at r7
    refine⟨a1,b1,v,hs,by rw[←hH5];exact r7,fun d hd=>?_⟩
    rw[←hv5 o d ho hd,←r9,hd]
    simp[cb,get]
   have hstep:∃v,gm rec o S (jF rec l W S H (dF W a))=some (v,jF rec l W S H (dF W (a++[i])))∧∀d,o.dst=some d→v=get S d:=by
    rcases hkind i o ho with hk|hk|hk
    ·obtain⟨σ,hσ⟩:=abj os hne
     obtain⟨a1,b1,v,hs,r1,r2⟩:=hobs σ hσ
     have hnW:i∉W:=fun h=>by rw[(hWno i o ho h).1]at hk;cases hk
     have:dF W [i]=0:=by simp[dF,hnW]
     refine⟨v,?_,r2⟩
     rw[mn,this]
     exact(jA hk r1).2 _
    ·have hnW:i∉W:=fun h=>by rw[(hWno i o ho h).2]at hk;cases hk
     have hc0:dF W [i]=0:=by simp[dF,hnW]
     have hwall:∀w∈W,w∈a++i::b:=fun w hw=>by rw[←hab2];exact tall w (hWl w hw)
     have hle:dF W a≤W.length:=cQ (a.filter W.contains) W ((aaH.1 hn2).1.filter _) (fun w hw=>by simpa using(aaA.1 hw).2)
     obtain⟨σ,hσ,hstg⟩:=hst i o (dF W a) ho hk hle
      (fun w hw hd=>by
       have hwW:=abE hw
       have hwa:=(mQ hsort hchain hn2 hwall hp2 hwW).2 hw
       exact(aaG.1 hp2).2.2 w hwa i (ZI ..) hd)
      (fun w hw hd=>by
       have hwW:=ab6 hw
       have hwna:w∉a:=fun hwa=>by
        have h3:=(mQ hsort hchain hn2 hwall hp2 hwW).1 hwa
        obtain⟨p,hp⟩:=ZH h3
        obtain⟨q,hq⟩:=ZH hw
        rw[ZC]at hp
        split at hp
        ·rw[ZT]at hq
         exact absurd (dg hsort hchain hp hq (by omega)) (abp _)
        ·cases hp
       rcases Z1.1 (hwall w hwW)with h3|h3
       ·exact hwna h3
       ·rcases ZU.1 h3 with rfl|h3
        ·exact hnW hwW
        ·have:=(aaG.1 hp2).2.1
         exact(aag.1 this).1 w h3 hd)
     obtain⟨a1,b1,v,hs,r1,r2⟩:=hobs σ hσ
     have hst1:si W σ i=dF W a1:=by
      have hnd:=(hlin σ hσ).1
      rw[hs]at hnd⊢
      unfold si dF
      have:(a1++i::b1).takeWhile (fun x=>x != i)=a1:=by
       have h3:∀x∈a1,(x != i)=true:=fun x hx=>by
        have:=(aaH.1 hnd).2.2 x hx i (ZI ..)
        simpa using this
       rw[List.takeWhile_append_of_pos h3,List.takeWhile_cons_of_neg (by simp)]
       simp
      rw[this]
     rw[hst1]at hstg
     refine⟨v,?_,r2⟩
     rw[mn,hc0]at r1⊢
     rw[hstg]at r1
     exact r1
    ·obtain⟨σ,hσ⟩:=abj os hne
     obtain⟨a1,b1,v,hs,r1,r2⟩:=hobs σ hσ
     obtain⟨q1,q2,q3,q4⟩:=hlin σ hσ
     have n1:=wk hsort hchain (a:=a) (b:=b) (i:=i) hn2 (fun w hw=>by rw[←hab2];exact tall w (hWl w hw)) hp2 hk
     have n2:=wk hsort hchain (a:=a1) (b:=b1) (i:=i) (hs▸q1) (fun w hw=>by rw[←hs];exact hmemW σ hσ w hw) (hs▸q4) hk
     have:dF W a=dF W a1:=by
      rcases aaL (dF W a) (dF W a1)with h|h|h
      ·exact absurd (dg hsort hchain n1 n2 h) (abp _)
      ·exact h
      ·exact absurd (dg hsort hchain n2 n1 h) (abp _)
     refine⟨v,?_,r2⟩
     rw[mn]at r1⊢
     rw[this];exact r1
   obtain⟨v,s1,s2⟩:=hstep
   refine⟨cb ea o.dst v,?_,?_⟩
   ·rw[cH,de,h1]
    show cM rec (cC l [i]) ea _=_
    rw[eS ho,cM]
    unfold stepG
    rw[hag,s1]
    rfl
   ·intro k hk ok d hok hd
    rcases Z1.1 hk with hk|hk
    ·have hki:k≠i:=fun h=>(aaH.1 hn2).2.2 k hk i (ZI ..) h
     have hod:o.dst≠some d:=by
      rcases Zl k i with h|h
      ·exact fun hod=>(hdst i k ok o d hok ho (Nat.le_of_lt h) hod).2 hki hd
      ·exact fun hod=>(hdst k i o ok d ho hok h hd).2 (Ne.symm hki) hod
     rw[ig (fun x hx hxd=>hod (by rw[hx,hxd]))]
     exact h2 k hk ok d hok hd
    ·simp only[aab]at hk
     subst hk
     rw[ho]at hok;cases hok
     rw[hd]
     simp only[cb,get,aaz,Zr]
     exact s2 d hd
 obtain⟨e1,h1,h2⟩:=main τ.length τ [] rfl (by simp)
 refine⟨e1,?_,fun t=>?_⟩
 ·rw[h1,hH2]
  congr 3
  have h3:=cQ W (τ.filter W.contains) (hsort.imp (fun h=>aaS h)) (fun w hw=>aaA.2 ⟨tall w (hWl w hw),by simpa using hw⟩)
  have h4:=cQ (τ.filter W.contains) W (t1.filter _) (fun w hw=>by simpa using(aaA.1 hw).2)
  unfold dF
  omega
 ·by_cases hx:∃(k:Nat) (ok:aK),l[k]?=some ok∧ok.dst=some t
  ·obtain⟨k,ok,hk,hkd⟩:=hx
   exact(h2 k (tall k (Y8.1 hk).1) ok t hk hkd).symm
  ·have h3:∀(j:Nat) (oj:aK),l[j]?=some oj→oj.dst≠some t:=fun j oj hj hjd=>hx ⟨j,oj,hj,hjd⟩
   rw[hS t h3]
   exact(fI _ h1 t (fun o' ho'=>by obtain⟨j,_,hj⟩:=fR ho';exact h3 j o' hj)).symm
end
section
variable{C:Ctx}{rec:Rec}{f:FuncId}{nt:Nat}{ops:Array Oper}{B:jJ}
theorem Rel.eqv{e e':Env}{H:ab}{a:Act}{w:World}(h:Rel C nt B e H a w)(he:uo e' e):Rel C nt B e' H a w:=by
 obtain⟨ρ,F,h1,h2,h3,h4,h5⟩:=h
 exact⟨ρ,F,h1,fun t=>by rw[he t];exact h2 t,h3,h4,h5⟩
theorem Cp(hrec:fx C rec){i:Nat}{op:Oper}{o:aK}{e e1:Env}{H H1:ab}{a:Act}{w:World}{ro:Option Nat}{n:Nat}{Q:Exit→Act→World→Prop}{K:Act→World→Prop}
 (hi:ops[i]?=some op) (hco:ib C.P C.dz f nt ops op=some o) (hs:stepG rec o e H=some (e1,H1)) (hrel:Rel C nt B e H a w) (hK:∀a' w',Rel C nt B e1 H1 a' w'→K a' w') :
 wpOpIn (WF ro) n C.P ops Q i K a w:=by
 unfold wpOpIn
 simp only[hi]
 unfold ib at hco
 replace hco:=eK hco
 obtain⟨hdst,hco⟩:=hco
 have hd:∀d,op.dst=some d→d<nt:=fun d hd=>by
  rw[hd]at hdst;simpa using hdst
 obtain⟨ρ,F,hr,he,hput⟩:=hrel.step (P:=fun _ _=>True)
 unfold stepG gm at hs
 have hgo:∀op1,op1=ui (lk C.dz f op.dst) ((oy C.P op.op).getD .bad)→(aq rec e H op1).map (fun r=>(cb e op.dst r.1,r.2))=some (e1,H1)→op.wpIn (WF ro) n C.P a w K Q:=by
  intro op1 dZ h
  obtain⟨⟨s,H'⟩,h1,h2⟩:=Zb.1 h
  simp only[Zy]at h2
  obtain⟨rfl,rfl⟩:=h2
  exact iK hrec dZ h1 hr he (fun val w' hdn=>hK _ _ (hput op.dst s H' val w' hd hdn))
 split at hco
 ·rename_i hg
  cases hco
  have hw:Region.wanted op (yielded ops a.tmps)=true:=by simp[Region.wanted,hg]
  rw[hw,if_pos rfl]
  exact hgo _ rfl hs
 ·rename_i j' want hg
  split at hco
  ·rename_i t ht
   cases hco
   simp only at hs
   split at hs
   ·rename_i b hb
    have htv:a.tmps.getD t undef=.bool b:=by
     have:=he t
     rw[hb]at this
     exact eu this
    have hy:yielded ops a.tmps j'=some b:=by
     simp only[yielded,ht,ZV,kL htv]
    cases hbw:(b==want)with
    |true=>
     rw[hbw]at hs
     have hw:Region.wanted op (yielded ops a.tmps)=true:=by
      simp only[Region.wanted,hg,hy];simpa using hbw
     rw[hw,if_pos rfl]
     exact hgo _ rfl hs
    |false=>
     rw[hbw]at hs
     have hw:¬Region.wanted op (yielded ops a.tmps)=true:=by
      simp only[Region.wanted,hg,hy];simpa using hbw
     rw[if_neg hw]
     simp only[Zu,ZQ,Zs,Zy]at hs
     obtain⟨rfl,rfl⟩:=hs
     exact⟨fun _ _=>trivial,hK _ _ (hput op.dst .iz H undef w hd (dD.same hr .iz))⟩
   ·rename_i hb
    have htv:a.tmps.getD t undef=undef:=by
     have:=he t
     rw[hb]at this
     exact wI this
    have hy:yielded ops a.tmps j'=none:=oE ht htv
    have hw:¬Region.wanted op (yielded ops a.tmps)=true:=by
     simp only[Region.wanted,hg,hy];simp
    rw[if_neg hw]
    simp only[ZQ,Zs,Zy]at hs
    obtain⟨rfl,rfl⟩:=hs
    exact⟨fun _ _=>trivial,hK _ _ (hput op.dst .iz H undef w hd (dD.same hr .iz))⟩
   ·cases hs
  ·cases hco
theorem Dp(hmix:C.P.follows .mixedOrders=true)(hrec:fx C rec){id:Nat}{c:cn}(hc:A3 C.P C.dz f nt ops=some c):gf C rec nt (.region id ops true) c:=by
 unfold A3 at hc
 split at hc
 ·cases hc
 rename_i l hl
 obtain⟨bs,hbs⟩:∃bs,bI ops.toList=bs:=⟨_,rfl⟩
 rw[hbs]at hc
 obtain⟨os,rfl,hos⟩:∃os,c=.perm l os∧(u7 bs ops.toList l os=true∨sG bs ops.toList l os=true):=by
  cases hf:u7 bs ops.toList l (sF bs l)with
  |true=>rw[hf]at hc;cases hc;exact⟨_,rfl,.inl hf⟩
  |false=>
   rw[hf]at hc
   simp only[Zu]at hc
   replace hc:=aj hc
   obtain⟨hok,hc⟩:=hc
   cases hc
   exact⟨_,rfl,.inr hok⟩
 intro ro n Bs Q R k r e H a w hro hrun hk hrel
 simp only[run]at hrun
 obtain⟨g1,g2⟩:=dO hl
 have hlen:l.length=ops.size:=by rw[g1];simp
 have De:(ops.toList.zipIdx.all fun p=>p.1.after.toList.all fun e=>!Region.binds .any e||decide (e.on<p.2))=true∧
  ((List.range l.length).all fun j=>(List.range j).all fun i=>match l[i]?,l[j]? with
    |some a,some b=>(bs.getD j 0).testBit i||eQ a b
    |_,_=>false)=true∧(os.all fun o=>pE bs l.length [] o)=true:=by
  rcases hos with hok|hok
  ·unfold u7 at hok
   simp only[Zh]at hok
   exact⟨hok.1.1.1.1.1.1,hok.1.1.1.1.1.2,hok.1.1.1.1.2⟩
  ·unfold sG at hok
   simp only[Zh]at hok
   exact⟨hok.1.1.1,hok.1.1.2,hok.1.2⟩
 obtain⟨c1,c2,c3⟩:=De
 have hedge:∀(j:Nat) o,ops.toList[j]?=some o→∀e∈o.after,Region.binds .any e=true→e.on<j:=by
  intro j o ho e he hb
  have h1:=ZA.1 c1 (o,j) (List.mem_zipIdx_iff_getElem?.2 (by simpa using ho))
  have h2:=ZA.1 h1 e (by simpa using he)
  rw[hb]at h2
  simpa using h2
 have hbk:∀i j,dep bs i j→i<j:=by
  intro i j h
  rw[←hbs]at h
  exact wo (fun j o ho e he hb=>hedge j o ho e he hb) j i h
 have hind:∀i j x y,l[i]?=some x→l[j]?=some y→i≠j→dep bs i j∨dep bs j i∨eQ x y=true∨eQ y x=true:=by
  have key:∀i j x y,i<j→l[i]?=some x→l[j]?=some y→dep bs i j∨eQ x y=true:=by
   intro i j x y hij hx hy
   have hjl:=(Y8.1 hy).1
   have h1:=ZA.1 c2 j (ZF.2 hjl)
   have h2:=ZA.1 h1 i (ZF.2 hij)
   rw[hx,hy]at h2
   simp only[Z6]at h2
   exact h2
  intro i j x y hx hy hne
  rcases acd hne with h|h
  ·rcases key i j x y h hx hy with h|h
   ·exact .inl h
   ·exact .inr (.inr (.inl h))
  ·rcases key j i y x h hy hx with h|h
   ·exact .inr (.inl h)
   ·exact .inr (.inr (.inr h))
 cases hsm:iU (os.map (jl rec l e H))with
 |none=>rw[hsm]at hrun;cases hrun
 |some s=>
 rw[hsm]at hrun
 have hall:=qN _ hsm
 have hrunσ:∀σ∈os,∃e2 H2,cM rec (cC l σ) e H=some (e2,H2)∧s=(eF l e2 e,H2):=by
  intro σ hσ
  have h1:=hall _ (Z3.2 ⟨σ,hσ,rfl⟩)
  unfold jl at h1
  rw[mU]at h1
  obtain⟨s2,h2,h3⟩:=Zd.1 h1
  simp only[Zs]at h3
  exact⟨s2.1,s2.2,h2,h3.symm⟩
 have hlin:∀σ∈os,σ.Nodup∧(∀i∈σ,i<l.length)∧σ.length=l.length∧σ.Pairwise (fun j i=>¬dep bs i j):=by
  intro σ hσ
  obtain⟨q1,q2,q3,q4⟩:=pc σ [] (ZA.1 c3 σ hσ) abX (by simp)
  refine⟨by simpa using q1,q2,by simpa using q3,?_⟩
  exact q4.imp_of_mem (fun{j i} hj hi h hd=>h ⟨q2 i hi,hd⟩)
 have hperm:∀τ:List Nat,τ.Nodup→(∀i∈τ,i<l.length)→τ.length=l.length→τ.Perm (List.range l.length):=by
  intro τ h1 h2 h3
  exact lK τ _ h1 (fun i hi=>ZF.2 (h2 i hi)) (by simp[h3])
 have hfull:∀τ:List Nat,τ.Nodup→(∀i∈τ,i<l.length)→τ.length=l.length→τ.Pairwise (fun j i=>¬dep bs i j)→∃e1,cM rec (cC l τ) e H=some (e1,s.2)∧uo s.1 e1:=by
  rcases hos with hok|hok
  ·unfold u7 at hok
   simp only[Zh]at hok
   obtain⟨⟨⟨⟨_,c4⟩,c5⟩,c6⟩,c7⟩:=hok
   refine wW (S:=s.1) (H2:=s.2) rfl ?_ ?_ ?_ ?_ ?_ hlin ?_
   ·intro i k x y d hx hy hki hd
    have hil:=(Y8.1 hy).1
    have h1:=ZA.1 c4 i (ZF.2 hil)
    have h2:=ZA.1 h1 k (ZF.2 (by omega))
    rw[hx,hy]at h2
    simp only[hd,Zh,Z6,ZK,aah,aaJ]at h2
    exact⟨by simpa using h2.1,fun hne hxd=>by
     rcases h2.2 with h3|h3
     ·exact hne h3
     ·exact h3 hxd⟩
   ·intro i j x y hij hx hy
    have hjl:=(Y8.1 hy).1
    have h1:=ZA.1 c2 j (ZF.2 hjl)
    have h2:=ZA.1 h1 i (ZF.2 hij)
    rw[hx,hy]at h2
    simp only[Z6]at h2
    exact h2
   ·intro w hw w' hw' hlt
    have h1:=ZA.1 (ZA.1 c5 w hw) w' hw'
    rw[Zc hlt]at h1
    simpa[dep]using h1
   ·intro h
    rw[h]at c6
    simp at c6
   ·intro r o j hro' CJ hj h1 h2
    have hrl:=(Y8.1 hro').1
    have h3:=ZA.1 c7 r (ZF.2 hrl)
    rw[hro']at h3
    simp only[CJ,aai,aay]at h3
    have h4:=ZA.1 h3 j (ZF.2 (by omega))
    have h5:p7 bs (Eb l) r j=true:=by
     unfold p7
     rw[Zh]
     refine⟨ZA.2 fun w hw=>?_,ZA.2 fun w hw=>?_⟩
     ·have:=h1 w hw;unfold dep at this;simpa using this
     ·have:=h2 w hw;unfold dep at this;simpa using this
    rw[h5]at h4
    simp only[aai,aay]at h4
    obtain⟨σ,hσ,h6⟩:=aav.1 h4
    exact⟨σ,hσ,by simpa using h6⟩
   ·intro σ hσ
    obtain⟨e2,H2,r1,r2⟩:=hrunσ σ hσ
    exact⟨e2,by rw[r2];exact r1,by rw[r2];exact qt r1⟩
  unfold sG at hok
  simp only[Zh]at hok
  obtain⟨_,c4⟩:=hok
  intro τ h1 h2 h3 h4
  have hp:=hperm τ h1 h2 h3
  have hmem:τ.filter (ir l)∈lT bs ((List.range l.length).filter (ir l)).length ((List.range l.length).filter (ir l)):=
   qj _ _ _ (hp.filter _).length_eq (hp.filter _) (h1.filter _) (h4.filter _)
  have h5:=ZA.1 c4 _ hmem
  obtain⟨σ,hσ,h6⟩:=aav.1 h5
  obtain⟨q1,q2,q3,q4⟩:=hlin σ hσ
  obtain⟨e2,H2,r1,r2⟩:=hrunσ σ hσ
  obtain⟨e1,r3,r4⟩:=reduce hind τ σ h2 h1 (hp.trans (hperm σ q1 q2 q3).symm) h4 q4 (by simpa using(aah.1 h6).symm) (fun _=>rfl) r1
  refine⟨e1,by rw[r2];exact r3,fun t=>?_⟩
  rw[r2,r4 t]
  exact qt r1 t
 refine wpIn_region_any hmix ?_
 have hrel0:Rel C nt Bs e H a {w with drawn:=w.drawn+1}:=by
  obtain⟨ρ,F,q1,q2,q3,q4,q5⟩:=hrel
  obtain⟨z1,z2⟩:=q1.same (w':={w with drawn:=w.drawn+1}) (Zp _) (fun _ _=>rfl)
  exact⟨ρ,F,z1,z2.er q1 q2,q3.trans z2,q4,q5.ext z2.toExt0⟩
 have main:∀(fuel:Nat) (listed:Array Bool) (a:Act) (w:World),listed.size=ops.size→FC listed≤fuel→
  (∃τ:List Nat,τ.Nodup∧(∀j,listed.getD j false=true↔j∈τ)∧(∀j∈τ,j<l.length)∧τ.Pairwise (fun j i=>¬dep bs i j)∧(∀j∈τ,∀o,ops.toList[j]?=some o→∀e∈o.after,Region.binds .any e=true→e.on∈τ)∧
   ∃e1 H1,cM rec (cC l τ) e H=some (e1,H1)∧Rel C nt Bs e1 H1 a w)→wpAnyIn (WF ro) n C.P .any ops Q fuel listed a w:=by
  have hlast:∀(listed:Array Bool) (a:Act) (w:World),listed.size=ops.size→
   (∃τ:List Nat,τ.Nodup∧(∀j,listed.getD j false=true↔j∈τ)∧(∀j∈τ,j<l.length)∧τ.Pairwise (fun j i=>¬dep bs i j)∧(∀j∈τ,∀o,ops.toList[j]?=some o→∀e∈o.after,Region.binds .any e=true→e.on∈τ)∧
    ∃e1 H1,cM rec (cC l τ) e H=some (e1,H1)∧Rel C nt Bs e1 H1 a w)→Region.ready .any ops listed=[]→Q .normal a w:=by
   intro listed a w hsz ⟨τ,t1,t2,t3,t4,t5,e1,H1,t6,t7⟩ hnil
   have hall2:∀j,j<l.length→j∈τ:=by
    intro j
    induction j using Nat.strongRecOn with
    |_ j ih=>
     intro hj
     apply aaP
     intro hn
     have hjs:j<listed.size:=by omega
     have hnl:listed.getD j false=false:=by
      cases hx:listed.getD j false with
      |false=>rfl
      |true=>exact absurd ((t2 j).1 hx) hn
     have hmem:j∈Region.ready .any ops listed:=by
      rw[mem_ready]
      have hoj:ops[j]?=some (ops[j]'(by omega)):=Z4 (by omega)
      refine⟨by simpa[hjs]using hnl,_,hoj,fun e' he' hb=>?_⟩
      have h1:=hedge j _ (by simpa using hoj) e' he' hb
      exact(t2 e'.on).2 (ih e'.on h1 (by omega))
     rw[hnil]at hmem
     cases hmem
   have hlenτ:τ.length=l.length:=by
    have h1:=cQ (List.range l.length) τ ab3 (fun j hj=>hall2 j (ZF.1 hj))
    have h2:=cQ τ (List.range l.length) t1 (fun j hj=>ZF.2 (t3 j hj))
    rw[abW]at h1 h2
    omega
   obtain⟨e3,r1,r2⟩:=hfull τ t1 t3 hlenτ t4
   rw[t6]at r1
   cases r1
   exact hk .normal s.1 s.2 a w hrun (t7.eqv r2)
  intro fuel
  induction fuel with
  |zero=>
   intro listed a w hsz hu hj
   have hnil:Region.ready .any ops listed=[]:=by
    apply List.eq_nil_iff_forall_not_mem.2
    intro j hjr
    have h1:=(mem_ready.1 hjr).1
    have hks:j<listed.size:=by
     rcases Zl j listed.size with h|h
     ·exact h
     ·simp[abt h]at h1
    have:false∈listed.toList:=by
     simp[hks]at h1
     rw[←h1];simp
    have:=List.count_pos_iff.2 this
    unfold FC at hu
    omega
   exact⟨hnil,hlast listed a w hsz hj hnil⟩
  |succ fuel ih=>
   intro listed a w hsz hu hj
   refine⟨hlast listed a w hsz hj,fun i hi=>?_⟩
   obtain⟨h1,o,ho,hafter⟩:=mem_ready.1 hi
   have hks:i<listed.size:=by
    rcases Zl i listed.size with h|h
    ·exact h
    ·simp[abt h]at h1
   have hfl:listed[i]=false:=by simpa[hks]using h1
   obtain⟨τ,t1,t2,t3,t4,t5,e1,H1,t6,t7⟩:=hj
   have hiτ:i∉τ:=fun h=>by have:=(t2 i).2 h;simp[hks,hfl]at this
   have hclo:∀k,dep bs k i→k∈τ:=by
    intro k hk
    have h2:((bI ops.toList).getD i 0).testBit k=true:=by rw[hbs];exact hk
    refine jr (S:=fun k=>k∈τ) (fun j o' hj ho' e' he' hb=>t5 j hj o' ho' e' he' hb) i k (fun o' ho' e' he' hb=>?_) h2
    ·have:ops.toList[i]?=some o:=by simpa using ho
     rw[this]at ho';cases ho'
     exact(t2 _).1 (hafter e' he' hb)
   have hil:i<l.length:=by omega
   have hdc:∀j∈τ,∀k,dep bs k j→k∈τ:=by
    intro j hj k hk
    have h2:((bI ops.toList).getD j 0).testBit k=true:=by rw[hbs];exact hk
    exact jr (S:=fun k=>k∈τ) (fun j o' hj ho' e' he' hb=>t5 j hj o' ho' e' he' hb) j k (fun o' ho' e' he' hb=>t5 j hj o' ho' e' he' hb) h2
   obtain⟨oi,hoi⟩:∃oi,l[i]?=some oi:=⟨_,Zq hil⟩
   obtain⟨rest,hrest⟩:∃rest,(List.range l.length).filter (fun k=>decide (k∉τ++[i]))=rest:=⟨_,rfl⟩
   have hrm:∀k,k∈rest↔k<l.length∧k∉τ∧k≠i:=by
    intro k
    rw[←hrest]
    simp[aaA]
   have hnd:(τ++[i]++rest).Nodup:=by
    rw[aaH]
    refine⟨aaH.2 ⟨t1,by simp,fun x hx y hy=>?_⟩,?_,fun x hx y hy=>?_⟩
    ·simp at hy;subst hy;exact fun h=>hiτ (h▸hx)
    ·rw[←hrest];exact ab3.filter _
    ·have:=(hrm y).1 hy
     rcases Z1.1 hx with hx|hx
     ·exact fun h=>this.2.1 (h▸hx)
     ·simp at hx;subst hx;exact fun h=>this.2.2 h.symm
   have hltall:∀k∈τ++[i]++rest,k<l.length:=by
    intro k hk'
    rcases Z1.1 hk' with hk'|hk'
    ·rcases Z1.1 hk' with hk'|hk'
     ·exact t3 k hk'
     ·simp at hk';omega
    ·exact((hrm k).1 hk').1
   have hlen2:(τ++[i]++rest).length=l.length:=by
    have h1:=cQ (List.range l.length) (τ++[i]++rest) ab3 (fun j hj=>by
     by_cases hj1:j∈τ
     ·simp[hj1]
     ·by_cases hj2:j=i
      ·simp[hj2]
      ·exact aa5 _ ((hrm j).2 ⟨ZF.1 hj,hj1,hj2⟩))
    have h2:=cQ (τ++[i]++rest) (List.range l.length) hnd (fun j hj=>ZF.2 (hltall j hj))
    rw[abW]at h1 h2
    omega
   have hcons:(τ++[i]++rest).Pairwise (fun j i=>¬dep bs i j):=by
    rw[aaG]
    refine⟨aaG.2 ⟨t4,by simp,fun j hj k hk' hd=>?_⟩,?_,fun j hj k hk' hd=>?_⟩
    ·simp at hk';subst hk'
     exact hiτ (hdc j hj _ hd)
    ·rw[←hrest]
     refine List.Pairwise.filter _ (List.pairwise_lt_range.imp (fun{a b} hab hd=>?_))
     have:=hbk _ _ hd;omega
    ·have h3:=(hrm k).1 hk'
     rcases Z1.1 hj with hj|hj
     ·exact h3.2.1 (hdc j hj _ hd)
     ·simp at hj;subst hj;exact h3.2.1 (hclo _ hd)
   obtain⟨e3,r1,r2⟩:=hfull _ hnd hltall hlen2 hcons
   rw[cH,cH,Za,de,t6]at r1
   simp only[ZV]at r1
   rw[de]at r1
   obtain⟨s4,r3,_⟩:=Zd.1 r1
   rw[eS hoi,cM]at r3
   obtain⟨s5,r4,r5⟩:=Zd.1 r3
   have hops:ops[i]?=some (ops[i]'(by omega)):=Z4 (by omega)
   have hco:ib C.P C.dz f nt ops (ops[i]'(by omega))=some oi:=g2 i _ _ (by simpa using hops) hoi
   refine Cp hrec hops hco (show stepG rec oi e1 H1=some (s5.1,s5.2)from r4) t7 (fun a' w' hrel'=>ih _ a' w' (by simpa using hsz) ?_ ⟨τ++[i],?_,?_,?_,?_,?_,s5.1,s5.2,?_,hrel'⟩)
   ·unfold FC at hu⊢
    rw[Array.toList_setIfInBounds,List.count_set (by simpa using hks)]
    have hq:listed.toList[i]'(by simpa using hks)=false:=by simpa using hfl
    rw[hq]
    simp only[aaz,if_true]
    have:((true==false)=true)=False:=by simp
    simp only[this,if_false]
    omega
   ·exact(aaH.1 hnd).1
   ·intro j
    by_cases hji:j=i
    ·subst hji;simp[hks]
    ·have:(listed.setIfInBounds i true).getD j false=listed.getD j false:=by simp[Z0 (Ne.symm hji)]
     rw[this,t2 j]
     simp[hji]
   ·intro j hj;exact hltall j (aas _ hj)
   ·exact(aaG.1 hcons).1
   ·intro j hj o' ho' e' he' hb
    rcases Z1.1 hj with hj|hj
    ·exact aas _ (t5 j hj o' ho' e' he' hb)
    ·simp at hj;subst hj
     have:ops.toList[j]?=some o:=by simpa using ho
     rw[this]at ho';cases ho'
     exact aas _ ((t2 _).1 (hafter e' he' hb))
   ·rw[cH,de,t6]
    simp only[ZV]
    rw[eS hoi,cM,r4]
    rfl
 refine main ops.size _ a _ (by simp) ?_ ⟨[],abX,fun j=>?_,by simp,List.Pairwise.nil,by simp,e,H,rfl,hrel0⟩
 ·unfold FC;simp
 ·by_cases hj:j<ops.size<;>simp[hj]
end
end
section
section
variable{C:Ctx}{rec:Rec}{f:FuncId}{nt:Nat}
theorem Bw{c:Code}{c1:cn}(h:gf C rec nt c c1):∀vs,gf C rec nt c (BI c1 vs)
 |[]=>h
 |v::vs=>by
  intro ro n B Q R k r e H a w hro hrun hk hrel
  simp only[BI,run]at hrun
  refine h ro n B Q R _ r e H a w hro hrun (fun x e' H' a' w' hx hr=>?_) hrel
  cases x with
  |exit id=>exact hk _ _ _ _ _ hx hr
  |ret=>exact hk _ _ _ _ _ hx hr
  |normal=>
   simp only at hx
   unfold aN at hx
   split at hx
   ·rename_i p hp
    exact hk .normal _ _ _ _ hx (mi (v::vs) hp hr)
   ·cases hx
theorem Cx{ρ:Map}{F:Nat→Prop}{H:ab}{w:World}{c:SV}{v:Value}{em:Bool}(hr:HR C ρ F H w)(hs:Ei H c=some em)(hv:VR w F ρ c v):∃q n cap,v=.slice q n cap∧(em=false→q.isNone=false):=by
 unfold Ei at hs
 split at hs
 ·rename_i z L f
  cases hs
  cases hv with
  |aA V hcap hfull hz hat h1 hv=>
   rename_i q cap
   refine⟨q,_,_,rfl,fun hL=>?_⟩
   rcases hat with h0|⟨B,o,ha,_⟩
   ·subst h0;cases hL
   ·subst ha;rfl
 ·rename_i b' v' off n
  replace hs:=aj hs
  obtain⟨hc,hs⟩:=hs
  cases hs
  obtain⟨l,z2,L2,ex2,hl,hb2,hbr,g1,g2⟩:=dV hr hc hv
  cases hvi:l.bB with
  |true=>
   obtain⟨q,p1,p2,p3⟩:=g1 hvi
   exact⟨q,0,0,p1,fun h=>by simp at h;omega⟩
  |false=>
   obtain⟨p1,q,p2,p3⟩:=g2 hvi
   refine⟨q,_,_,p2,fun h=>?_⟩
   have hn:n≠0:=by simpa using h
   have:=p3 (by omega)
   subst this
   rfl
 ·cases hs
theorem GB{x:Code}{y:Code}{y1:cn}{ops:Array Oper}{l:List Oper}{l1:List aK}{d:Nat}{neg:Bool}{x':bU}(hrec:fx C rec)(hp:v9 C.P nt x=some (ops,l,d,neg,x'))(hl:bN (l.map (ib C.P C.dz f nt ops))=some l1)
 (hy:gf C rec nt y y1):gf C rec nt (.seq x y) (.seq (.ops l1) (.Nc d neg x' y1)):=by
 intro ro n B Q R k r e H a w hro hrun hk hrel
 unfold v9 at hp
 split at hp
 rotate_left
 ·cases hp
 rename_i id ops'
 split at hp
 rotate_left
 ·cases hp
 rename_i o ho
 split at hp
 rotate_left
 ·cases hp
 rename_i d0 op t xo yo yt hd hg dZ
 split at hp
 rotate_left
 ·cases hp
 rename_i x0 el hx0 hu
 split at hp
 rotate_left
 ·cases hp
 rename_i nk neg0 x2 hcn
 replace hp:=aj hp
 obtain⟨hdn,hp⟩:=hp
 replace hdn:=ZE hdn
 simp only[Zs,Zy]at hp
 obtain⟨rfl,rfl,rfl,rfl,rfl⟩:=hp
 have hx2:x2=x0∧nk=.s:=by
  unfold vu at hcn
  split at hcn<;>simp_all
 obtain⟨rfl,rfl⟩:=hx2
 have hne:ops'.toList≠[]:=by intro h;rw[h]at ho;cases ho
 have hsz:0<ops'.size:=by
  rcases Nat.eq_zero_or_pos ops'.size with h|h
  ·exact absurd (by simpa using h) hne
  ·exact h
 have hlast:ops'[ops'.size-1]?=some o:=by
  rw[List.getLast?_eq_getElem?]at ho
  simpa using ho
 have hdl:ops'.toList.dropLast=ops'.toList.take (ops'.size-1):=by rw[List.dropLast_eq_take];simp
 rw[hdl]at hl
 refine wpIn_seq (wpIn_region ?_)
 obtain⟨m,hm⟩:∃m,ops'.size=m+1:=⟨ops'.size-1,by omega⟩
 have hrange:List.range ops'.size=List.range' 0 m++[m]:=by
  rw[hm,ab5,List.range'_1_concat]
  simp
 rw[hrange]
 rw[hm,abO]at hlast hl
 simp only[run]at hrun
 refine n9 hrec (f:=f) (ops:=ops') (m:=m) (by omega) (fun e' H' a' w' h hr=>?_) m 0 l1 (by omega) (by simpa using hl) e H a w hrun hrel
 simp only[wpOpsIn,hlast]
 have hw:Region.wanted o (yielded ops' a'.tmps)=true:=by simp[Region.wanted,hg]
 rw[hw,if_pos rfl]
 refine⟨fun _ _=>trivial,?_⟩
 rw[Oper.semAt_eq _ _ _ (fun c hc=>by rw[dZ]at hc;cases hc)]
 obtain⟨ρ,F,hr1,he1,hput⟩:=hr.step (P:=fun _ _=>True)
 have hv:=aZ hx0 he1
 unfold zW at h
 have fin:∀b,y6 .s (a'.eval xo)=some b→run rec y1 ((d0,.bool (neg0 ^^ b))::e') H' k ()=some r→y.wpIn (WF ro) n C.P Q (a'.put o.dst (.bool (neg0 ^^ b))) w'∧(execOp a'.eval o).run C.P w'=.ok (.value (.bool (neg0 ^^ b))) w':=by
  intro b hb hrun'
  have hx:(execOp a'.eval o).run C.P w'=.ok (.value (.bool (neg0 ^^ b))) w':=by
   simp only[execOp,dZ]
   have:=tY (C:=C) (w:=w') (a:=a') (x:=xo) hcn hu hb
   rw[Sem.run_bind,this]
   rfl
  refine⟨?_,hx⟩
  have h2:=hput o.dst (.bool (neg0 ^^ b)) H' (.bool (neg0 ^^ b)) w' (fun d hd'=>by rw[hd]at hd';cases hd';exact hdn) (dD.same hr1 (.bool _))
  rw[hd]at h2⊢
  exact hy ro n B Q R k r _ H' _ w' hro hrun' hk h2
 split at h
 ·cases h
 ·rename_i hem
  obtain⟨q,m1,cap,hq,hno⟩:=Cx hr1 hem hv
  obtain⟨g1,g2⟩:=fin false (by rw[hq,y6,hno rfl]) (by simpa using h)
  rw[g2]
  exact g1
 ·rename_i hem
  obtain⟨q,m1,cap,hq,hno⟩:=Cx hr1 hem hv
  split at h
  ·rename_i heq
   have hb:run rec y1 ((d0,.bool (neg0 ^^ q.isNone))::e') H' k ()=some r:=by
    cases hx:(neg0 ^^ q.isNone)with
    |true=>exact h
    |false=>exact heq.symm.trans h
   obtain⟨g1,g2⟩:=fin q.isNone (by rw[hq,y6]) hb
   rw[g2]
   exact g1
  ·cases h
theorem oW(hmix:C.P.follows .mixedOrders=true)(hrec:fx C rec):∀(c:Code) (c1:cn),eD C.P C.dz f nt c=some c1→gf C rec nt c c1:=by
 intro c
 induction c with
 |skip=>
  intro c1 h ro n B Q R k r e H a w hro hrun hk hrel
  cases h
  exact wpIn_skip (hk .normal e H a w hrun hrel)
 |region id ops draw=>
  intro c1 h
  simp only[eD,Zb]at h
  obtain⟨c2,h,rfl⟩:=h
  apply Bw
  apply pf
  cases hprm:(draw&&C.dz.RC f id)with
  |true=>
   rw[hprm]at h
   simp only[Zr]at h
   rw[Zh]at hprm
   obtain⟨rfl,_⟩:=hprm
   exact Dp hmix hrec h
  |false=>
  rw[hprm]at h
  simp only[Zu]at h
  unfold xL at h
  split at h
  ·cases h
  ·rename_i l hl
   cases draw with
   |true=>
    simp only[Zr,Zb]at h
    obtain⟨d,hd,rfl⟩:=h
    exact AZ hmix hrec hl hd
   |false=>
    simp only[Zu,Zs]at h
    subst h
    intro ro n B Q R k r e H a w hro hrun hk hrel
    refine wpIn_region ?_
    rw[ab5]
    exact yE hrec (k:=k .normal) (r:=r) (fun e' H' a' w' h hr=>hk .normal e' H' a' w' h hr) ops.size 0 l (by simp) (by simpa using hl) e H a w hrun hrel
 |seq x y ihx ihy=>
  intro c1 h
  simp only[eD]at h
  split at h
  ·rename_i ops l d neg x' hp
   split at h
   ·rename_i l1 y1 h1 h2
    cases h
    exact GB hrec hp h1 (ihy y1 h2)
   ·cases h
  split at h
  ·rename_i x1 y1 h1 h2
   cases h
   intro ro n B Q R k r e H a w hro hrun hk hrel
   simp only[run]at hrun
   refine wpIn_seq (ihx x1 h1 ro n B _ R _ r e H a w hro hrun (fun x e' H' a' w' h hr=>?_) hrel)
   cases x with
   |normal=>exact ihy y1 h2 ro n B Q R k r e' H' a' w' hro h hk hr
   |exit id=>exact hk (.exit id) e' H' a' w' h hr
   |ret=>exact hk .ret e' H' a' w' h hr
  ·cases h
 |cond c x y ihx ihy=>
  intro c1 h ro n B Q R k r e H a w hro hrun hk hrel
  simp only[eD]at h
  split at h
  ·rename_i c' x1 y1 h0 h1 h2
   cases h
   simp only[run]at hrun
   unfold qm at hrun
   split at hrun
   ·rename_i b hb
    obtain⟨ρ,F,hr,he,_⟩:=id hrel
    have hv:=aZ h0 he
    rw[hb]at hv
    have hv:=eu hv
    dsimp only at hrun
    unfold fork at hrun
    cases b with
    |true=>exact wpIn_cond_true hv (ihx x1 h1 ro n B Q R k r e H a w hro hrun hk hrel)
    |false=>exact wpIn_cond_false hv (ihy y1 h2 ro n B Q R k r e H a w hro hrun hk hrel)
   ·cases hrun
  ·cases h
 |block id x ih=>
  intro c1 h ro n B Q R k r e H a w hro hrun hk hrel
  simp only[eD,Zb]at h
  obtain⟨x1,h1,rfl⟩:=h
  simp only[run]at hrun
  refine wpIn_block (ih x1 h1 ro n B _ R _ r e H a w hro hrun (fun x e' H' a' w' h hr=>?_) hrel)
  cases x with
  |normal=>exact hk .normal e' H' a' w' h hr
  |exit j=>
   simp only[Bg,Exit.inBlock]
   dsimp only at h
   cases hj:(j==id)with
   |true=>
    rw[hj]at h
    have:j=id:=by simpa using hj
    rw[if_pos this]
    exact hk .normal e' H' a' w' h hr
   |false=>
    rw[hj]at h
    have:¬j=id:=by simpa using hj
    rw[if_neg this]
    exact hk (.exit j) e' H' a' w' h hr
  |ret=>exact hk .ret e' H' a' w' h hr
 |loop x ih=>
  intro c1 h
  simp only[eD,Zb]at h
  obtain⟨x1,h1,rfl⟩:=h
  exact D5 (ih x1 h1)
 |rangeFunc g ps x y ihx ihy=>
  intro c1 h
  simp only[eD]at h
  split at h
  ·rename_i g' x1 y1 h0 h1 h2
   replace h:=eK h
   obtain⟨hp,h⟩:=h
   cases h
   exact zc hrec h0 (fun t ht=>by
    have:=aau.1 hp t ht
    simpa using this) h1 h2
  ·cases h
 |exit id=>
  intro c1 h ro n B Q R k r e H a w hro hrun hk hrel
  cases h
  exact wpIn_exit (hk (.exit id) e H a w hrun hrel)
 |ret=>
  intro c1 h ro n B Q R k r e H a w hro hrun hk hrel
  cases h
  exact wpIn_ret (hk .ret e H a w hrun hrel)
 |_=>intro c1 h;simp[eD]at h
end
end
section
section
variable{C:Ctx}{ρ ρ0 ρ':Map}{F F0 F':Nat→Prop}{H H0 H' H1:ab}{w w0 w':World}
theorem CA(xs:List SV):∀(k t:Nat),get (dR.go k xs) t=if k≤t then(xs[t-k]?).getD .undef else .undef:=by
 induction xs with
 |nil=>intro k t;simp[dR.go,get]
 |cons x r ih=>
  intro k t
  simp only[dR.go,get,ih]
  cases h:(t==k)with
  |true=>
   have:t=k:=by simpa using h
   subst this;simp
  |false=>
   have:t≠k:=by simpa using h
   simp only[Zu]
   by_cases hk:k≤t
   ·rw[if_pos hk,if_pos (by omega),show t-k=(t-(k+1))+1 by omega];rfl
   ·rw[if_neg hk,if_neg (by omega)]
theorem xq{xs:List SV}{args:Array Value}{n:Nat}(h:gP w F ρ xs args):ER w F ρ (dR xs) (args++Array.replicate n undef):=by
 intro t
 unfold dR
 rw[CA]
 simp only[abc,if_true,Nat.sub_zero]
 cases hx:xs[t]? with
 |none=>exact .undef _
 |some c=>
  have hlt:=(Y8.1 hx).1
  have hn:=h.1
  have hv:args[t]?=some args[t]:=Z4 (by omega)
  have:=h.2 t c _ hx hv
  rw[aal,abB (by omega),hv]
  exact this
def C6(tmps:Array Value):ResultVar→Sem Value
 | .tmp t=>pure (tmps.getD t undef)
 | .cell a t=>do loadVar t (←asAddr (tmps.getD a undef))
theorem xf(fn:Func)(tmps:Array Value):results fn tmps=(do let vs←fn.results.mapM (C6 tmps);pure (if h:vs.size=1 then vs[0]else .tuple vs)):=by
 unfold results
 congr 1
theorem AM{e:Env}{tmps:Array Value}{rv:ResultVar}{r1:u9}{s:SV}(hr:HR C ρ F H w)(he:ER w F ρ e tmps)(h1:yG C.P rv=some r1)(h2:dI e H r1=some s) :
 ∃val,(C6 tmps rv).run C.P w=.ok val w∧VR w F ρ s val:=by
 unfold yG at h1
 split at h1
 ·cases h1
  cases h2
  exact⟨_,rfl,he _⟩
 ·split at h1
  ·rename_i ag n hag hsz
   cases h1
   obtain⟨q,val,hu,k1,k2⟩:=xP hag hsz hr (he _) h2
   refine⟨val,?_,k2⟩
   simp only[C6,hu,asAddr,Sem.run_bind,Sem.run_pure,Result.andThen]
   exact k1
  ·cases h1
theorem xj{e:Env}{tmps:Array Value}(hr:HR C ρ F H w)(he:ER w F ρ e tmps):∀(rvs:List ResultVar) (r1s:List u9) (ss:List SV),bN (rvs.map (yG C.P))=some r1s→bN (r1s.map (dI e H))=some ss→
 ∃fq:List Value,(rvs.mapM (C6 tmps)).run C.P w=.ok fq w∧ss.length=fq.length∧
  ∀(j:Nat) c v,ss[j]?=some c→fq[j]?=some v→VR w F ρ c v
 |[],r1s,ss,h1,h2=>by
  simp[bN]at h1;subst h1
  simp[bN]at h2;subst h2
  exact⟨[],rfl,rfl,by simp⟩
 |rv::rvs,r1s,ss,h1,h2=>by
  simp only[ZO]at h1
  cases hc:yG C.P rv with
  |none=>rw[hc]at h1;simp[bN]at h1
  |some r1=>
   rw[hc]at h1
   simp only[bN,Zb]at h1
   obtain⟨r1s',h1',rfl⟩:=h1
   simp only[ZO]at h2
   cases hs:dI e H r1 with
   |none=>rw[hs]at h2;simp[bN]at h2
   |some s=>
    rw[hs]at h2
    simp only[bN,Zb]at h2
    obtain⟨ss',h2',rfl⟩:=h2
    obtain⟨val,k1,k2⟩:=AM hr he hc hs
    obtain⟨fq,q1,q2,q3⟩:=xj hr he rvs r1s' ss' h1' h2'
    refine⟨val::fq,?_,by simp[q2],fun j c v hj hv=>?_⟩
    ·simp only[List.mapM_cons,Sem.run_bind,k1,q1,Result.andThen,Sem.run_pure]
    ·cases j with
     |zero=>simp at hj hv;subst hj;subst hv;exact k2
     |succ j=>simp at hj hv;exact q3 j c v hj hv
theorem qg{e:Env}{tmps:Array Value}{fn:Func}{r1s:List u9}{s:SV}(hr:HR C ρ F H w)(he:ER w F ρ e tmps)(h1:bN (fn.results.toList.map (yG C.P))=some r1s)(h2:results1 e H r1s=some s) :
 ∃val,(results fn tmps).run C.P w=.ok val w∧VR w F ρ s val:=by
 unfold results1 at h2
 simp only[Zb]at h2
 obtain⟨ss,h2,h3⟩:=h2
 obtain⟨fq,k1,k2,k3⟩:=xj hr he _ _ _ h1 h2
 refine⟨if h:fq.toArray.size=1 then fq.toArray[0]else .tuple fq.toArray,?_,?_⟩
 ·rw[xf]
  simp only[Sem.run_bind,Array.mapM_eq_mapM_toList,Sem.run_map]
  rw[k1]
  rfl
 ·split at h3
  ·rename_i v
   subst h3
   have hl:fq.length=1:=by simpa using k2.symm
   match fq,hl with
   |[x],_=>exact k3 0 v x rfl rfl
  ·rename_i hne
   subst h3
   have:¬fq.toArray.size=1:=by
    intro h
    simp only[List.size_toArray]at h
    match ss,k2 with
    |[v],_=>exact hne v rfl
    |[],k2=>simp at k2;omega
    |_::_::_,k2=>simp at k2;omega
   rw[dif_neg this]
   exact .ba (by simpa using k2) (fun j c v hj hv=>k3 j c v hj (by simpa using hv))
theorem nM{P:Program}{fn:Func}{tmps:Array Value}{R:Ending→World→Prop}{n:Nat}:∀(Ds:List Nat) (ds:List Deferred) (w:World),ds.map (·.target)=Ds.map Target.collected→Ds.Nodup→
 (∀D∈Ds,w.heap[D]?=some (.deferred (some [])))→
 (∀w':World,w'.heap.size=w.heap.size→(w'.os=w.os∧w'.output=w.output)→(∀B,B∉Ds→w'.heap[B]?=w.heap[B]?)→LeavesIn Fence.wide n P fn tmps R [] .returning w')→LeavesInM Fence.wide n P fn tmps R ds .returning w
 |[],ds,w,h1,_,_,hf=>by
  have:ds=[]:=by simpa using h1
  subst this
  exact hf w rfl ⟨rfl,rfl⟩ (fun _ _=>rfl)
 |D::Ds,ds,w,h1,h2,h3,hf=>by
  cases ds with
  |nil=>simp at h1
  |cons d ds=>
   simp only[ZO,aca]at h1
   have hnd:=aaX.1 h2
   refine⟨by simp,.inl ⟨D,_,h1.1,run_takeDeferred (h3 D (ZI ..)),nM Ds ds _ h1.2 hnd.2 (fun D' hD'=>?_) (fun w' hs ho hh=>hf w' (by rw[hs];simp) ho (fun B hB=>?_))⟩⟩
   ·rw[World.putObj_heap_other (by intro e;subst e;exact hnd.1 hD')]
    exact h3 D' (ZS _ hD')
   ·rw[hh B (fun h=>hB (ZS _ h)),World.putObj_heap_other (by intro e;subst e;exact hB (ZI ..))]
def FW(P:Program)(k:Nat)(f:FuncId):Prop:=∀(xs:List SV) (v:SV) (args:Array Value) (w:World),qF k xs=some v→bN (xs.map oq)=some args.toList→
 (callFunc f args).run P w=.ok (.enter f args) w∧∃val,oq v=some val∧Calls P f args w (fun e w'=>e=.returned val∧w'.os=w.os∧w'.output=w.output∧w.heap.size≤w'.heap.size∧∀B,B<w.heap.size→w'.heap[B]?=w.heap[B]?)
def sa(C:Ctx):Prop:=∀f k,C.dz.ext f=some k→FW C.P k f
theorem oQ{k:Nat}{xs:List SV}{v:SV}(h:qF k xs=some v):(∀x∈xs,∃y,oq x=some y)∧∃y,oq v=some y:=by
 unfold qF at h
 split at h
 ·replace h:=aj h
  obtain⟨_,h⟩:=h
  cases h
  exact⟨fun x hx=>by simp at hx;rcases hx with rfl|rfl<;>exact⟨_,rfl⟩,_,rfl⟩
 ·cases h
theorem xH:∀(xs:List SV) (as1:List Value),xs.length=as1.length→(∀(j:Nat) c v,xs[j]?=some c→as1[j]?=some v→VR w F ρ c v)→(∀x∈xs,∃y,oq x=some y)→bN (xs.map oq)=some as1
 |[],[],_,_,_=>rfl
 |[],_::_,h,_,_=>by simp at h
 |_::_,[],h,_,_=>by simp at h
 |x::xs,a::as1,h,hv,hs=>by
  obtain⟨y,hy⟩:=hs x (by simp)
  have:=AG (hv 0 x a rfl rfl) hy
  subst this
  simp only[ZO,hy,bN]
  rw[xH xs as1 (by simpa using h) (fun j c v hc hv'=>hv (j+1) c v (by simpa using hc) (by simpa using hv')) (fun z hz=>hs z (by simp[hz]))]
  rfl
theorem tK(xs:List SV):(dR xs).map (·.2)=xs:=by
 have:∀(xs:List SV) k,(dR.go k xs).map (·.2)=xs:=by
  intro xs
  induction xs with
  |nil=>intro k;rfl
  |cons x r ih=>intro k;simp only[dR.go,ZO,ih]
 exact this xs 0
theorem Ez{c:SV}{y:Value}(hs:oq c=some y):c.refs=0:=by
 unfold oq at hs
 split at hs<;>first|rfl|cases hs
theorem ux:∀(xs:List SV),(∀x∈xs,∃y,oq x=some y)→SV.refs.au xs=0
 |[],_=>rfl
 |x::xs,h=>by
  obtain⟨y,hy⟩:=h x (by simp)
  simp only[SV.refs.au,Ez hy,ux xs (fun z hz=>h z (by simp[hz]))]
  rfl
theorem Hf{N d:Nat}{c:SV}{y:Value}(hs:oq c=some y):ec N H (d+1) c=some c:=by
 unfold oq at hs
 split at hs<;>first|rfl|(simp[ec,SV.refs];done)|cases hs
theorem Ad{f:FuncId}{k:Nat}{xs:List SV}{v:SV}{args:Array Value}(hx:FW C.P k f)(h:qF k xs=some v)(hr:HR C ρ F H w)(ha:gP w F ρ xs args) :
 (callFunc f args).run C.P w=.ok (.enter f args) w∧∀n,CallsIn Fence.wide n C.P f args w (fun e w'=>∃val,e=.returned val∧dD C ρ F H w v H val w'):=by
 obtain⟨h1,val,h2,h3⟩:=hx xs v args w h (xH xs args.toList (by simpa using ha.1) (fun j c v hc hv=>ha.2 j c v hc (by simpa using hv)) (oQ h).1)
 refine⟨h1,fun n=>(callsIn_wide.2 h3).mono (fun e w' he=>?_)⟩
 obtain⟨rfl,ho,hq,hs,hb⟩:=he
 obtain⟨p1,p2⟩:=hr.same hs hb ⟨ho,hq⟩
 exact⟨val,rfl,ρ,F,Mw h2,p1,p2⟩
variable{T:FuncId→Option aC}{m:Nat}
theorem Dm(hmix:C.P.follows .mixedOrders=true)(hext:sa C)(hT:∀f F1,T f=some F1→uw C.P C.dz f=some F1)(hrec:fx C (aa T m)):Am C (aa T (m+1)):=by
 intro f xs H v H' h ρ F w args hr ha
 simp only[aa]at h
 split at h
 ·cases h
 rename_i F1 hF1
 have hc:=hT f F1 hF1
 unfold uw at hc
 split at hc
 ·rename_i k hk
  cases hc
  have hrun:∀{R:Type} (e:Env) (H:ab) (K:kT→Env→ab→Option R),run (aa T m) (.ext k) e H K ()=aN (qF k (e.map (·.2))) (fun v=>K .ret ((0,v)::e) H) ():=fun _ _ _=>rfl
  simp only[hrun,tK]at h
  cases hv:qF k xs with
  |none=>rw[hv]at h;simp[aN]at h
  |some v0=>
   obtain⟨y,hy⟩:=(oQ hv).2
   rw[hv]at h
   have hp:eA ⟨[.tmp 0],.ext k,false⟩ xs=true:=by
    unfold eA;rw[ux xs (oQ hv).1];rfl
   rw[hp]at h
   have hd:cA=7+1:=rfl
   simp only[Zr,aN,results1,ZO,abf,dI,get,aaz,bN,ZQ,ZV,hd,Hf hy,Zs,Zy]at h
   obtain⟨rfl,rfl⟩:=h
   exact Ad (hext _ _ hk) hv hr ha
 split at hc
 ·cases hc
 rename_i fn hfn
 split at hc
 ·cases hc
 rename_i body hbody
 replace hc:=eK hc
 obtain⟨hname,hc⟩:=hc
 split at hc
 rotate_left
 ·cases hc
 rename_i b1 rs hb1 hrs
 cases hc
 refine⟨?_,fun n=>?_⟩
 ·unfold callFunc
  have hname':¬fn.name= "runtime.NumGoroutine" :=by simpa using hname
  simp[Sem.run_bind,Sem.run,hfn,hname',hbody]
 ·have go:∀(R:Type) (fin:SV→ab→Option R) (r:R) (Q:Value→World→Prop) (ρ:Map) (H:ab),HR C ρ F H w→gP w F ρ xs args→
        run (aa T m) b1 (dR xs) {bl:=H.bl,bQ:=[],ro:=min H.ro H.bl.length} (fun x e H'=>match x with
         | .exit _=>none
         |_=>(results1 e H' rs).bind fun v=>fin v H') ()=some r→
        (∀v0 ρ2 F2 H2 w2 val,HR C ρ2 F2 H2 w2→Ext C ρ F {bl:=H.bl,bQ:=[],ro:=min H.ro H.bl.length} w ρ2 F2 H2 w2→VR w2 F2 ρ2 v0 val→fin v0 H2=some r→Q val w2)→
        CallsIn Fence.wide n C.P f args w (fun e w'=>∃val,e=.returned val∧Q val w'):=by
   intro R fin r Q ρ H hr ha h hfin
   refine callsIn_of_wp_marks hfn hbody trivial ?_
   let B:jJ:=⟨ρ,F,{bl:=H.bl,bQ:=[],ro:=min H.ro H.bl.length},w,w.heap.size⟩
   refine oW hmix hrec body b1 hb1 none n B _ _ _ r (dR xs) B.H _ w (fun l hl=>by cases hl) h (fun x e' H2 a' w' hk hrel=>?_)
    ⟨ρ,F,hr.bl rfl,xq ha,Ext.refl _ _ _ _,by simp;omega,Zp _,[],rfl,abX,by simp⟩
   have hgo:((results1 e' H2 rs).bind fun v=>fin v H2)=some r→
    LeavesInM Fence.wide n C.P fn a'.tmps (fun e w'=>∃val,e=.returned val∧Q val w') a'.defers .returning w':=by
    intro hk
    simp only[Zd]at hk
    obtain⟨v0,h1,h2⟩:=hk
    obtain⟨ρ2,F2,q1,q2,q3,q4,q5,Ds,q6,q7,q8⟩:=hrel
    refine nM Ds _ _ q6 q7 (fun D hD=>(q8 D hD).2.1) (fun w2 hs ho hh=>?_)
    obtain⟨z1,z2⟩:=q1.other q3 hs ho (fun Bk hB=>hh Bk (fun hD=>by
     obtain⟨g1,g2,g3,g4⟩:=q8 Bk hD
     rcases hB with hB|⟨b,l,ho,e⟩|hB
     ·exact g3 hB
     ·exact g4 b l ho e
     ·have:Bk<w.heap.size:=hB
      have:w.heap.size≤Bk:=g1
      omega))
    have he2:ER w2 F2 ρ2 e' a'.tmps:=fun t=>(q2 t).mono (fun Bk hB=>hh Bk (fun hD=>(q8 Bk hD).2.2.1 hB)) (fun _ h=>h) (Map.le_refl _)
    obtain⟨val,r1,r2⟩:=qg z1 he2 hrs h1
    exact⟨val,r1,val,rfl,hfin v0 ρ2 F2 H2 w2 val z1 z2 r2 h2⟩
   cases x with
   |normal=>exact hgo hk
   |ret=>exact hgo hk
   |exit id=>cases hk
  cases hp:eA ⟨rs,b1,(C.dz.keep f).isSome⟩ xs with
  |false=>
   rw[hp]at h
   exact go _ (fun v H2=>cR (C.dz.keep f).isSome H v H2) (v,H') _ ρ H hr ha h (fun v0 ρ2 F2 H2 w2 val k1 k2 k3 k4=>me hr k1 k2 k3 k4)
  |true=>
   rw[hp]at h
   simp only[Zr,Zb,Zy]at h
   obtain⟨v',h,rfl,rfl⟩:=h
   unfold eA at hp
   simp only[Zh,aah,ZK]at hp
   obtain⟨h0,hkeep⟩:=hp
   have hcut:ρ.cut 0=dj:=by funext b;simp[Map.cut]
   have hr0:HR C dj F ah w:=⟨(fun b l h=>by cases h),(fun b x h=>by simp[ah]at h),(fun b b' l l' h=>by cases h.2.1),(fun b l h=>by cases h.2.1),hr.gW⟩
   have ha0:gP w F dj xs args:=⟨ha.1,fun j c v hc hv=>by
    have:=(ha.2 j c v hc hv).cut 0 (eL (aaY h0) j c hc)
    rwa [hcut]at this⟩
   refine(go _ (fun v H2=>ec 0 H2 cA v) v' (fun val w2=>dD C dj F ah w v' ah val w2) dj ah hr0 ha0 h (fun v0 ρ2 F2 H2 w2 val k1 k2 k3 k4=>me (keep:=false) (v:=v0) hr0 k1 k2 k3 ?_)).mono (fun e w' he=>?_)
   ·have hall:H2.bQ.all (fun p=>!(decide (p.1<0)&&decide (0<p.2)))=true:=ZA.2 (fun p _=>by simp)
    have hfil:H2.bQ.filter (fun p=>decide (p.1<0))=[]:=List.filter_eq_nil_iff.2 (fun p _=>by simp)
    have htr:cV 0 ah H2=some ah:=by
     unfold cV
     rw[hall,hfil]
     simp[ah]
    show((ec 0 H2 cA v0).bind fun v=>(cV 0 ah H2).map fun H=>(v,H))=_
    rw[k4,htr]
    rfl
   ·obtain⟨val,rfl,ρ1,F1,d1,d2,d3⟩:=he
    have hnone:∀b,ρ1 b=none:=by
     intro b
     cases hb:ρ1 b with
     |none=>rfl
     |some l=>have:=d2.jn b l hb;simp[ah]at this
    have hno:∀b l,¬Own dj ah b l:=fun b l h=>by cases h.2.1
    obtain⟨p1,p2⟩:=hr.same d3.size (fun B hB=>d3.frame B hB (fun b l ho=>absurd ho (hno b l))) d3.out
    have bH:∀B,F1 B→F B∨w.heap.size≤B:=fun B hB=>by
     rcases d3.new B hB with h|h|⟨b,l,ho,_⟩
     ·exact .inl h
     ·exact .inr h
     ·exact absurd ho (hno b l)
    refine⟨val,rfl,ρ,F1,d1.mono (fun _ _=>rfl) (fun _ h=>h) (fun b l h=>by rw[hnone b]at h;cases h),p1.more d3.gW (fun B hB=>?_),p2.more d3.gW bH⟩
    rcases bH B hB with h|h
    ·exact .inl h
    ·exact .inr ⟨d2.gW B hB,fun b l ho e=>by have:=(hr.own b l ho).2;omega⟩
theorem C9(hmix:C.P.follows .mixedOrders=true)(hext:sa C)(hT:∀f F1,T f=some F1→uw C.P C.dz f=some F1)(hrec:fx C (aa T m)):AF C (aa T (m+1)):=by
 intro f xs H v H' h ρ F w args hr ha
 simp only[aa]at h
 split at h
 ·cases h
 rename_i F1 hF1
 have hc:=hT f F1 hF1
 unfold uw at hc
 split at hc
 ·rename_i k hk
  cases hc
  have hrun:∀{R:Type} (e:Env) (H:ab) (K:kT→Env→ab→Option R),run (aa T m) (.ext k) e H K ()=aN (qF k (e.map (·.2))) (fun v=>K .ret ((0,v)::e) H) ():=fun _ _ _=>rfl
  simp only[hrun,tK]at h
  cases hv:qF k xs with
  |none=>rw[hv]at h;simp[aN]at h
  |some v0=>
   obtain⟨y,hy⟩:=(oQ hv).2
   rw[hv]at h
   simp only[aN,results1,ZO,abf,dI,get,aaz,Zr,bN,ZQ,ZV,cR,ri,ZW,Zs,Zy]at h
   obtain⟨rfl,rfl⟩:=h
   exact Ad (hext _ _ hk) hv hr ha
 split at hc
 ·cases hc
 rename_i fn hfn
 split at hc
 ·cases hc
 rename_i body hbody
 replace hc:=eK hc
 obtain⟨hname,hc⟩:=hc
 split at hc
 rotate_left
 ·cases hc
 rename_i b1 rs hb1 hrs
 cases hc
 refine⟨?_,fun n=>?_⟩
 ·unfold callFunc
  have hname':¬fn.name= "runtime.NumGoroutine" :=by simpa using hname
  simp[Sem.run_bind,Sem.run,hfn,hname',hbody]
 ·have go:∀(R:Type) (fin:SV→ab→Option R) (r:R) (Q:Value→World→Prop) (ρ:Map) (H:ab),HR C ρ F H w→gP w F ρ xs args→
        run (aa T m) b1 (dR xs) {bl:=H.bl,bQ:=[],ro:=min H.ro H.bl.length} (fun x e H'=>match x with
         | .exit _=>none
         |_=>(results1 e H' rs).bind fun v=>fin v H') ()=some r→
        (∀v0 ρ2 F2 H2 w2 val,HR C ρ2 F2 H2 w2→Ext C ρ F {bl:=H.bl,bQ:=[],ro:=min H.ro H.bl.length} w ρ2 F2 H2 w2→VR w2 F2 ρ2 v0 val→fin v0 H2=some r→Q val w2)→
        CallsIn Fence.wide n C.P f args w (fun e w'=>∃val,e=.returned val∧Q val w'):=by
   intro R fin r Q ρ H hr ha h hfin
   refine callsIn_of_wp_marks hfn hbody trivial ?_
   let B:jJ:=⟨ρ,F,{bl:=H.bl,bQ:=[],ro:=min H.ro H.bl.length},w,w.heap.size⟩
   refine oW hmix hrec body b1 hb1 none n B _ _ _ r (dR xs) B.H _ w (fun l hl=>by cases hl) h (fun x e' H2 a' w' hk hrel=>?_)
    ⟨ρ,F,hr.bl rfl,xq ha,Ext.refl _ _ _ _,by simp;omega,Zp _,[],rfl,abX,by simp⟩
   have hgo:((results1 e' H2 rs).bind fun v=>fin v H2)=some r→
    LeavesInM Fence.wide n C.P fn a'.tmps (fun e w'=>∃val,e=.returned val∧Q val w') a'.defers .returning w':=by
    intro hk
    simp only[Zd]at hk
    obtain⟨v0,h1,h2⟩:=hk
    obtain⟨ρ2,F2,q1,q2,q3,q4,q5,Ds,q6,q7,q8⟩:=hrel
    refine nM Ds _ _ q6 q7 (fun D hD=>(q8 D hD).2.1) (fun w2 hs ho hh=>?_)
    obtain⟨z1,z2⟩:=q1.other q3 hs ho (fun Bk hB=>hh Bk (fun hD=>by
     obtain⟨g1,g2,g3,g4⟩:=q8 Bk hD
     rcases hB with hB|⟨b,l,ho,e⟩|hB
     ·exact g3 hB
     ·exact g4 b l ho e
     ·have:Bk<w.heap.size:=hB
      have:w.heap.size≤Bk:=g1
      omega))
    have he2:ER w2 F2 ρ2 e' a'.tmps:=fun t=>(q2 t).mono (fun Bk hB=>hh Bk (fun hD=>(q8 Bk hD).2.2.1 hB)) (fun _ h=>h) (Map.le_refl _)
    obtain⟨val,r1,r2⟩:=qg z1 he2 hrs h1
    exact⟨val,r1,val,rfl,hfin v0 ρ2 F2 H2 w2 val z1 z2 r2 h2⟩
   cases x with
   |normal=>exact hgo hk
   |ret=>exact hgo hk
   |exit id=>cases hk
  exact go _ (fun v H2=>cR true H v H2) (v,H') _ ρ H hr ha h (fun v0 ρ2 F2 H2 w2 val k1 k2 k3 k4=>me hr k1 k2 k3 k4)
theorem uh{b:Nat}{l:Loc}{q:eN}{st st':LoopState}{pend pend':kT}{Q:Loop}{p':Option Code}(hr:HR C ρ F H w)(hl:ρ b=some l)(hg:bk H b=some (.loop q st pend))(hH:cp H b (.loop q st' pend') 0=some H')
 (hQ:w.heap[l.cg]?=some (.loop Q)) (hp:p'=mg pend') :
 HR C ρ F H' (w.putObj l.cg (.loop {Q with state:=st',pending:=p'}))∧Ext C ρ F H w ρ F H' (w.putObj l.cg (.loop {Q with state:=st',pending:=p'})):=by
 obtain⟨l4,m4,m5⟩:=hr.live _ _ hg rfl
 rw[hl]at m4;cases m4
 obtain⟨hv,harr,Q2,g1,g2,g3,g4,g5,g6⟩:=id m5
 rw[hQ]at g1;cases g1
 have hlt:l.cg<w.heap.size:=(ZG.1 hQ).1
 have hown:Own ρ H b l:=⟨⟨_,hg,rfl⟩,hl,hv⟩
 have hkeep:∀Bk,Bk≠l.cg→(w.putObj l.cg (.loop {Q with state:=st',pending:=p'})).heap[Bk]?=w.heap[Bk]?:=fun Bk hne=>World.putObj_heap_other hne
 have hkk:dy F w (w.putObj l.cg (.loop {Q with state:=st',pending:=p'})):=fun Bk hB=>hkeep Bk (fun e=>(hr.own _ _ hown).1 (e▸hB))
 obtain⟨z1,z2⟩:=hr.set (w':=w.putObj l.cg (.loop {Q with state:=st',pending:=p'})) (l':=l) hH hg rfl hl (by simp) (fun Bk _ h=>hkeep Bk (h hv)) (fun h=>.inl ⟨h,rfl⟩) (.inl rfl)
  (fun _=>by
   rw[bW hl]
   exact⟨hv,harr,_,World.putObj_heap_same hlt,rfl,hp,g4,g5,fun t=>(g6 t).mono hkk (fun _ h=>h) (Map.le_refl _)⟩)
  (fun _ N _ _ hbr=>by
   rw[bW hl]
   obtain⟨_,_,q',b1,b2,b3,b4,b5,b6⟩:=hbr
   rw[hQ]at b1;cases b1
   exact⟨hv,harr,_,World.putObj_heap_same hlt,rfl,hp,b4,b5,fun t=>(b6 t).mono hkk (fun _ h=>h) (Map.le_refl _)⟩)
  (fun _=>⟨_,_,_,rfl⟩)
 rw[bW hl]at z1 z2
 exact⟨z1,z2⟩
theorem AP:∀(ps:List Nat) (xs:List SV) (args:List Value) (e:Env) (tmps:Array Value),ER w F ρ e tmps→xs.length=args.length→(∀t∈ps,t<tmps.size)→
 (∀(j:Nat) c v,xs[j]?=some c→args[j]?=some v→VR w F ρ c v)→ER w F ρ ((ps.zip xs).reverse++e) ((ps.zip args).foldl (fun tmps (p:Nat×Value)=>tmps.setIfInBounds p.1 p.2) tmps)∧((ps.zip args).foldl (fun tmps (p:Nat×Value)=>tmps.setIfInBounds p.1 p.2) tmps).size=tmps.size
 |[],xs,args,e,tmps,he,_,_,_=>by simpa using he
 |p::ps,[],[],e,tmps,he,_,_,_=>by simpa using he
 |p::ps,x::xs,a::args,e,tmps,he,hl,hp,hv=>by
  have he':ER w F ρ ((p,x)::e) (tmps.setIfInBounds p a):=AJ (a:={tmps:=tmps,defers:=[]}) he (hp p (by simp)) (hv 0 x a rfl rfl)
  obtain⟨h1,h2⟩:=AP ps xs args ((p,x)::e) (tmps.setIfInBounds p a) he' (by simpa using hl) (fun t ht=>by simpa using hp t (by simp[ht])) (fun j c v hc hv'=>hv (j+1) c v (by simpa using hc) (by simpa using hv'))
  refine⟨?_,by simpa using h2⟩
  simp only[List.zip_cons_cons,abV,Za,abg,aad]
  exact h1
 |p::ps,[],a::args,e,tmps,he,hl,_,_=>by simp at hl
 |p::ps,x::xs,[],e,tmps,he,hl,_,_=>by simp at hl
theorem yb{b:Nat}{l:Loc}{q:eN}{st:LoopState}{pend:kT}(hr:HR C ρ F H w)(hx:Ext C ρ0 F0 H0 w0 ρ F H w)(hl:ρ0 b=some l)(hla:l.arr=false)(hg:bk H b=some (.loop q st pend)) :
 ρ b=some l∧∃Q:Loop,w.heap[l.cg]?=some (.loop Q)∧Q.state=st∧Q.pending=mg pend:=by
 obtain⟨l3,m1,m2⟩:=hx.map b l hl
 have m3:l3=l:=by
  rcases m2 with h|⟨_,h,_⟩
  ·exact h
  ·rw[hla]at h;cases h
 subst m3
 obtain⟨l4,m4,m5⟩:=hr.live _ _ hg rfl
 rw[m1]at m4;cases m4
 obtain⟨hv,harr,Q2,g1,g2,g3,g4,g5,g6⟩:=m5
 exact⟨m1,Q2,g1,g2,g3⟩
theorem wy{b:Nat}{st':LoopState}{pend':kT}(h:eX b st' pend' H=some H'):∃q st pend,bk H b=some (.loop q st pend)∧cp H b (.loop q st' pend') 0=some H':=by
 unfold eX at h
 split at h
 ·rename_i q st pend hg;exact⟨q,st,pend,hg,h⟩
 ·cases h
theorem Hk(hmix:C.P.follows .mixedOrders=true)(hrec:fx C (aa T m)):FR C (aa T (m+1)):=by
 intro b xs H v H' h ρ F w args l hr ha hl
 simp only[aa]at h
 split at h
 rotate_left
 ·cases h
 rename_i q pend hb
 replace h:=aj h
 obtain⟨hlen,h⟩:=h
 have hlen:q.ps.length=xs.length:=by simpa using hlen
 obtain⟨l',hl',hbr⟩:=hr.live b _ hb rfl
 rw[hl]at hl';cases hl'
 obtain⟨hv,harr,Q,g1,g2,g3,g4,⟨g,nt,g5,g6,g7,g8⟩,g9⟩:=hbr
 have hsz:args.size=Q.params.size:=by
  rw[←ha.1,←hlen,←g4,abb]
 refine⟨_,_,_,_,run_yield g1 hsz,fun n=>?_⟩
 refine roundIn_of_wpIn trivial ?_
 let B:jJ:=⟨ρ,F,{bl:=H.bl,bQ:=[],ro:=min H.ro H.bl.length},w,w.heap.size⟩
 have hroB:∀l',some l.cg=some l'→∃q,B.w.heap[l']?=some (.loop q):=fun l' hl'=>by cases hl';exact⟨Q,g1⟩
 have hz:=AP q.ps xs args.toList q.env Q.tmps g9 (by simp[ha.1]) (fun t ht=>aaf (g6 t ht) g5) (fun j c v hc hv=>ha.2 j c v hc (by simpa using hv))
 have hfold:(Q.params.zip args).foldl (fun tmps (t,a)=>tmps.setIfInBounds t a) Q.tmps=(q.ps.zip args.toList).foldl (fun tmps (p:Nat×Value)=>tmps.setIfInBounds p.1 p.2) Q.tmps:=by
  rw[←Array.foldl_toList,Array.toList_zip,g4]
 rw[hfold]
 refine oW hmix hrec Q.assign q.assign g7 (some l.cg) n B _ _ _ (v,H') _ B.H _ w hroB h (fun x e' H2 a' w' hk hrel=>?_)
  ⟨ρ,F,hr.bl rfl,hz.1,Ext.refl _ _ _ _,by simpa[hz.2]using g5,Zp _,[],rfl,abX,by simp⟩
 cases x with
 |exit id=>cases hk
 |ret=>cases hk
 |normal=>
  simp only[Zd]at hk
  obtain⟨H3,hH3,hk⟩:=hk
  obtain⟨ρ2,F2,q1,q2,q3,q4,q5⟩:=hrel
  unfold ez at hH3
  split at hH3
  rotate_left
  ·cases hH3
  rename_i qq pp hg3
  obtain⟨k1,Q3,k2,k3,k4⟩:=yb q1 q3 hl harr hg3
  obtain⟨z1,z2⟩:=uh (p':=Q3.pending) q1 k1 hg3 hH3 k2 k4
  refine⟨_,run_beginRound k2 k3,?_⟩
  refine oW hmix hrec Q.body q.body g8 (some l.cg) n B _ _ _ (v,H') e' H3 a' _ hroB hk (fun x e4 H4 a4 w4 hk4 hrel4=>?_) ⟨ρ2,F2,z1,z2.er q1 q2,q3.trans z2,q4,q5.ext z2.toExt0⟩
  simp only[Zd,Zb,Zy]at hk4
  obtain⟨H5,hH5,H6,ht,hvv,rfl⟩:=hk4
  obtain⟨ρ4,F4,p1,p2,p3,p4,p5⟩:=hrel4
  obtain⟨qq4,st4,pp4,hg4,hset4⟩:=wy hH5
  obtain⟨y1,Q4,y2,y3,y4⟩:=yb p1 p3 hl harr hg4
  have fin:∀jump:Option Code,jump=mg x→cp H4 b (.loop qq4 (if jump.isNone then .ready else .done) x) 0=some H5→
   ∃v w',(Instr.endRound l.cg jump).run C.P w4=.ok v w'∧∃val,Ending.returned v=.returned val∧dD C ρ F H w (.bool jump.isNone) H6 val w':=by
   intro jump hj hset5
   obtain⟨u1,u2⟩:=uh (p':=jump) p1 y1 hg4 hset5 y2 hj
   refine⟨_,_,run_endRound jump y2,_,rfl,?_⟩
   obtain⟨o1,o2⟩:=od hr u1 (p3.trans u2) ht
   exact⟨_,_,.bool _,o1,o2⟩
  cases x with
  |normal=>subst hvv;exact fin none rfl hset4
  |exit id=>subst hvv;exact fin (some (.exit id)) rfl hset4
  |ret=>subst hvv;exact fin (some .ret) rfl hset4
theorem sD(hmix:C.P.follows .mixedOrders=true)(hext:sa C)(hT:∀f F1,T f=some F1→uw C.P C.dz f=some F1):∀m,fx C (aa T m)
 |0=>⟨fun f xs H v H' h=>by simp[aa]at h,fun f xs H v H' h=>by simp[aa]at h,fun b xs H v H' h=>by simp[aa]at h⟩
 |m+1=>⟨Dm hmix hext hT (sD hmix hext hT m),C9 hmix hext hT (sD hmix hext hT m),Hk hmix (sD hmix hext hT m)⟩
end
end
section
inductive KI where|code (c:cn)|cg (id:Nat)
noncomputable def w7 {R:Type} (rec:Rec) (fin:kT→Env→ab→Option R):(K:List KI)→kT→Env→ab→Option R
 |[],x,e,H=>fin x e H
 | .code b::K,.normal,e,H=>run rec b e H (w7 rec fin K) ()
 | .code _::K,x,e,H=>w7 rec fin K x e H
 | .cg id::K,.exit j,e,H=>bif j==id then w7 rec fin K .normal e H else w7 rec fin K (.exit j) e H
 | .cg _::K,x,e,H=>w7 rec fin K x e H
noncomputable def runK {R:Type} (rec:Rec) (fin:kT→Env→ab→Option R) (c:cn) (K:List KI) (e:Env) (H:ab) (_:oR (fin,c,K)):Option R:=run rec c e H (w7 rec fin K) ()
noncomputable def gY {R:Type} (rec:Rec) (fin:kT→Env→ab→Option R) (K:List KI) (x:kT) (e:Env) (H:ab) (_:oR (fin,K)):Option R:=w7 rec fin K x e H
noncomputable section
variable{R:Type}(rec:Rec)(fin:kT→Env→ab→Option R)(K:List KI)(e:Env)(H:ab)
theorem kc(c:cn)(k:kT→Env→ab→Option R):run rec c e H k ()=runK rec k c [] e H ():=Eq.trans rfl rfl
@[go_sem] theorem Oe (t):runK rec fin .skip K e H t=gY rec fin K .normal e H ():=Eq.trans rfl rfl
@[go_sem] theorem Qr (l t):runK rec fin (.ops l) K e H t=cc rec l e H (fun e H=>gY rec fin K .normal e H ()) ():=Eq.trans rfl rfl
@[go_sem] theorem KY (l t):runK rec fin (.drawn l) K e H t=bX rec l H.bl.length e H (fun e H=>gY rec fin K .normal e H ()) ():=Eq.trans rfl rfl
@[go_sem] theorem Uy (a b t):runK rec fin (.seq a b) K e H t=runK rec fin a (.code b::K) e H ():=by
  show run rec a e H _ _=run rec a e H _ _
  congr 1
  funext x e' H'
  cases x<;>rfl
@[go_sem] theorem Oh (c a b t):runK rec fin (.cond c a b) K e H t=qm (ev e c) (fun t=>fork t (runK rec fin a K e H ()) (runK rec fin b K e H ()) ()) ():=Eq.trans rfl rfl
@[go_sem] theorem MB (id a t):runK rec fin (.block id a) K e H t=runK rec fin a (.cg id::K) e H ():=by
  show run rec a e H _ _=run rec a e H _ _
  congr 1
  funext x e' H'
  cases x<;>rfl
@[go_sem] theorem PA (l os t):runK rec fin (.perm l os) K e H t=aN (iU (os.map (jl rec l e H))) (fun s=>gY rec fin K .normal s.1 s.2 ()) ():=Eq.trans rfl rfl
def Ln(rec:Rec)(p l:List aK)(e:Env)(H:ab):Option (Env×ab):=cc rec p e H (fun e' H'=>some (eF l e' e,H')) ()
@[go_sem] theorem VA (l o):jl rec l e H o=Ln rec (cC l o) l e H:=Eq.trans rfl rfl
@[go_sem] theorem On (o p l):Ln rec (o::p) l e H=cc rec (o::p) e H (fun e' H'=>some (eF l e' e,H')) ():=Eq.trans rfl rfl
@[go_sem] theorem T3 (l):cC l []=[]:=Eq.trans rfl rfl
@[go_sem] theorem Pu (l i r):cC l (i::r)=xR l[i]? (cC l r):=Eq.trans rfl rfl
@[go_sem] theorem Kf (o r):xR (some o) r=o::r:=Eq.trans rfl rfl
@[go_sem] theorem Qe (e e0):eF [] e e0=e0:=Eq.trans rfl rfl
@[go_sem] theorem N8 (d op g l e e0):eF (⟨some d,op,g⟩::l) e e0=(d,get e d)::eF l e e0:=Eq.trans rfl rfl
@[go_sem] theorem O7 (op g l e e0):eF (⟨none,op,g⟩::l) e e0=eF l e e0:=Eq.trans rfl rfl
@[go_sem] theorem IK {A:Type}(a:Option A):iU [a]=a:=Eq.trans rfl rfl
@[go_sem] theorem IU {A:Type}(a:Option A)(r):iU (a::a::r)=iU (a::r):=by rw[iU,if_pos rfl]
@[go_sem] theorem Pw (id t):runK rec fin (.exit id) K e H t=gY rec fin K (.exit id) e H ():=Eq.trans rfl rfl
@[go_sem] theorem UZ (t):runK rec fin .ret K e H t=gY rec fin K .ret e H ():=Eq.trans rfl rfl
@[go_sem] theorem Ph (vs t):runK rec fin (.bB vs) K e H t=aN (eZ vs e H) (fun s=>gY rec fin K .normal s.1 s.2 ()) ():=Eq.trans rfl rfl
def eP(p:ct)(N:Nat)(H0:ab)(rec:Rec)(a:cn)(s':Env×ab):Option Out:=(dU p N H0 s').bind fun s'=>run rec a s'.1 s'.2 (fun x e H=>some (x,e,H)) ()
@[go_sem] theorem Pc (p a t):runK rec fin (.loop p a) K e H t=aN (eZ p.bB e H) (fun s=>aN (ki (eP p s.2.bl.length {bl:=s.2.bl,bQ:=[],ro:=s.2.ro} rec a) (s.1,{bl:=s.2.bl,bQ:=[],ro:=s.2.ro}))
 (fun o=>gY rec fin K o.1 o.2.1 {bl:=o.2.2.bl,bQ:=s.2.bQ++o.2.2.bQ,ro:=o.2.2.ro} ()) ()) ():=Eq.trans rfl rfl
@[go_sem] theorem IT (f ps x y t):runK rec fin (.gT f ps x y) K e H t=aN (ov rec (ev e f) [.fp H.bl.length] (bH H (.loop ⟨e,ps,x,y⟩ .ready .normal))) (fun r=>
 match bk r.2 H.bl.length with
 |some (.loop q st pend)=>match st with
  | .busy=>none
  |_=>aN (cp r.2 H.bl.length (.loop q .exhausted pend) 0) (fun H=>gY rec fin K pend e H ()) ()
 |_=>none) ():=Eq.trans rfl rfl
@[go_sem] theorem PX (x t):gY rec fin [] x e H t=fin x e H:=Eq.trans rfl rfl
@[go_sem] theorem Br (b t):gY rec fin (.code b::K) .normal e H t=runK rec fin b K e H ():=Eq.trans rfl rfl
@[go_sem] theorem FD (b t):gY rec fin (.code b::K) .ret e H t=gY rec fin K .ret e H ():=Eq.trans rfl rfl
@[go_sem] theorem EC (b id t):gY rec fin (.code b::K) (.exit id) e H t=gY rec fin K (.exit id) e H ():=Eq.trans rfl rfl
@[go_sem] theorem CW (b t):gY rec fin (.cg b::K) .normal e H t=gY rec fin K .normal e H ():=Eq.trans rfl rfl
@[go_sem] theorem Hs (b t):gY rec fin (.cg b::K) .ret e H t=gY rec fin K .ret e H ():=Eq.trans rfl rfl
@[go_sem] theorem FY (b id t):gY rec fin (.cg b::K) (.exit id) e H t=bif id==b then gY rec fin K .normal e H ()else gY rec fin K (.exit id) e H ():=Eq.trans rfl rfl
end
section
variable{R:Type}
@[go_sem] theorem Je (x y:R)(t:oR (x,y)):fork true x y t=x:=Eq.trans rfl rfl
@[go_sem] theorem Ii (x y:R)(t:oR (x,y)):fork false x y t=y:=Eq.trans rfl rfl
theorem aM{b:Bool}{x y r:R}{t:oR (x,y)}(h1:b=true→x=r)(h2:b=false→y=r):fork b x y t=r:=by
 cases b
 ·exact h2 rfl
 ·exact h1 rfl
@[go_sem] theorem DH (b w:Bool)(f:Bool→Option R)(t:oR f):fj (.bool b) w f t=f (b==w):=Eq.trans rfl rfl
@[go_sem] theorem Fh (w:Bool)(f:Bool→Option R)(t:oR f):fj .iz w f t=f false:=Eq.trans rfl rfl
@[go_sem] theorem FB (b:Bool)(f:Bool→Option R)(t:oR f):qm (.bool b) f t=f b:=Eq.trans rfl rfl
@[go_sem] theorem FZ {A:Type}(v:A)(f:A→Option R)(t:oR f):aN (some v) f t=f v:=Eq.trans rfl rfl
@[go_sem] theorem Mj {A:Type}(x y:A):(bif true then x else y)=x:=Eq.trans rfl rfl
@[go_sem] theorem I0 {A:Type}(x y:A):(bif false then x else y)=y:=Eq.trans rfl rfl
end
@[go_sem] theorem Yc (e:Env)(n:Nat):ev e (.t n)=get e n:=Eq.trans rfl rfl
@[go_sem] theorem WI (e:Env)(v:SV):ev e (.c v)=v:=Eq.trans rfl rfl
@[go_sem] theorem K4 (j i:Nat)(v:SV)(e:Env):get ((j,v)::e) i=bif i==j then v else get e i:=Eq.trans rfl rfl
@[go_sem] theorem GY (e:Env)(v:SV):cb e none v=e:=Eq.trans rfl rfl
@[go_sem] theorem Hn (e:Env)(d:Nat)(v:SV):cb e (some d) v=(d,v)::e:=Eq.trans rfl rfl
@[go_sem] theorem I1 (x:SV)(r:List SV):dR (x::r)=(0,x)::dR.go 1 r:=Eq.trans rfl rfl
@[go_sem] theorem J1:dR []=[]:=Eq.trans rfl rfl
@[go_sem] theorem Pv (i:Nat)(x:SV)(r:List SV):dR.go i (x::r)=(i,x)::dR.go (i+1) r:=Eq.trans rfl rfl
@[go_sem] theorem Tw (i:Nat):dR.go i []=[]:=Eq.trans rfl rfl
section
variable{R:Type}(rec:Rec)(e:Env)(H:ab)(k:Env→ab→Option R)
@[go_sem] theorem Tp (t):cc rec [] e H k t=k e H:=Eq.trans rfl rfl
@[go_sem] theorem Pq (d:Option Nat)(op:kQ)(os:List aK)(t):cc rec (⟨d,op,none⟩::os) e H k t=aN (aq rec e H op) (fun r=>cc rec os (cb e d r.1) r.2 k ()) ():=Eq.trans rfl rfl
@[go_sem] theorem Km (d:Option Nat)(x:Nat)(w:Bool)(op:kQ)(os:List aK)(t):cc rec (⟨d,op,some (x,w)⟩::os) e H k t=fj (get e x) w (fun b=>fork b (aN (aq rec e H op) (fun r=>cc rec os (cb e d r.1) r.2 k ()) ())
 (cc rec os (cb e d .iz) H k ()) ()) ():=Eq.trans rfl rfl
@[go_sem] theorem QW (N t):bX rec [] N e H k t=k e H:=Eq.trans rfl rfl
@[go_sem] theorem Oj (d:Option Nat)(op:kQ)(q:bE)(os:List (aK×bE))(N t):bX rec ((⟨d,op,none⟩,q)::os) N e H k t=aN (bY rec N q e H op) (fun r=>bX rec os (fA q N r.2) (cb e d r.1) r.2 k ()) ():=Eq.trans rfl rfl
@[go_sem] theorem M7 (d:Option Nat)(x:Nat)(w:Bool)(op:kQ)(q:bE)(os:List (aK×bE))(N t):bX rec ((⟨d,op,some (x,w)⟩,q)::os) N e H k t=
 fj (get e x) w (fun b=>fork b (aN (bY rec N q e H op) (fun r=>bX rec os (fA q N r.2) (cb e d r.1) r.2 k ()) ())
  (bif hU q then bX rec os (fA q N H) (cb e d .iz) H k ()else none) ()) ():=Eq.trans rfl rfl
@[go_sem] theorem Pz (h n o N):fA ⟨.pure,h,n,o⟩ N H=N:=Eq.trans rfl rfl
@[go_sem] theorem Su (h n o N):fA ⟨.jE,h,n,o⟩ N H=N:=Eq.trans rfl rfl
@[go_sem] theorem RB (h n o N):fA ⟨.gl,h,n,o⟩ N H=H.bl.length:=Eq.trans rfl rfl
@[go_sem] theorem Oq (h n o):hU ⟨.pure,h,n,o⟩=true:=Eq.trans rfl rfl
@[go_sem] theorem T5 (h n o):hU ⟨.gl,h,n,o⟩=true:=Eq.trans rfl rfl
@[go_sem] theorem TD (h o):hU ⟨.jE,h,0,o⟩=true:=Eq.trans rfl rfl
@[go_sem] theorem N7 (op N h n o):bY rec N ⟨.pure,h,n,o⟩ e H op=aq rec e H op:=Eq.trans rfl rfl
theorem wb(N:Nat)(H:ab):∀d,ec N H d=ec N ⟨H.bl,[],0⟩ d
 |0=>by funext v;rfl
 |d+1=>by
  have ih:=wb N H d
  funext v
  simp only[ec]
  rw[ih]
  rfl
theorem Cz(N o f xs):bY rec N ⟨.jE,[],0,o⟩ e H (.iW f xs)=aq rec e H (.iW f xs):=by
 simp only[bY,aq,rP,cz,acF]
 rw[wb 0 {bl:=H.bl,bQ:=[],ro:=H.bl.length},wb 0 H]
 cases bN ((xs.map (ev e)).map (ec 0 ⟨H.bl,[],0⟩ cA))with
 |none=>rfl
 |some vs=>
  simp only[ZV]
  cases rec (.fn f) vs ⟨[],[],0⟩with
  |none=>rfl
  |some r=>
   simp only[ZV]
   cases wG r.1<;>simp
attribute [go_sem] Cz
theorem pR(N:Nat):∀(h:List Nat) (l:List aD),(cz N h l).length=l.length
 |[],_=>rfl
 |d::h,l=>by
  have:=pR N h (l.set (N+d) .dead)
  simp only[cz,aad]at this⊢
  rw[this,Zv]
def v3:kQ→Bool
 | .load .. | .ai .. | .bu .. | .gj .. | .len .. | .gU .. | .dS .. | .isNil .. =>true
 |_=>false
theorem As{op:kQ}(h:v3 op=true):∃g:List aD→Option SV,∀H:ab,aq rec e H op=(g H.bl).map (·,H):=by
 cases op<;>try (exfalso;simp only[v3,ZY]at h;done)
 case load ag n a=>exact⟨fun bl=>cW ag n ⟨bl,[],0⟩ (ev e a),fun H=>by
  simp only[aq,b9];congr 1⟩
 case isNil k neg x=>exact⟨fun bl=>(fG ⟨bl,[],0⟩ k (ev e x)).map fun b=>.bool (neg ^^ b),fun H=>by
  simp only[aq,b9]
  have:fG H k (ev e x)=fG ⟨H.bl,[],0⟩ k (ev e x):=rfl
  rw[this];cases fG ⟨H.bl,[],0⟩ k (ev e x)<;>rfl⟩
 case dS x=>exact⟨fun bl=>bif cur ⟨bl,[],0⟩ (ev e x)then kr (ev e x)else none,fun H=>by
  simp only[aq,b9]
  have:cur H (ev e x)=cur ⟨H.bl,[],0⟩ (ev e x):=rfl
  rw[this];cases cur ⟨H.bl,[],0⟩ (ev e x)<;>rfl⟩
 case gU bP x lo hi mx=>exact⟨fun bl=>bif dY ⟨bl,[],0⟩ bP (ev e x)then(lV (ev e x) (lo.map (ev e)) (hi.map (ev e)) (mx.map (ev e))).orElse fun _=>im ⟨bl,[],0⟩ (ev e x) (lo.map (ev e)) (hi.map (ev e)) (mx.map (ev e))else none,fun H=>by
  simp only[aq,b9]
  have:dY H bP (ev e x)=dY ⟨H.bl,[],0⟩ bP (ev e x):=rfl
  rw[this];cases dY ⟨H.bl,[],0⟩ bP (ev e x)<;>rfl⟩
 case ai off x=>exact⟨fun bl=>bif cur ⟨bl,[],0⟩ (ev e x)then eY off (ev e x)else none,fun H=>by
  simp only[aq,b9]
  have:cur H (ev e x)=cur ⟨H.bl,[],0⟩ (ev e x):=rfl
  rw[this];cases cur ⟨H.bl,[],0⟩ (ev e x)<;>rfl⟩
 case bu bP x ix=>exact⟨fun bl=>bif dY ⟨bl,[],0⟩ bP (ev e x)then iq (ev e x) (ev e ix)else none,fun H=>by
  simp only[aq,b9]
  have:dY H bP (ev e x)=dY ⟨H.bl,[],0⟩ bP (ev e x):=rfl
  rw[this];cases dY ⟨H.bl,[],0⟩ bP (ev e x)<;>rfl⟩
 case gj len bP x ix=>exact⟨fun bl=>bif cur ⟨bl,[],0⟩ (ev e x)then(iD len (ev e ix)).bind fun i=>eY (i*bP) (ev e x)else none,fun H=>by
  simp only[aq,b9]
  have:cur H (ev e x)=cur ⟨H.bl,[],0⟩ (ev e x):=rfl
  rw[this];cases cur ⟨H.bl,[],0⟩ (ev e x)with
  |true=>simp only[Zr];cases iD len (ev e ix)<;>rfl
  |false=>rfl⟩
 case len x=>exact⟨fun bl=>bif cur ⟨bl,[],0⟩ (ev e x)then(oM (ev e x)).map fun(n:Nat)=>.int .i64 n else none,fun H=>by
  simp only[aq,b9]
  have:cur H (ev e x)=cur ⟨H.bl,[],0⟩ (ev e x):=rfl
  rw[this];cases cur ⟨H.bl,[],0⟩ (ev e x)with
  |true=>simp only[Zr];cases oM (ev e x)<;>rfl
  |false=>rfl⟩
theorem m9{op:kQ}(h:v3 op=true)(N o):bY rec N ⟨.jE,[],0,o⟩ e H op=aq rec e H op:=by
 obtain⟨g,hg⟩:=As rec e h
 simp only[bY,hg,cz,acF]
 cases hq:g H.bl with
 |none=>rfl
 |some v=>simp
@[go_sem] theorem O6 (N o ag n a):bY rec N ⟨.jE,[],0,o⟩ e H (.load ag n a)=aq rec e H (.load ag n a):=m9 rec e H (by rfl) N o
@[go_sem] theorem Nu (N o n a):bY rec N ⟨.jE,[],0,o⟩ e H (.ai n a)=aq rec e H (.ai n a):=m9 rec e H (by rfl) N o
@[go_sem] theorem IM (N o n a b):bY rec N ⟨.jE,[],0,o⟩ e H (.bu n a b)=aq rec e H (.bu n a b):=m9 rec e H (by rfl) N o
@[go_sem] theorem Ve (N o a):bY rec N ⟨.jE,[],0,o⟩ e H (.len a)=aq rec e H (.len a):=m9 rec e H (by rfl) N o
@[go_sem] theorem IW (N o a):bY rec N ⟨.jE,[],0,o⟩ e H (.dS a)=aq rec e H (.dS a):=m9 rec e H (by rfl) N o
@[go_sem] theorem Oc (N h n o f xs):bY rec N ⟨.jE,h,n,o⟩ e H (.call f xs)=aN (j6 rec (ev e f) (xs.map (ev e)) {bl:=cz N h H.bl,bQ:=[],ro:=H.bl.length}) (fun r=>
 bif r.2.bl.length==H.bl.length+n&&r.2.bQ.isEmpty then some (r.1,{bl:=H.bl++r.2.bl.drop H.bl.length,bQ:=H.bQ,ro:=H.ro})else none) ():=Eq.trans rfl (by cases hq:j6 rec (ev e f) (xs.map (ev e)) {bl:=cz N h H.bl,bQ:=[],ro:=H.bl.length}<;>simp[aN,bY,aq,hq])
theorem wS(N h n o op):bY rec N ⟨.jE,h,n,o⟩ e H op=aN (aq rec e {bl:=cz N h H.bl,bQ:=[],ro:=H.bl.length} op) (fun r=>
 bif r.2.bl.length==H.bl.length+n&&r.2.bQ.isEmpty then some (r.1,{bl:=H.bl++r.2.bl.drop H.bl.length,bQ:=H.bQ,ro:=H.ro})else none) ():=by
 show(aq rec e _ op).bind _=_
 cases aq rec e {bl:=cz N h H.bl,bQ:=[],ro:=H.bl.length} op<;>rfl
@[go_sem] theorem ME (N h o z):bY rec N ⟨.jE,h,1,o⟩ e H (.alloc z)=some (.ptr H.bl.length 0 0 0,{bl:=H.bl++[.box z],bQ:=H.bQ,ro:=H.ro}):=by
  rw[wS]
  have hl:=pR N h H.bl
  have hd:(cz N h H.bl++[aD.box z]).drop H.bl.length=[.box z]:=by rw[←hl];simp
  simp[aq,b9,aN,bH,hl,hd]
@[go_sem] theorem Qs (N h o x):bY rec N ⟨.jE,h,1,o⟩ e H (.box x)=(cm (ev e x)).map fun cs=>(.ptr H.bl.length 0 0 0,{bl:=H.bl++[.box cs],bQ:=H.bQ,ro:=H.ro}):=by
  rw[wS]
  have hl:=pR N h H.bl
  simp only[aq,b9]
  cases cm (ev e x)with
  |none=>rfl
  |some cs=>
   have hd:(cz N h H.bl++[aD.box cs]).drop H.bl.length=[.box cs]:=by rw[←hl];simp
   simp[aN,bH,hl,hd]
@[go_sem] theorem G7 (N h n o a b c d f):bY rec N ⟨.jE,h,n,o⟩ e H (.dJ a b c d f)=aN (aq rec e {bl:=cz N h H.bl,bQ:=[],ro:=H.bl.length} (.dJ a b c d f)) (fun r=>
 bif r.2.bl.length==H.bl.length+n&&r.2.bQ.isEmpty then some (r.1,{bl:=H.bl++r.2.bl.drop H.bl.length,bQ:=H.bQ,ro:=H.ro})else none) ():=wS rec e H N h n o _
@[go_sem] theorem Qp (op N h n o):bY rec N ⟨.gl,h,n,o⟩ e H op=aN (aq rec e H op) (fun r=>bif decide (H.bl.length≤r.2.bl.length)then some r else none) ():=by
  show(aq rec e H op).bind _=_
  cases aq rec e H op<;>rfl
end
end
end Go.Sh
