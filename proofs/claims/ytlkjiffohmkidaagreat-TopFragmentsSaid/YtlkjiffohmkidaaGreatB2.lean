/- A part of the proof: texts ShH, ShI, ShJ, ShK, ShL, ShM, ShN, ShO, ShP, ShQ, ShR, ShRa. -/
import Derived.Laws.StructEq
import Derived.Laws.Append
import Derived.Test.YtlkjiffohmkidaaGreatB1
namespace Go.Sh
set_option linter.unusedSectionVars false
set_option linter.unnecessarySimpa false
set_option linter.unusedSimpArgs false
set_option linter.unusedVariables false
set_option maxRecDepth 100000
set_option maxHeartbeats 4000000
section
section
variable{C:Ctx}{ρ:Map}{F:Nat→Prop}{H H':ae}{w:World}{e:Env}{a:Act}{s:SV}
theorem qW{ag:Bool}{n o:Nat}{cs:List SV}(h:cG ag n cs o=some s):o+(if ag then n else 1)≤cs.length:=by
 unfold cG at h
 cases ag with
 |false=>simp only[Oa]at h;have:=(NT.1 h).1;simp;omega
 |true=>
  by_cases hle:o+n≤cs.length
  ·simpa using hle
  ·simp[hle]at h
theorem nW{P:Program}{t:TypeId}{ag:Bool}{n o at_ B:Nat}{cs:List SV}{vs:Array Value}{ty:TypeId}{fz:Nat×Nat}(hag:gZ P t=some ag)(hsz:eO P t=some n)
 (hb:w.heap[B]?=some (.cells vs ty fz)) (hc:aT w F ρ vs at_ cs) (hle:at_+cs.length≤vs.size) (h:cG ag n cs o=some s) :
 ∃val,(loadVar t ⟨B,at_+o,none⟩).run P w=.ok val w∧VR w F ρ s val:=by
 have h1:=qW h
 obtain⟨h2,h3⟩:=nA h hc hle
 obtain⟨r1,r2⟩:=nN (o:=at_+o) hag hsz hb (by omega)
 cases ag with
 |true=>exact⟨_,r1 rfl,h2 rfl⟩
 |false=>obtain⟨v,hv,hr⟩:=h3 rfl;exact⟨v,r2 rfl v hv,hr⟩
theorem tN(hr:HR C ρ F H w){b bU i o:Nat}{v:Value}{cs:List SV}(hv:VR w F ρ (.ptr b bU i o) v)(hb:az H b=some (.box cs))(hi:i=0) :
 ∃l vs ty fz,ρ b=some l∧l.aL=false∧l.arr=false∧l.bU=0∧v=.pointer (some ⟨l.bq,o,none⟩)∧w.heap[l.bq]?=some (.cells vs ty fz)∧iW fz vs.size∧vs.size=cs.length∧aT w F ρ vs 0 cs∧
  BR C w F ρ l (.box cs):=by
 obtain⟨l,hl,hbr⟩:=hr.live b _ hb rfl
 have hbr':=hbr
 obtain⟨h1,h2,h3,h4,h5,vs,ty,fz,h6,h7,h8,h9⟩:=hbr
 cases hv with
 |ptr h hv hc ha=>
  rw[hl]at h;cases h
  obtain⟨_,rfl⟩:=ha (by omega)
  subst hi
  exact⟨l,vs,ty,fz,hl,h1,h2,h4,by simp[h3],h6,h7,h8,h9,hbr'⟩
theorem tI(hr:HR C ρ F H w){b bU i o z:Nat}{v:Value}{L:List (List SV)}{ex:Bool}(hv:VR w F ρ (.ptr b bU i o) v)(hb:az H b=some (.arr bU z L ex)) :
 ∃l vs ty fz,ρ b=some l∧l.aL=false∧l.bU=bU∧l.arr=true∧l.bg=z∧v=.pointer (some ⟨l.bq,l.base+i*z+o,none⟩)∧w.heap[l.bq]?=some (.cells vs ty fz)∧iW fz vs.size∧
  l.base+l.cap*z≤vs.size∧L.length≤l.cap∧(∀(i:Nat) cs,L[i]?=some cs→cs.length=z)∧(∀(i:Nat) cs,L[i]?=some cs→aT w F ρ vs (l.base+i*z) cs)∧BR C w F ρ l (.arr bU z L ex):=by
 obtain⟨l,hl,hbr⟩:=hr.live b _ hb rfl
 have hbr':=hbr
 obtain⟨h1,h2,h3,h4,h5,h6,h7,h8⟩:=hbr
 cases hv with
 |ptr h hv hc ha=>
  rw[hl]at h;cases h
  obtain⟨hvi,rfl⟩:=ha h2.symm
  obtain⟨vs,ty,fz,k1,k2,k3,k4⟩:=h8 hvi
  exact⟨l,vs,ty,fz,hl,hvi,h2,h1,h3,by rw[h3],k1,k2,k3,h5,h4,k4,hbr'⟩
theorem tB{L:List (List SV)}{i z cap base n:Nat}{cs:List SV}(hi:L[i]?=some cs)(hz:cs.length=z)(hL:L.length≤cap)(hn:base+cap*z≤n):base+i*z+cs.length≤n:=by
 have h1:=(NT.1 hi).1
 have h2:(i+1)*z≤cap*z:=Om z (by omega)
 rw[Ox,Pq]at h2
 omega
theorem tT{c:SV}{t:TypeId}{ag:Bool}{n:Nat}{u:Value}(hag:gZ C.P t=some ag)(hsz:eO C.P t=some n)(hr:HR C ρ F H w)(hv:VR w F ρ c u)
 (h:cw ag n H c=some s):∃q val,u=.pointer (some q)∧(loadVar t q).run C.P w=.ok val w∧VR w F ρ s val:=by
 unfold cw at h
 split at h
 ·rename_i b bU i o
  split at h
  ·rename_i cs hb
   replace h:=af h
   obtain⟨hi,h⟩:=h
   obtain⟨l,vs,ty,fz,hl,k1,k1a,k2,k3,k4,k5,k6,k7,_⟩:=tN hr hv hb (by simpa using hi)
   subst k3
   obtain⟨val,r1,r2⟩:=nW hag hsz k4 k7 (by omega) h
   rw[OY]at r1
   exact⟨_,val,rfl,r1,r2⟩
  ·rename_i ver' z L ex hb
   replace h:=af h
   obtain⟨hve,h⟩:=h
   have hve:bU=ver':=by simpa using hve
   subst hve
   split at h
   ·rename_i cs hcs
    obtain⟨l,vs,ty,fz,hl,k1,k2,k2a,k3,k4,k5,k6,k7,k8,k9,k10,_⟩:=tI hr hv hb
    subst k4
    obtain⟨val,r1,r2⟩:=nW hag hsz k5 (k10 i cs hcs) (tB hcs (k9 i cs hcs) k8 k7) h
    exact⟨_,val,rfl,r1,r2⟩
   ·cases h
  ·cases h
 ·rename_i cs
  cases hv with
  |eS V hF hc h1 hv=>
   rename_i B o
   have hle:=qW h
   have r:=iQ (w:=w) hag hsz (B:=B) (o:=o) V (fun j hj=>hc j _ (N4 (by omega)))
   refine⟨_,_,rfl,r,?_⟩
   unfold cG at h
   cases ag with
   |false=>
    simp only[Oa]at h
    exact(hv 0 s h).mono (fun _ _=>rfl) (fun _ h=>h) (iY _)
   |true=>
    simp at hle
    simp[hle]at h
    subst h
    refine .agg (by simp;omega) (fun j c hj=>?_) (fun j c v hj hv'=>?_)
    ·rw[Ob]at hj
     split at hj
     ·exact h1 j c hj
     ·cases hj
    ·rw[Ob]at hj
     split at hj
     ·rename_i hlt
      simp[hlt]at hv'
      subst hv'
      exact(hv j c hj).mono (fun _ _=>rfl) (fun _ h=>h) (iY _)
     ·cases hj
 ·cases h
theorem yN{t:TypeId}{ag:Bool}{n:Nat}{x:Operand}{y:bj}(hag:gZ C.P t=some ag)(hsz:eO C.P t=some n)(hx:aG x=some y)(hr:HR C ρ F H w)(he:ER w F ρ e a.tmps)
 (h:cw ag n H (ev e y)=some s):aJ C (do pure (.value (←Instr.loadAt t (a.eval x)))) ρ F H w s H:=by
 obtain⟨q,val,hu,h1,h2⟩:=tT hag hsz hr (ar hx he) h
 refine aJ.val hr (val:=val) ?_ h2
 unfold Instr.loadAt
 rw[hu]
 simpa[Instr.sureAddr,Sem.run]using h1
theorem ju{vs:Array Value}{at_ o n:Nat}{cs xs:List SV}{v:Value}(hc:aT w F ρ vs at_ cs)(hx:aT w F ρ v.cells 0 xs)(hn:xs.length=n)(hxn:xs.length=v.cells.size)(hle:o+n≤cs.length)
 (hsz:at_+cs.length≤vs.size):aT w F ρ (kp vs (at_+o) v.cells.toList) at_ (eL cs o n xs):=by
 intro j c hj
 have hl:v.cells.toList.length=n:=by simp;omega
 rw[ik (by omega),hl]
 unfold eL at hj
 rw[NR,Pa]at hj
 have ht:(cs.take o).length=o:=by simp;omega
 rw[ht]at hj
 split at hj
 ·rename_i hlt
  rw[Ob,if_pos hlt]at hj
  rw[if_pos (by omega)]
  exact hc j c hj
 ·rename_i hge
  rw[Pa]at hj
  split at hj
  ·rename_i hlt
   rw[if_neg (by omega),if_pos (by omega)]
   obtain⟨v',h1,h2,h3⟩:=hx _ c hj
   refine⟨v',?_,h2,h3⟩
   rw[QQ,show at_+j-(at_+o)=0+(j-o) by omega]
   exact h1
  ·rename_i hge2
   rw[Ou]at hj
   rw[if_neg (by omega),if_neg (by omega)]
   have:o+n+(j-o-xs.length)=j:=by omega
   rw[this]at hj
   exact hc j c hj
theorem fY{cs xs:List SV}{o n:Nat}(hn:xs.length=n)(hle:o+n≤cs.length):(eL cs o n xs).length=cs.length:=by
 unfold eL;simp;omega
theorem ki{vs:Array Value}{k n at_:Nat}{xs:List Value}{cs:List SV}(hc:aT w F ρ vs at_ cs)(hle:k+xs.length≤vs.size)(hap:at_+cs.length≤k∨k+xs.length≤at_) :
 aT w F ρ (kp vs k xs) at_ cs:=by
 intro j c hj
 have hlt:=(NT.1 hj).1
 obtain⟨v,h1,h2⟩:=hc j c hj
 refine⟨v,?_,h2⟩
 rw[ik hle]
 rcases hap with h|h
 ·rw[if_pos (by omega)];exact h1
 ·rw[if_neg (by omega),if_neg (by omega)];exact h1
theorem ba{b:Nat}{l:Loc}(h:ρ b=some l):ρ.put b l=ρ:=by
 funext b'
 by_cases e:b'=b
 ·subst e;rw[Map.aQ,h]
 ·rw[Map.aA _ _ e]
theorem jz(hr:HR C ρ F H w){b:Nat}{x y:aj}{l:Loc}{refs:Nat}{vs':Array Value}{ty:TypeId}{fz:Nat×Nat}(hH:bT H b y refs=some H')(hb:H.bl[b]?=some x)(hx:x.live=true)
 (hl:ρ b=some l) (hv:l.aL=false) (hy:y.live=true→∀ρ1:Map,(ρ1=ρ∨∃N,refs≤N∧ρ1=ρ.cut N)→BR C w F ρ1 l x→BR C (et w l.bq vs' ty fz) F ρ1 l y)
 (hlk:(∃r st p,x=.loop r st p)→∃r st p,y=.loop r st p:=by(rintro⟨_,_,_,h⟩;cases h)) :
 HR C ρ F H' (et w l.bq vs' ty fz)∧Ext C ρ F H w ρ F H' (et w l.bq vs' ty fz):=by
 have:=hr.set (w':=et w l.bq vs' ty fz) (l':=l) hH hb hx hl (by rw[o8];exact NV _) (fun B hB hne=>fE (hne hv)) (fun _=>.inl ⟨hv,rfl⟩) (.inl rfl) (fun hyl=>by
  rw[ba hl]
  obtain⟨l2,h2,hbr⟩:=hr.live b x hb hx
  rw[hl]at h2;cases h2
  exact hy hyl ρ (.inl rfl) hbr) (fun hyl N hN hbN hbr=>by rw[ba hl];exact hy hyl _ (.inr ⟨N,hN,rfl⟩) hbr) hlk
 rwa [ba hl]at this
def tO(C:Ctx)(ρ:Map)(F:Nat→Prop)(H H':ae)(w w':World)(refs:Nat):Prop:=
 ∀N,refs≤N→∀(b:Nat) z z' l,H.bl[b]?=some z→z.live=true→H'.bl[b]?=some z'→ρ b=some l→BR C w F (ρ.cut N) l z→BR C w' F (ρ.cut N) l z'
theorem ow(hr:HR C ρ F H w){b:Nat}{x y:aj}{l:Loc}{refs:Nat}{vs':Array Value}{ty:TypeId}{fz:Nat×Nat}(hH:bT H b y refs=some H')(hb:H.bl[b]?=some x)(hx:x.live=true)
 (hl:ρ b=some l) (hv:l.aL=false) (hy:∀ρ1:Map,(ρ1=ρ∨∃N,refs≤N∧ρ1=ρ.cut N)→BR C w F ρ1 l x→BR C (et w l.bq vs' ty fz) F ρ1 l y) :
 tO C ρ F H H' w (et w l.bq vs' ty fz) refs:=by
 intro N hN b' z z' l' hz hzl hz' hl' hbr
 have hbl:H'.bl=H.bl.set b y∧b<H.bl.length:=by
  unfold bT at hH
  replace hH:=af hH
  obtain⟨h1,h2⟩:=hH
  simp only[NX,NY]at h1
  cases h2
  exact⟨rfl,h1.2⟩
 have hk:cK F w (et w l.bq vs' ty fz):=fun B hB=>fE (fun h=>(hr.own b l ⟨⟨x,hb,hx⟩,hl,hv⟩).1 (h▸hB))
 rw[hbl.1]at hz'
 by_cases e:b'=b
 ·subst e
  rw[hz]at hb;cases hb
  rw[hl]at hl';cases hl'
  simp[hbl.2]at hz'
  subst hz'
  exact hy _ (.inr ⟨N,hN,rfl⟩) hbr
 ·rw[N7 (Ne.symm e),hz]at hz'
  cases hz'
  exact hbr.mono hk (fun _ h=>h) (Map.le_refl _) (fun hv'=>fE (fun h=>e (hr.apart b' b l' l ⟨⟨z,hz,hzl⟩,hl',hv'⟩ ⟨⟨x,hb,hx⟩,hl,hv⟩ h)))
theorem im(hr:HR C ρ F H w){b:Nat}{x:aj}{l:Loc}(hb:H.bl[b]?=some x)(hx:x.live=true)(hl:ρ b=some l)(hv:l.aL=false){vs:Array Value}{ty:TypeId}{fz:Nat×Nat} :
 cK F w (et w l.bq vs ty fz):=fun B hB=>fE (fun h=>(hr.own b l ⟨⟨x,hb,hx⟩,hl,hv⟩).1 (h▸hB))
theorem tC{A:Prop}{P Q R:Prop}(h1:A→P∧Q)(h2:A→R)(a:A):P∧Q∧R:=⟨(h1 a).1,(h1 a).2,h2 a⟩
theorem qN{t:TypeId}{n:Nat}{c p:SV}{u val:Value}(hsz:eO C.P t=some n)(hr:HR C ρ F H w)(hp:VR w F ρ p u)(hv:VR w F ρ c val)
 (h:df n H c p=some H'):∃w',(Instr.storeAt t u val).run C.P w=.ok () w'∧HR C ρ F H' w'∧Ext C ρ F H w ρ F H' w'∧tO C ρ F H H' w w' c.refs:=by
 have hv1:∀ρ1:Map,(ρ1=ρ∨∃N,c.refs≤N∧ρ1=ρ.cut N)→VR w F ρ1 c val:=fun ρ1 h=>by
  rcases h with rfl|⟨N,hN,rfl⟩
  ·exact hv
  ·exact hv.cut N hN
 unfold Instr.storeAt
 unfold df at h
 split at h
 ·rename_i b bU i o
  simp only[NS]at h
  obtain⟨xs,hxs,h⟩:=h
  obtain⟨q1,q2,_⟩:=fD hxs hv
  have q3:=ui q2 q1
  replace h:=af h
  obtain⟨hn,h⟩:=h
  have hn:xs.length=n:=by simpa using hn
  ·split at h
   ·rename_i cs hb
    replace h:=af h
    obtain⟨hi,h⟩:=h
    simp only[NX,O1,NY]at hi
    ·obtain⟨hi,hle⟩:=hi
     obtain⟨l,vs,ty,fz,hl,k1,k1a,k2,k3,k4,k5,k6,k7,kb⟩:=tN hr hp hb hi
     rw[k3]
     have r:=iF (o:=o) hsz k4 k5 (by omega) (by omega) q3
     have hk:cK F w (et w l.bq (kp vs o val.cells.toList) ty fz):=im hr hb rfl hl k1
     have hsz':(kp vs o val.cells.toList).size=vs.size:=gQ (by simp;omega)
     have hlt:l.bq<w.heap.size:=(N8.1 k4).1
     refine⟨_,by simpa[Instr.sureAddr,Sem.run]using r,tC (fun hy=>(jz hr h hb rfl hl k1 (fun _=>hy))) (fun hy=>ow hr h hb rfl hl k1 hy) (fun ρ1 hρ kb1=>?_)⟩
     obtain⟨g1,g2,g3,g4,g5,vs2,ty2,fz2,j1,j2,j3,j4⟩:=kb1
     rw[k4]at j1;cases j1
     obtain⟨_,q2',_⟩:=fD hxs (hv1 ρ1 hρ)
     refine⟨g1,g2,g3,g4,by rw[fY hn hle];exact g5,_,ty,fz,gr hlt,by rw[hsz'];exact k5,by rw[hsz',fY hn hle];exact k6,?_⟩
     have:=ju (at_:=0) j4 q2' hn q1 hle (by omega)
     rw[OY]at this
     exact this.mono hk (fun _ h=>h) (Map.le_refl _)
   ·rename_i ver' z L ex hb
    replace h:=af h
    obtain⟨hve,h⟩:=h
    have hve:bU=ver':=by simpa using hve
    ·subst hve
     split at h
     ·rename_i cs hcs
      replace h:=af h
      obtain⟨hle,h⟩:=h
      have hle:o+n≤cs.length:=by simpa using hle
      ·skip
       obtain⟨l,vs,ty,fz,hl,k1,k2,k2a,k3,k4,k5,k6,k7,k8,k9,k10,kb⟩:=tI hr hp hb
       rw[k4]
       have hel:=tB hcs (k9 i cs hcs) k8 k7
       have r:=iF (o:=l.base+i*z+o) hsz k5 k6 (by omega) (by omega) q3
       have hk:cK F w (et w l.bq (kp vs (l.base+i*z+o) val.cells.toList) ty fz):=im hr hb rfl hl k1
       have hsz':(kp vs (l.base+i*z+o) val.cells.toList).size=vs.size:=gQ (by simp;omega)
       have hlt:l.bq<w.heap.size:=(N8.1 k5).1
       have hli:=(NT.1 hcs).1
       refine⟨_,by simpa[Instr.sureAddr,Sem.run]using r,tC (fun hy=>(jz hr h hb rfl hl k1 (fun _=>hy))) (fun hy=>ow hr h hb rfl hl k1 hy) (fun ρ1 hρ kb1=>?_)⟩
       obtain⟨g1,g2,g3,g4,g5,g6,g7,g8⟩:=kb1
       obtain⟨vs2,ty2,fz2,j1,j2,j3,j4⟩:=g8 k1
       rw[k5]at j1;cases j1
       obtain⟨_,q2',_⟩:=fD hxs (hv1 ρ1 hρ)
       refine⟨g1,g2,g3,fun j ds hj=>?_,by simpa using g5,by simpa using g6,g7,fun _=>⟨_,ty,fz,gr hlt,by rw[hsz'];exact k6,by rw[hsz'];exact k7,fun j ds hj=>?_⟩⟩
       ·by_cases e1:j=i
        ·subst e1
         simp[hli]at hj
         subst hj
         rw[fY hn hle];exact k9 j cs hcs
        ·rw[N7 (Ne.symm e1)]at hj
         exact g4 j ds hj
       ·by_cases e1:j=i
        ·subst e1
         simp[hli]at hj
         subst hj
         exact(ju (j4 j cs hcs) q2' hn q1 hle hel).mono hk (fun _ h=>h) (Map.le_refl _)
        ·rw[N7 (Ne.symm e1)]at hj
         have hd:=k9 j ds hj
         have hz:=k9 i cs hcs
         refine(ki (n:=0) (j4 j ds hj) (by simp;omega) ?_).mono hk (fun _ h=>h) (Map.le_refl _)
         simp only[P0]
         rcases Rd e1 with hlt'|hlt'
         ·left
          have:(j+1)*z≤i*z:=Om z hlt'
          rw[Ox,Pq]at this
          omega
         ·right
          have:(i+1)*z≤j*z:=Om z hlt'
          rw[Ox,Pq]at this
          omega
     ·cases h
   ·cases h
 ·cases h
theorem vR{t:TypeId}{n:Nat}{x y:Operand}{x' y':bj}(hsz:eO C.P t=some n)(hx:aG x=some x')(hy:aG y=some y')(hr:HR C ρ F H w)(he:ER w F ρ e a.tmps)
 (h:df n H (ev e y') (ev e x')=some H'):aJ C (do Instr.storeAt t (a.eval x) (a.eval y);pure .skip) ρ F H w .undef H':=by
 obtain⟨w',h1,h2,h3,_⟩:=qN hsz hr (ar hx he) (ar hy he) h
 exact⟨undef,w',.inr ⟨by simp[h1,pure,Sem.run],rfl⟩,ρ,F,.undef _,h2,h3⟩
end
end
section
section
variable{C:Ctx}{ρ:Map}{F:Nat→Prop}{H H':ae}{w:World}{e:Env}{a:Act}{s c d:SV}
theorem pN(hr:HR C ρ F H w){b bU i o:Nat}{v:Value}(hc:cur H (.ptr b bU i o)=true)(hv:VR w F ρ (.ptr b bU i o) v) :
 ∃l,ρ b=some l∧bU=l.bU∧l.aL=false∧v=.pointer (some ⟨l.bq,l.base+i*l.bg+o,none⟩):=by
 have key:∀l,ρ b=some l→bU=l.bU→∃l,ρ b=some l∧bU=l.bU∧l.aL=false∧v=.pointer (some ⟨l.bq,l.base+i*l.bg+o,none⟩):=by
  intro l hl hve
  cases hv with
  |ptr h h1 h2 h3=>
   rw[hl]at h;cases h
   obtain⟨k1,k2⟩:=h3 hve
   exact⟨l,hl,hve,k1,k2⟩
 unfold cur at hc
 split at hc
 ·rename_i b' v' i' o' heq
  cases heq
  split at hc
  ·rename_i cs hb
   obtain⟨l,hl,hbr⟩:=hr.live b _ hb rfl
   refine key l hl ?_
   cases hv with
   |ptr h h1 h2 h3=>rw[hl]at h;cases h;have:=hbr.2.2.2.1;omega
  ·rename_i v'' z L ex hb
   obtain⟨l,hl,hbr⟩:=hr.live b _ hb rfl
   refine key l hl ?_
   have:=hbr.2.1
   simp at hc;omega
  ·cases hc
 ·rename_i heq;cases heq
 ·rename_i hne _;exact absurd rfl (hne b bU i o)
theorem dh(hr:HR C ρ F H w){b bU off n:Nat}{v:Value}(hc:cur H (.bG b bU off n)=true)(hv:VR w F ρ (.bG b bU off n) v) :
 ∃l z L ex,ρ b=some l∧az H b=some (.arr bU z L ex)∧BR C w F ρ l (.arr bU z L ex)∧(l.aL=true→∃a,v=.slice a 0 0∧off=0∧n=0)∧
  (l.aL=false→off+n≤l.cap∧∃a,v=.slice a n (l.cap-off)∧(off<l.cap→a=some ⟨l.bq,l.base+off*l.bg,none⟩)):=by
 unfold cur at hc
 split at hc
 ·rename_i heq;cases heq
 ·rename_i b' v' o' n' heq
  cases heq
  split at hc
  ·rename_i v'' z L ex hb
   simp at hc
   subst hc
   obtain⟨l,hl,hbr⟩:=hr.live b _ hb rfl
   cases hv with
   |bG h h1 h2 h3=>
    rw[hl]at h;cases h
    obtain⟨k1,k2⟩:=h3 hbr.2.1.symm
    exact⟨l,z,L,ex,hl,hb,hbr,k1,k2⟩
  ·cases hc
 ·rename_i hne;exact absurd rfl (hne b bU off n)
theorem ky{z:Nat}(h:de H z c=true):cur H c=true:=by
 unfold de at h
 split at h
 ·unfold cur
  split at h
  ·rename_i hb;simp only[hb];simp at h;simpa using h.1
  ·cases h
 ·rfl
 ·cases h
theorem u6{x:Operand}{y:bj}(hx:aG x=some y)(hr:HR C ρ F H w)(he:ER w F ρ e a.tmps)(o:Oper)(ho:o.op=.nilCheck x)
 (h:bu e H (.cQ y)=some (s,H')):aJ C (execOp a.eval o) ρ F H w s H':=by
 have hv:=ar hx he
 simp only[bu]at h
 replace h:=af h;obtain⟨hc,h⟩:=h
 simp only[NP,N3]at h
 obtain⟨s',h,rfl,rfl⟩:=h
 suffices hs:∃u,a.eval x=.pointer (some u)∧s'=ev e y by
  obtain⟨u,hu,rfl⟩:=hs
  refine⟨a.eval x,w,.inl ?_,cN.same hr hv⟩
  unfold execOp
  simp only[ho,hu]
  rfl
 generalize ev e y=c at *
 generalize a.eval x=u at *
 unfold jw at h
 split at h
 ·cases h
  obtain⟨l,_,_,_,rfl⟩:=pN hr hc hv
  exact⟨_,rfl,rfl⟩
 ·cases h
  cases hv
  exact⟨_,rfl,rfl⟩
 ·cases h
theorem kL{op:BinOp}{t:TypeId}{x y:Operand}{u v:Value}(hu:ig u=true)(hn:u≠.nilIface):(eqGuard op t x y u v).run C.P w=.ok () w:=by
 unfold eqGuard
 cases op<;>simp<;>(try rfl)<;>(cases u<;>first|rfl|exact absurd rfl hn|(simp[ig]at hu;done))
theorem pf{op:BinOp}{t:TypeId}{x y:Operand}{u v:Value}(hu:ig u=true)(hn:u≠.nilIface){val:Value}(hr:HR C ρ F H w)(h:(binOp op t u v).run C.P w=.ok val w)(hs:VR w F ρ s val) :
 aJ C (do pure (.value (←(do eqGuard op t x y u v;binOp op t u v)))) ρ F H w s H:=by
 refine aJ.val hr ?_ hs
 simp only[Sem.run_bind,kL hu hn,Result.andThen,h]
theorem zJ{op:BinOp}{t:TypeId}{k k2:IntKind}{p q:Int}(h:bY op (.int k p) (.int k2 q)=some s):∃val,(binOp op t (.int k p) (.int k2 q)).run C.P w=.ok val w∧VR w F ρ s val:=by
 cases op<;>simp only[bY]at h<;>(try (cases h;done))<;>(replace h:=af h)<;>(obtain⟨hc,h⟩:=h)<;>(try simp only[NX,O1,Ot,Ow,NY]at hc) <;>
  simp only[N1]at h<;>subst h
 case add=>subst hc;exact⟨_,by simp[binOp,Op.intArith,Sem.run,pure],.int _ _⟩
 case sub=>subst hc;exact⟨_,by simp[binOp,Op.intArith,Sem.run,pure],.int _ _⟩
 case mul=>subst hc;exact⟨_,by simp[binOp,Op.intArith,Sem.run,pure],.int _ _⟩
 case quo=>obtain⟨rfl,hq⟩:=hc;exact⟨_,by simp[binOp,Op.intDiv,hq,Sem.run,pure],.int _ _⟩
 case rem=>obtain⟨rfl,hq⟩:=hc;exact⟨_,by simp[binOp,Op.intDiv,hq,Sem.run,pure],.int _ _⟩
 case and=>subst hc;exact⟨_,by simp[binOp,Op.intBits,Sem.run,pure],.int _ _⟩
 case or=>subst hc;exact⟨_,by simp[binOp,Op.intBits,Sem.run,pure],.int _ _⟩
 case xor=>subst hc;exact⟨_,by simp[binOp,Op.intBits,Sem.run,pure],.int _ _⟩
 case shl=>exact⟨_,by simp[binOp,Op.shift,Int.not_lt.2 hc,Sem.run,pure],.int _ _⟩
 case shr=>exact⟨_,by simp[binOp,Op.shift,Int.not_lt.2 hc,Sem.run,pure],.int _ _⟩
 case lss=>subst hc;exact⟨_,by simp[binOp,Op.intCmp,Sem.run,pure],.bool _⟩
 case leq=>subst hc;exact⟨_,by simp[binOp,Op.intCmp,Sem.run,pure],.bool _⟩
 case gtr=>subst hc;exact⟨_,by simp[binOp,Op.intCmp,Sem.run,pure],.bool _⟩
 case geq=>subst hc;exact⟨_,by simp[binOp,Op.intCmp,Sem.run,pure],.bool _⟩
 case eql=>subst hc;refine⟨.bool (p==q),by simp[binOp,Op.intCmp,Sem.run,pure],?_⟩;rw[show decide (p=q)=(p==q) by by_cases h:p=q<;>simp[h]];exact .bool _
 case neq=>subst hc;refine⟨.bool (p != q),by simp[binOp,Op.intCmp,Sem.run,pure],?_⟩;rw[show(!decide (p=q))=(p != q) by by_cases h:p=q<;>simp[h,bne]];exact .bool _
end
end
section
section
variable{C:Ctx}{ρ:Map}{F:Nat→Prop}{H H':ae}{w:World}{e:Env}{a:Act}{s c d:SV}
theorem nq(p q:ByteArray):(p.toList==q.toList)=decide (p=q):=by
 have h:∀x:ByteArray,x.toList=x.data.toList:=fun x=>by
  simp[ByteArray.toList_eq]
 rw[h,h]
 by_cases e:p=q
 ·subst e;simp
 ·have:p.data.toList≠q.data.toList:=fun h=>e (by cases p;cases q;simp at h;rw[h])
  simp[e]
  exact fun h=>this (by rw[h])
theorem yW{op:BinOp}{t:TypeId}{p q:ByteArray}(h:bY op (.str p) (.str q)=some s):∃val,(binOp op t (.string p) (.string q)).run C.P w=.ok val w∧VR w F ρ s val:=by
 cases op<;>simp only[bY]at h<;>(try (cases h;done))
 case add=>
  replace h:=af h
  obtain⟨hc,h⟩:=h
  cases h
  simp at hc
  refine⟨_,?_,.str _⟩
  have:¬((p.size+q.size:Nat):Int)>IntKind.i64.max:=by
   have:IntKind.i64.max=9223372036854775807:=by decide
   omega
  simp only[binOp,Op.stringOp,if_neg this]
  rfl
 case eql=>cases h;exact⟨_,by simp[binOp,Op.stringOp,nq,Sem.run,pure],.bool _⟩
 case neq=>cases h;exact⟨_,by simp[binOp,Op.stringOp,nq,Sem.run,pure],.bool _⟩
theorem xk{op:BinOp}{t:TypeId}{p q:Bool}(ht:C.P.underlying t=some .bool)(h:jJ op (.bool p) (.bool q)=some s):∃val,(binOp op t (.bool p) (.bool q)).run C.P w=.ok val w∧VR w F ρ s val:=by
 have he:(Op.equal t (.bool p) (.bool q)).run C.P w=.ok (p==q) w:=by
  have h1:∀d,(Op.equalIn (d+1) t (.bool p) (.bool q)).run C.P w=.ok (p==q) w:=fun d=>by
   simp only[Op.equalIn,Sem.run_bind,run_underlying ht,Result.andThen]
   rfl
  exact h1 9999
 cases op<;>simp only[jJ]at h<;>(try (cases h;done))
 case eql=>cases h;exact⟨_,by simp[binOp,he],.bool _⟩
 case neq=>cases h;exact⟨_,by simp[binOp,he],.bool _⟩
theorem rK{op:BinOp}(h:bY op c d=some s):(∃k p k2 q,c=.int k p∧d=.int k2 q)∨(∃p q,c=.str p∧d=.str q):=by
 unfold bY at h
 split at h<;>first|exact .inl ⟨_,_,_,_,rfl,rfl⟩|exact .inr ⟨_,_,rfl,rfl⟩|(cases h;done)
theorem vm{op:BinOp}{t:TypeId}{x y:Operand}{x' y':bj}(hx:aG x=some x')(hy:aG y=some y')
 (hr:HR C ρ F H w) (he:ER w F ρ e a.tmps) (h:bY op (ev e x') (ev e y')=some s) :
 aJ C (do pure (.value (←(do eqGuard op t x y (a.eval x) (a.eval y);binOp op t (a.eval x) (a.eval y))))) ρ F H w s H:=by
 have h1:=ar hx he
 have h2:=ar hy he
 generalize ev e x'=c at *
 generalize ev e y'=d at *
 rcases rK h with⟨k,p,k2,q,rfl,rfl⟩|⟨p,q,rfl,rfl⟩
 ·rw[eX h1,eX h2]
  obtain⟨val,r1,r2⟩:=zJ (C:=C) (w:=w) (F:=F) (ρ:=ρ) (t:=t) h
  exact pf rfl (by simp) hr r1 r2
 ·rw[iC h1,iC h2]
  obtain⟨val,r1,r2⟩:=yW (C:=C) (w:=w) (F:=F) (ρ:=ρ) (t:=t) h
  exact pf rfl (by simp) hr r1 r2
theorem yd{op:BinOp}{t:TypeId}{x y:Operand}{x' y':bj}(hx:aG x=some x')(hy:aG y=some y')
 (hr:HR C ρ F H w) (he:ER w F ρ e a.tmps) (hb2:C.P.underlying t=some .bool) (h:jJ op (ev e x') (ev e y')=some s) :
 aJ C (do pure (.value (←(do eqGuard op t x y (a.eval x) (a.eval y);binOp op t (a.eval x) (a.eval y))))) ρ F H w s H:=by
 have h1:=ar hx he
 have h2:=ar hy he
 generalize ev e x'=c at *
 generalize ev e y'=d at *
 have hk:∃p q,c=.bool p∧d=.bool q:=by
  unfold jJ at h
  split at h<;>first|exact⟨_,_,rfl,rfl⟩|(cases h;done)
 obtain⟨p,q,rfl,rfl⟩:=hk
 rw[dC h1,dC h2]
 obtain⟨val,r1,r2⟩:=xk (w:=w) (F:=F) (ρ:=ρ) hb2 h
 exact pf rfl (by simp) hr r1 r2
theorem zD{t:TypeId}{x:Operand}{y:bj}(hx:aG x=some y)(hr:HR C ρ F H w)(he:ER w F ρ e a.tmps){b:Bool}(h:ev e y=.bool b) :
 aJ C (do pure (.value (←Op.unary .not (a.eval x)))) ρ F H w (.bool (!b)) H:=by
 have h1:=ar hx he
 rw[h]at h1
 rw[dC h1]
 exact aJ.val hr (val:=.bool (!b)) rfl (.bool _)
theorem x8{x:Operand}{y:bj}(hx:aG x=some y)(hr:HR C ρ F H w)(he:ER w F ρ e a.tmps){k:IntKind}{n:Int}(h:ev e y=.int k n) :
 aJ C (do pure (.value (←Op.unary .neg (a.eval x)))) ρ F H w (.int k (k.wrap (0-n))) H:=by
 have h1:=ar hx he
 rw[h]at h1
 rw[eX h1]
 exact aJ.val hr (val:=.int k (k.wrap (0-n))) rfl (.int _ _)
theorem wO{sr ds:TypeId}{k j:IntKind}{x:Operand}{y:bj}(hx:aG x=some y)(hs:C.P.underlying sr=some (.int j))(hd:C.P.underlying ds=some (.int k))(hr:HR C ρ F H w)(he:ER w F ρ e a.tmps)
 {k':IntKind} {n:Int} (h:ev e y=.int k' n):aJ C (do pure (.value (←convert sr ds (a.eval x)))) ρ F H w (.int k (k.wrap n)) H:=by
 have h1:=ar hx he
 rw[h]at h1
 rw[eX h1]
 refine aJ.val hr (val:=.int k (k.wrap n)) ?_ (.int _ _)
 unfold convert
 simp only[Sem.run_bind,run_underlying hs,run_underlying hd,Result.andThen]
 rfl
theorem wL{sr ds:TypeId}{x:Operand}{y:bj}(hx:aG x=some y)(hs:C.P.underlying sr=some .string)(hd:C.P.underlying ds=some .string)(hr:HR C ρ F H w)(he:ER w F ρ e a.tmps)
 {t:ByteArray} (h:ev e y=.str t):aJ C (do pure (.value (←convert sr ds (a.eval x)))) ρ F H w (.str t) H:=by
 have h1:=ar hx he
 rw[h]at h1
 rw[iC h1]
 refine aJ.val hr (val:=.string t) ?_ (.str _)
 unfold convert
 simp only[Sem.run_bind,run_underlying hs,run_underlying hd,Result.andThen]
 rfl
theorem yj{f:FuncId}{fs cs:Array Operand}{cs':List bj}(hf:fs.isEmpty=true)(hx:gn cs=some cs')(hr:HR C ρ F H w)(he:ER w F ρ e a.tmps) :
 aJ C (do pure (.value (←Instr.makeFunc (.func f) (fs.map a.eval) (cs.map a.eval)))) ρ F H w (.fn f (cs'.map (ev e))) H:=by
 obtain⟨h1,h2⟩:=gm hx he
 have:fs.map a.eval= #[]:=by
  have:fs= #[]:=by simpa using hf
  subst this;simp
 rw[this]
 exact aJ.val hr (val:=.func (.func f) #[] (cs.map a.eval)) rfl (.fn (by simpa using h1) h2)
theorem vF{f:FuncId}{fs cs:Array Operand}{cs':List bj}(hf:cs.isEmpty=true)(hx:gn fs=some cs')(hr:HR C ρ F H w)(he:ER w F ρ e a.tmps) :
 aJ C (do pure (.value (←Instr.makeFunc (.func f) (fs.map a.eval) (cs.map a.eval)))) ρ F H w (.oI f (cs'.map (ev e))) H:=by
 obtain⟨h1,h2⟩:=gm hx he
 have:cs.map a.eval= #[]:=by
  have:cs= #[]:=by simpa using hf
  subst this;simp
 rw[this]
 exact aJ.val hr (val:=.func (.func f) (fs.map a.eval) #[]) rfl (.oI (by simpa using h1) h2)
theorem me{t:TypeId}{fs:List Field}{i:Nat}{f:Field}(h:js C.P t=some fs)(hf:fs[i]?=some f):∃gs,C.P.underlying t=some (.struct gs)∧gs[i]?=some f:=by
 unfold js at h
 split at h
 ·rename_i gs hu
  cases h
  exact⟨gs,hu,by simpa using hf⟩
 ·cases h
theorem p9{off:Nat}{v:Value}(hr:HR C ρ F H w)(hc:cur H c=true)(hv:VR w F ρ c v)(h:eB off c=some s) :
 ∃B o,v=.pointer (some ⟨B,o,none⟩)∧VR w F ρ s (.pointer (some ⟨B,o+off,none⟩)):=by
 unfold eB at h
 split at h
 ·rename_i b bU i o
  cases h
  obtain⟨l,h1,h2,h3,rfl⟩:=pN hr hc hv
  exact⟨_,_,rfl,.ptr h1 (by omega) rfl (fun _=>⟨h3,by rw[N9]⟩)⟩
 ·rename_i cs
  cases h
  cases hv with
  |eS V hF hk h1 hv=>
   refine⟨_,_,rfl,.eS (fun j=>V (off+j)) hF (fun j c hj=>?_) (fun j c hj=>?_) (fun j c hj=>?_)⟩<;>rw[Ou]at hj
   ·rw[N9];exact hk _ c hj
   ·exact h1 _ c hj
   ·exact hv _ c hj
 ·cases h
theorem wg{t:TypeId}{i n:Nat}{fs:List Field}{f:Field}{x:Operand}{y:bj}(hx:aG x=some y)(hfs:js C.P t=some fs)(hf:fs[i]?=some f)(hn:eO C.P f.type=some (n+1))
 (hr:HR C ρ F H w) (he:ER w F ρ e a.tmps) (hc:cur H (ev e y)=true) (h:eB f.offset (ev e y)=some s):aJ C (do pure (.value (←Instr.fieldAt t (a.eval x) i))) ρ F H w s H:=by
 obtain⟨gs,h1,h2⟩:=me hfs hf
 obtain⟨B,o,h3,h4⟩:=p9 hr hc (ar hx he) h
 refine aJ.val hr ?_ h4
 unfold Instr.fieldAt
 simp only[Sem.run_bind,run_underlying h1,Result.andThen,h2,h3,Instr.sureAddr,fieldPlace,aY hn]
 simp[Sem.run,pure,cB]
theorem xU{t:TypeId}{i n:Nat}{ag:Bool}{fs:List Field}{f:Field}{x:Operand}{y:bj}{cs:List SV}(hx:aG x=some y)(hfs:js C.P t=some fs)(hf:fs[i]?=some f)(hag:gZ C.P f.type=some ag)
 (hn:eO C.P f.type=some n) (hr:HR C ρ F H w) (he:ER w F ρ e a.tmps) (hc:ev e y=.agg cs) (h:cG ag n cs f.offset=some s):aJ C (do pure (.value (←Instr.field t (a.eval x) i))) ρ F H w s H:=by
 obtain⟨gs,h1,h2⟩:=me hfs hf
 have hv:=ar hx he
 rw[hc]at hv
 obtain⟨vs,h3,h4,h5⟩:=eG hv
 obtain⟨p1,p2⟩:=nA h h5 (by omega)
 suffices hs:∃val,(part f.type vs f.offset).run C.P w=.ok val w∧VR w F ρ s val by
  obtain⟨val,r1,r2⟩:=hs
  refine aJ.val hr ?_ r2
  unfold Instr.field
  simp only[Sem.run_bind,run_underlying h1,Result.andThen,h2,h3,asAgg]
  simpa[Sem.run,pure]using r1
 unfold part
 cases ag with
 |true=>
  refine⟨_,by simp only[Sem.run_bind,dZ hag,Result.andThen,if_true,aY hn];rfl,by simpa using p1 rfl⟩
 |false=>
  obtain⟨v,k1,k2⟩:=p2 rfl
  rw[OY]at k1
  refine⟨v,by simp only[Sem.run_bind,dZ hag,Result.andThen,Pc,if_false,k1];rfl,k2⟩
theorem sH{x:Operand}{y:bj}{vs:List SV}{i:Nat}(hx:aG x=some y)(hr:HR C ρ F H w)(he:ER w F ρ e a.tmps)(hc:ev e y=.ax vs)(h:vs[i]?=some s) :
 aJ C (do pure (.value (←Instr.extract (a.eval x) i))) ρ F H w s H:=by
 have hv:=ar hx he
 rw[hc]at hv
 generalize a.eval x=u at *
 cases hv with
 |ax hn hv=>
  rename_i us
  have hlt:=(NT.1 h).1
  have hu:us[i]?=some us[i]:=Od (by omega)
  refine aJ.val hr (val:=us[i]) ?_ (hv i s _ h hu)
  simp only[Instr.extract,hu]
  rfl
theorem kM{n i:Nat}{v:Value}(h:gW n c=some i)(hv:VR w F ρ c v):∃k j,v=.int k j∧0≤j∧j<n∧i=j.toNat:=by
 unfold gW at h
 split at h
 ·rename_i k j
  replace h:=af h
  obtain⟨hc,h⟩:=h
  cases h
  simp at hc
  exact⟨k,j,eX hv,hc.1,hc.2,rfl⟩
 ·cases h
theorem vb{t el:TypeId}{len n i:Nat}{x ix:Operand}{x' i':bj}(hx:aG x=some x')(hi:aG ix=some i')(hu:C.P.underlying t=some (.array len el))(hn:eO C.P el=some (n+1))
 (hr:HR C ρ F H w) (he:ER w F ρ e a.tmps) (hc:cur H (ev e x')=true) (h1:gW len (ev e i')=some i) (h:eB (i*(n+1)) (ev e x')=some s) :
 aJ C (do pure (.value (←Instr.indexAt t (a.eval x) (a.eval ix)))) ρ F H w s H:=by
 obtain⟨B,o,h3,h4⟩:=p9 hr hc (ar hx he) h
 obtain⟨k,j,h5,h6,h7,rfl⟩:=kM h1 (ar hi he)
 refine aJ.val hr ?_ h4
 unfold Instr.indexAt
 simp only[Sem.run_bind,h5,asIntOf,run_underlying hu,Result.andThen,h3,Instr.sureAddr]
 simp only[pure,Sem.run,Result.andThen,h6,h7,and_self,if_true,Sem.run_bind,aY hn,cB]
theorem ur{t el:TypeId}{n:Nat}{x ix:Operand}{x' i':bj}(hx:aG x=some x')(hi:aG ix=some i')(hu:C.P.underlying t=some (.slice el))(hn:eO C.P el=some (n+1))
 (hr:HR C ρ F H w) (he:ER w F ρ e a.tmps) (hc:de H (n+1) (ev e x')=true) (h:gh (ev e x') (ev e i')=some s) :
 aJ C (do pure (.value (←Instr.indexAt t (a.eval x) (a.eval ix)))) ρ F H w s H:=by
 have hv:=ar hx he
 have hvi:=ar hi he
 generalize ev e x'=c at *
 generalize ev e i'=d at *
 suffices hs:∃B o len cap k j,a.eval x=.slice (some ⟨B,o,none⟩) len cap∧a.eval ix=.int k j∧0≤j∧j<len∧VR w F ρ s (.pointer (some ⟨B,o+j.toNat*(n+1),none⟩)) by
  obtain⟨B,o,len,cap,k,j,h1,h2,h3,h4,h5⟩:=hs
  refine aJ.val hr ?_ h5
  unfold Instr.indexAt
  simp only[Sem.run_bind,h2,asIntOf,run_underlying hu,Result.andThen,h1,Instr.sureAddr]
  simp only[pure,Sem.run,Result.andThen,h3,h4,and_self,if_true,Sem.run_bind,aY hn,cB]
 generalize a.eval x=u at *
 unfold gh at h
 split at h
 ·rename_i z L f
  simp only[NS,NP]at h
  obtain⟨i,hi',cs,hcs,rfl⟩:=h
  obtain⟨k,j,h5,h6,h7,rfl⟩:=kM hi' hvi
  cases hv with
  |aB V hcap hfull hz hat h1 hv=>
   have hzn:z=n+1:=by
    unfold de at hc
    simp at hc
    rcases hc with hc|hc
    ·exact hc
    ·subst hc;simp at hcs
   subst hzn
   rcases hat with h0|⟨B,o,ha,hF,hk⟩
   ·subst h0;simp at hcs
   ·subst ha
    exact⟨B,o,_,_,k,j,rfl,h5,h6,h7,.eS (fun q=>V j.toNat q) hF (fun q c hq=>hk _ q cs c hcs hq) (fun q c hq=>h1 _ q cs c hcs hq) (fun q c hq=>hv _ q cs c hcs hq)⟩
 ·rename_i b bU off m
  simp only[NP]at h
  obtain⟨i,hi',rfl⟩:=h
  obtain⟨k,j,h5,h6,h7,rfl⟩:=kM hi' hvi
  obtain⟨l,z,L,ex,hl,hb,hbr,g1,g2⟩:=dh hr (ky hc) hv
  have hzn:z=n+1:=by
   unfold de at hc
   simp[hb]at hc
   exact hc
  subst hzn
  cases hvi':l.aL with
  |true=>
   obtain⟨_,_,_,rfl⟩:=g1 hvi'
   simp at h7;omega
  |false=>
   obtain⟨g3,q,rfl,g4⟩:=g2 hvi'
   have:=g4 (by omega)
   subst this
   refine⟨_,_,_,_,k,j,rfl,h5,h6,h7,.ptr hl (PF hbr.2.1.symm) rfl (fun _=>⟨hvi',?_⟩)⟩
   have e1:l.bg=n+1:=hbr.2.2.1
   rw[e1,Ox]
   congr 3
   simp[N9]
 ·cases h
end
end
section
section
variable{C:Ctx}{ρ:Map}{F:Nat→Prop}{H H':ae}{w:World}{e:Env}{a:Act}{s c d:SV}
theorem uf{t el:TypeId}{len n i:Nat}{ag:Bool}{x ix:Operand}{x' i':bj}{cs:List SV}(hx:aG x=some x')(hi:aG ix=some i')(hu:C.P.underlying t=some (.array len el))(hag:gZ C.P el=some ag)(hn:eO C.P el=some n)
 (hr:HR C ρ F H w) (he:ER w F ρ e a.tmps) (hc:ev e x'=.agg cs) (h1:gW len (ev e i')=some i) (h:cG ag n cs (i*n)=some s) :
 aJ C (do pure (.value (←Instr.index t (a.eval x) (a.eval ix)))) ρ F H w s H:=by
 have hv:=ar hx he
 rw[hc]at hv
 obtain⟨vs,h3,h4,h5⟩:=eG hv
 obtain⟨k,j,k5,k6,k7,rfl⟩:=kM h1 (ar hi he)
 obtain⟨p1,p2⟩:=nA h h5 (by omega)
 suffices hs:∃val,(part el vs (j.toNat*n)).run C.P w=.ok val w∧VR w F ρ s val by
  obtain⟨val,r1,r2⟩:=hs
  refine aJ.val hr ?_ r2
  unfold Instr.index
  simp only[Sem.run_bind,k5,asIntOf,run_underlying hu,Result.andThen,h3]
  simp only[pure,Sem.run,Result.andThen,k6,k7,and_self,if_true,Sem.run_bind,aY hn]
  exact r1
 unfold part
 cases ag with
 |true=>exact⟨_,by simp only[Sem.run_bind,dZ hag,Result.andThen,if_true,aY hn];rfl,by simpa using p1 rfl⟩
 |false=>
  obtain⟨v,k1,k2⟩:=p2 rfl
  rw[OY]at k1
  exact⟨v,by simp only[Sem.run_bind,dZ hag,Result.andThen,Pc,if_false,k1];rfl,k2⟩
theorem uM{t:TypeId}{i:Nat}{x ix:Operand}{x' i':bj}{b:ByteArray}{y:UInt8}(hx:aG x=some x')(hi:aG ix=some i')(hu:C.P.underlying t=some .string)
 (hr:HR C ρ F H w) (he:ER w F ρ e a.tmps) (hc:ev e x'=.str b) (h1:gW b.size (ev e i')=some i) (h:b.data[i]?=some y) :
 aJ C (do pure (.value (←Instr.index t (a.eval x) (a.eval ix)))) ρ F H w (.int .u8 y.toNat) H:=by
 have hv:=ar hx he
 rw[hc]at hv
 obtain⟨k,j,k5,k6,k7,rfl⟩:=kM h1 (ar hi he)
 have hb:b[j.toNat]?=some y:=by
  obtain⟨hlt,hv'⟩:=N8.1 h
  have hlt':j.toNat<b.size:=hlt
  rw[getElem?_pos b j.toNat hlt']
  exact congrArg some hv'
 refine aJ.val hr (val:=.int .u8 y.toNat) ?_ (.int _ _)
 unfold Instr.index
 simp only[Sem.run_bind,k5,asIntOf,run_underlying hu,Result.andThen,iC hv]
 simp only[pure,Sem.run,Result.andThen,k6,if_true,hb]
theorem zb{ats:Array TypeId}{t0 ty:TypeId}{x:Operand}{y:bj}{b:ByteArray}(hx:aG x=some y)(h0:ats[0]?=some t0)(hu:C.P.underlying t0=some .string)(hr:HR C ρ F H w)(he:ER w F ρ e a.tmps)(hc:ev e y=.str b) :
 aJ C (do pure (.value (←Builtin.len_ ats ty #[a.eval x]))) ρ F H w (.int .i64 b.size) H:=by
 have hv:=ar hx he
 rw[hc]at hv
 refine aJ.val hr (val:=.int .i64 b.size) ?_ (.int _ _)
 unfold Builtin.len_
 simp only[h0]
 simp[run_underlying hu,iC hv,goInt]
theorem yG{n:Nat}{v:Value}(hr:HR C ρ F H w)(hc:cur H c=true)(h:mv c=some n)(hv:VR w F ρ c v):∃q cap,v=.slice q n cap:=by
 unfold mv at h
 split at h
 ·cases h
  cases hv
  exact⟨_,_,rfl⟩
 ·cases h
  obtain⟨l,z,L,ex,_,_,_,g1,g2⟩:=dh hr hc hv
  cases hvi:l.aL with
  |true=>obtain⟨q,rfl,_,rfl⟩:=g1 hvi;exact⟨_,_,rfl⟩
  |false=>obtain⟨_,q,rfl,_⟩:=g2 hvi;exact⟨_,_,rfl⟩
 ·cases h
theorem zr{ats:Array TypeId}{t0 el ty:TypeId}{x:Operand}{y:bj}{n:Nat}(hx:aG x=some y)(h0:ats[0]?=some t0)(hu:C.P.underlying t0=some (.slice el))(hr:HR C ρ F H w)(he:ER w F ρ e a.tmps)
 (hc:cur H (ev e y)=true) (h:mv (ev e y)=some n):aJ C (do pure (.value (←Builtin.len_ ats ty #[a.eval x]))) ρ F H w (.int .i64 n) H:=by
 obtain⟨q,cap,hq⟩:=yG hr hc h (ar hx he)
 refine aJ.val hr (val:=.int .i64 n) ?_ (.int _ _)
 unfold Builtin.len_
 simp only[h0]
 simp[run_underlying hu,hq,goInt]
theorem yH{ats:Array TypeId}{t0 el ty:TypeId}{x:Operand}{n:Nat}(h0:ats[0]?=some t0)(hu:C.P.underlying t0=some (.array n el))(hr:HR C ρ F H w) :
 aJ C (do pure (.value (←Builtin.len_ ats ty #[a.eval x]))) ρ F H w (.int .i64 n) H:=by
 refine aJ.val hr (val:=.int .i64 n) ?_ (.int _ _)
 unfold Builtin.len_
 simp only[h0]
 simp[run_underlying hu,goInt]
theorem uA{f:Int→Int→Int}{g:Value→Value→Sem Value}(hg:∀k x k2 y,g (.int k x) (.int k2 y)=pure (.int k (f x y))) :
 ∀(cs:List SV) (vs:List Value) (x:Int) (k:IntKind) (s:SV),cs.length=vs.length→(∀(j:Nat) c v,cs[j]?=some c→vs[j]?=some v→VR w F ρ c v)→foldI f x k cs=some s→
 ∃n,s=.int k n∧(vs.foldlM g (.int k x)).run C.P w=.ok (.int k n) w:=by
 intro cs
 induction cs with
 |nil=>
  intro vs x k s hn _ h
  simp[foldI]at h
  subst h
  cases vs with
  |nil=>exact⟨x,rfl,rfl⟩
  |cons _ _=>simp at hn
 |cons c cs ih=>
  intro vs x k s hn hv h
  cases vs with
  |nil=>simp at hn
  |cons v vs=>
   cases c<;>simp only[foldI]at h<;>(try (cases h;done))
   rename_i k2 y
   replace h:=af h
   obtain⟨_,h⟩:=h
   have h0:=eX (hv 0 _ v rfl rfl)
   subst h0
   obtain⟨n,rfl,hrun⟩:=ih vs (f x y) k s (by simpa using hn) (fun j c v hc hv'=>hv (j+1) c v (by simpa using hc) (by simpa using hv')) h
   refine⟨n,rfl,?_⟩
   simp only[Ri,Sem.run_bind,hg]
   exact hrun
theorem oE{f:Int→Int→Int}{g:Value→Value→Sem Value}(hg:∀k x k2 y,g (.int k x) (.int k2 y)=pure (.int k (f x y))){xs:Array Operand}{ys:List bj}(hx:gn xs=some ys)(he:ER w F ρ e a.tmps)
 (h:iV f (ys.map (ev e))=some s):∃k n x r,s=.int k n∧(xs.map a.eval).toList=x::r∧(r.foldlM g x).run C.P w=.ok (.int k n) w:=by
 obtain⟨h1,h2⟩:=gm hx he
 generalize ys.map (ev e)=cs at *
 cases cs with
 |nil=>simp[iV]at h
 |cons c cs=>
  cases c<;>simp only[iV]at h<;>(try (cases h;done))
  rename_i k x
  cases hl:(xs.map a.eval).toList with
  |nil=>simp at hl;subst hl;simp at h1
  |cons v vs=>
   have hg':∀j:Nat,(xs.map a.eval)[j]?=(v::vs)[j]?:=fun j=>by rw[←hl];simp
   have h0:=eX (h2 0 _ v rfl (by rw[hg'];rfl))
   subst h0
   have hlen:=congrArg List.length hl
   obtain⟨n,rfl,hrun⟩:=uA (C:=C) (w:=w) (F:=F) (ρ:=ρ) hg cs vs x k s (by simp at h1 hlen;omega) (fun j c v hc hv=>h2 (j+1) c v (by simpa using hc) (by rw[hg'];simpa using hv)) h
   exact⟨k,n,_,_,rfl,rfl,hrun⟩
theorem AO{ats:Array TypeId}{ty:TypeId}{xs:Array Operand}{ys:List bj}(hx:gn xs=some ys)(hr:HR C ρ F H w)(he:ER w F ρ e a.tmps)
 (h:iV (fun a b=>if b>a then b else a) (ys.map (ev e))=some s):aJ C (do pure (.value (←Builtin.max_ ats ty (xs.map a.eval)))) ρ F H w s H:=by
 obtain⟨k,n,x,r,rfl,h1,h2⟩:=oE (C:=C) (g:=Builtin.max2) (fun _ _ _ _=>rfl) hx he h
 refine aJ.val hr ?_ (.int k n)
 unfold Builtin.max_
 simp only[h1]
 exact h2
theorem Bo{ats:Array TypeId}{ty:TypeId}{xs:Array Operand}{ys:List bj}(hx:gn xs=some ys)(hr:HR C ρ F H w)(he:ER w F ρ e a.tmps)
 (h:iV (fun a b=>if b<a then b else a) (ys.map (ev e))=some s):aJ C (do pure (.value (←Builtin.min_ ats ty (xs.map a.eval)))) ρ F H w s H:=by
 obtain⟨k,n,x,r,rfl,h1,h2⟩:=oE (C:=C) (g:=Builtin.min2) (fun _ _ _ _=>rfl) hx he h
 refine aJ.val hr ?_ (.int k n)
 unfold Builtin.min_
 simp only[h1]
 exact h2
theorem je{y n:Nat}{v:Value}{code:BoundsCode}(h:pG y c=some n)(hv:VR w F ρ c v):n≤y∧∀z,y≤z→(Instr.sliceBound v z code).run C.P w=.ok n w:=by
 unfold pG at h
 split at h
 ·rename_i k j
  replace h:=af h
  obtain⟨hc,h⟩:=h
  cases h
  simp at hc
  refine⟨by omega,fun z hz=>?_⟩
  rw[eX hv]
  unfold Instr.sliceBound
  have:0≤j∧j≤(z:Int):=by omega
  simp only[Sem.run_bind,asIntOf,pure,Sem.run,Result.andThen,this,and_self,if_true]
 ·cases h
theorem e9{x:Option Operand}{y:Option bj}(h:dQ x=some y)(he:ER w F ρ e a.tmps):(x=none∧y=none)∨∃p q,x=some p∧y=some q∧VR w F ρ (ev e q) (a.eval p):=by
 cases x with
 |none=>simp[dQ]at h;exact .inl ⟨rfl,h.symm⟩
 |some p=>
  simp only[dQ,NP]at h
  obtain⟨q,h1,rfl⟩:=h
  exact .inr ⟨p,q,rfl,rfl,ar h1 he⟩
theorem jq{isS:Bool}{n cap h l:Nat}{lo hi:Option Operand}{lo' hi':Option bj}(hlo:dQ lo=some lo')(hhi:dQ hi=some hi')(he:ER w F ρ e a.tmps)(hcap:n≤cap)
 (h1:eZ n n (hi'.map (ev e))=some h) (h2:eZ h 0 (lo'.map (ev e))=some l):l≤h∧h≤n∧(Instr.sliceBounds isS n cap (lo.map a.eval) (hi.map a.eval) none).run C.P w=.ok (l,h,cap) w:=by
 have a1:h≤n∧(match hi.map a.eval,(none:Option Value)with
  |some v,some _=>Instr.sliceBound v cap .slice3B
  |some v,none=>Instr.sliceBound v cap (if isS then .sliceAcap else .sliceAlen)
  |none,none=>pure n
  |none,some _=>stuck "Slice: max without high").run C.P w=.ok h w:=by
  rcases e9 hhi he with⟨rfl,rfl⟩|⟨p,q,rfl,rfl,hv⟩
  ·simp[eZ]at h1;subst h1;exact⟨NV _,rfl⟩
  ·obtain⟨k1,k2⟩:=je (C:=C) (code:=if isS then .sliceAcap else .sliceAlen) h1 hv
   exact⟨k1,k2 cap hcap⟩
 have a2:l≤h∧(match lo.map a.eval with
  |some v=>Instr.sliceBound v h (if(none:Option Value).isSome then .slice3C else .sliceB)
  |none=>pure 0).run C.P w=.ok l w:=by
  rcases e9 hlo he with⟨rfl,rfl⟩|⟨p,q,rfl,rfl,hv⟩
  ·simp[eZ]at h2;subst h2;exact⟨PO _,rfl⟩
  ·obtain⟨k1,k2⟩:=je (C:=C) (code:=.sliceB) h2 hv
   exact⟨k1,k2 h (NV _)⟩
 refine⟨a2.1,a1.1,?_⟩
 have b1:=a1.2
 have b2:=a2.2
 unfold Instr.sliceBounds
 simp only[Sem.run_bind,pure,Sem.run,Result.andThen_ok]at b1 b2⊢
 cases hi<;>cases lo<;>simp only[Qb,Oo]at b1 b2⊢ <;>simp_all [Sem.run,pure]
end
end
section
section
variable{C:Ctx}{ρ:Map}{F:Nat→Prop}{H H':ae}{w:World}{e:Env}{a:Act}{s c d:SV}
theorem uz{t:TypeId}{x:Operand}{y:bj}{lo hi:Option Operand}{lo' hi':Option bj}{b:ByteArray}(hx:aG x=some y)(hlo:dQ lo=some lo')(hhi:dQ hi=some hi')(hu:C.P.underlying t=some .string)
 (hr:HR C ρ F H w) (he:ER w F ρ e a.tmps) (hc:ev e y=.str b) (h:jo b (lo'.map (ev e)) (hi'.map (ev e))=some s) :
 aJ C (do pure (.value (←Instr.sliceAt t (a.eval x) (lo.map a.eval) (hi.map a.eval) ((none:Option Operand).map a.eval)))) ρ F H w s H:=by
 have hv:=ar hx he
 rw[hc]at hv
 unfold jo at h
 simp only[NS,NP]at h
 obtain⟨h1,k1,l1,k2,rfl⟩:=h
 obtain⟨_,_,hrun⟩:=jq (C:=C) (w:=w) (isS:=false) hlo hhi he (NV b.size) k1 k2
 refine aJ.val hr (val:=.string (b.extract l1 h1)) ?_ (.str _)
 unfold Instr.sliceAt
 simp only[Sem.run_bind,run_underlying hu,Result.andThen,Instr.slice,iC hv,Qb,hrun]
 simp[Sem.run,pure,hrun]
theorem ck{A:Type}{L:List A}{h l i:Nat}{x:A}(hx:((L.take h).drop l)[i]?=some x):L[l+i]?=some x∧l+i<h:=by
 rw[Ou,Ob]at hx
 split at hx
 ·exact⟨hx,by assumption⟩
 ·cases hx
theorem orElse_some{A:Type}{x:Option A}{f:Unit→Option A}{s:A}(h:x.orElse f=some s):x=some s∨f ()=some s:=by
 cases x with
 |none=>exact .inr h
 |some y=>exact .inl h
theorem uH{t el:TypeId}{n:Nat}{x:Operand}{y:bj}{lo hi mx:Option Operand}{lo' hi' mx':Option bj}(hx:aG x=some y)(hlo:dQ lo=some lo')(hhi:dQ hi=some hi')(hmx:dQ mx=some mx')
 (hu:C.P.underlying t=some (.slice el)) (hn:eO C.P el=some n) (hr:HR C ρ F H w) (he:ER w F ρ e a.tmps) (hc:de H n (ev e y)=true)
 (h:hU H (ev e y) (lo'.map (ev e)) (hi'.map (ev e)) (mx'.map (ev e))=some s) :
 aJ C (do pure (.value (←Instr.sliceAt t (a.eval x) (lo.map a.eval) (hi.map a.eval) (mx.map a.eval)))) ρ F H w s H:=by
 have hv:=ar hx he
 generalize ev e y=c at *
 unfold hU at h
 split at h
 ·rename_i b v off m hvv hh hm
  cases hmx':mx' with
  |some q=>rw[hmx']at hm;cases hm
  |none=>
   have hmn:mx=none:=by
    rcases e9 hmx he with⟨e1,_⟩|⟨_,_,_,e2,_⟩
    ·exact e1
    ·rw[hmx']at e2;cases e2
   subst hmx' hmn
   split at h
   ·rename_i v0 z L ex hb0
    simp only[NS,NP]at h
    obtain⟨h1,k1,l1,k2,rfl⟩:=h
    obtain⟨l,z9,L9,ex9,hl,hb,hbr,g1,g2⟩:=dh hr (ky hc) hv
    rw[hb0]at hb
    cases hb
    have hb:=hb0
    have hzn:z=n:=by
     unfold de at hc
     simp[hb]at hc
     exact hc
    subst hzn
    have hver:v=l.bU:=hbr.2.1.symm
    have hesz:l.bg=z:=hbr.2.2.1
    have hLc:L.length≤l.cap:=hbr.2.2.2.2.1
    have k1':eZ (L.length-off) (L.length-off) (hi'.map (ev e))=some h1:=by rw[hh];exact k1
    have his:∃u,hi=some u:=by
     rcases e9 hhi he with⟨_,e2⟩|⟨p,q,e1,_,_⟩
     ·rw[e2]at hh;cases hh
     ·exact⟨p,e1⟩
    obtain⟨u,rfl⟩:=his
    suffices hs:∃q len cap,a.eval x=.slice q len cap∧L.length-off≤cap∧(L.length-off≤cap→l1≤h1→h1≤L.length-off→VR w F ρ (.bG b v (off+l1) (h1-l1)) (.slice (if cap=l1 then q else q.map (·.add (l1*z))) (h1-l1) (cap-l1))) by
     obtain⟨q,len,cap,j1,j2,j3⟩:=hs
     obtain⟨p1,p2,hrun⟩:=jq (C:=C) (w:=w) (isS:=true) hlo hhi he j2 k1' k2
     refine aJ.val hr ?_ (j3 j2 p1 p2)
     unfold Instr.sliceAt
     have hrun':(Instr.sliceBounds true len cap (lo.map a.eval) (some (a.eval u)) none).run C.P w=.ok (l1,h1,cap) w:=hrun
     simp only[Sem.run_bind,run_underlying hu,Result.andThen,Instr.slice,j1,Oo,Qb,hrun',aY hn]
     rfl
    cases hvi:l.aL with
    |true=>
     obtain⟨q,hq,rfl,rfl⟩:=g1 hvi
     have hcap0:=hbr.2.2.2.2.2.2.1 hvi
     refine⟨q,0,0,hq,by omega,fun j2 p1 p2=>?_⟩
     have:h1=0:=by omega
     subst this
     have:l1=0:=by omega
     subst this
     exact .bG hl (PF hver) rfl (fun _=>⟨fun _=>⟨q,rfl,rfl,rfl⟩,(fun hf=>by rw[hvi]at hf;cases hf)⟩)
    |false=>
     obtain⟨g3,q,hq,g4⟩:=g2 hvi
     refine⟨q,m,l.cap-off,hq,by omega,fun j2 p1 p2=>?_⟩
     refine .bG hl (PF hver) rfl (fun _=>⟨(fun hf=>by rw[hvi]at hf;cases hf),fun _=>⟨by omega,_,by congr 1;omega,fun hlt=>?_⟩⟩)
     rw[if_neg (by omega),g4 (by omega)]
     simp[cB,hesz,Ox,N9]
   ·cases h
 ·cases h
theorem uK{t el:TypeId}{n:Nat}{x:Operand}{y:bj}{lo hi mx:Option Operand}{lo' hi' mx':Option bj}(hx:aG x=some y)(hlo:dQ lo=some lo')(hhi:dQ hi=some hi')(hmx:dQ mx=some mx')
 (hu:C.P.underlying t=some (.slice el)) (hn:eO C.P el=some n) (hr:HR C ρ F H w) (he:ER w F ρ e a.tmps) (hc:de H n (ev e y)=true) (hsome:mx'.isSome=true→hi'.isSome=true)
 (h:nC (ev e y) (lo'.map (ev e)) (hi'.map (ev e)) (mx'.map (ev e))=some s) :
 aJ C (do pure (.value (←Instr.sliceAt t (a.eval x) (lo.map a.eval) (hi.map a.eval) (mx.map a.eval)))) ρ F H w s H:=by
 have hv:=ar hx he
 generalize ev e y=c at *
 suffices hs:∃q len cap l1 h1 m1,a.eval x=.slice q len cap∧(Instr.sliceBounds true len cap (lo.map a.eval) (hi.map a.eval) (mx.map a.eval)).run C.P w=.ok (l1,h1,m1) w∧
  VR w F ρ s (.slice (if m1=l1 then q else q.map (·.add (l1*n))) (h1-l1) (m1-l1)) by
  obtain⟨q,len,cap,l1,h1,m1,k1,k2,k3⟩:=hs
  refine aJ.val hr ?_ k3
  unfold Instr.sliceAt
  simp only[Sem.run_bind,run_underlying hu,Result.andThen,Instr.slice,k1,k2,aY hn]
  rfl
 cases hmx':mx' with
 |none=>
  have hmn:mx=none:=by
   rcases e9 hmx he with⟨e1,_⟩|⟨_,_,_,e2,_⟩
   ·exact e1
   ·rw[hmx']at e2;cases e2
  subst hmx' hmn
  simp only[Qb]at h⊢
  unfold nC at h
  split at h
  ·rename_i z L f
   simp only[NS,NP,eZ,N1]at h
   obtain⟨m,rfl,h1,k1,l1,k2,rfl⟩:=h
   generalize a.eval x=u at *
   cases hv with
   |aB V hcap hfull hz hat h1' hv=>
    rename_i q cap
    obtain⟨p1,p2,hrun⟩:=jq (C:=C) (w:=w) (isS:=true) hlo hhi he hcap k1 k2
    refine⟨q,_,cap,l1,h1,cap,rfl,hrun,?_⟩
    have hlen:((L.take h1).drop l1).length=h1-l1:=by simp;omega
    rw[←hlen]
    refine .aB (fun i j=>V (l1+i) j) (by rw[hlen];omega) (fun hf=>?_) (fun i cs hi=>hz _ cs (ck hi).1) ?_ (fun i j cs c hi hj=>h1' _ j cs c (ck hi).1 hj) (fun i j cs c hi hj=>hv _ j cs c (ck hi).1 hj)
    ·simp at hf
     rw[hlen,hfull hf.1,hf.2]
    ·by_cases hemp:(L.take h1).drop l1=[]
     ·exact .inl hemp
     ·right
      have hlt:l1<h1:=by
       have:0<((L.take h1).drop l1).length:=Q6.2 hemp
       omega
      rcases hat with h0|⟨B,o,ha,hF,hk⟩
      ·subst h0;simp at p2;omega
      ·subst ha
       have hne:L≠[]:=fun h=>by subst h;simp at p2;omega
       have hzn:z=n:=by
        unfold de at hc
        simp at hc
        rcases hc with hc|hc
        ·exact hc
        ·exact absurd hc hne
       subst hzn
       refine⟨B,o+l1*z,?_,hF,fun i j cs c hi hj=>?_⟩
       ·rw[if_neg (by omega)];simp[cB]
       ·have:=hk _ j cs c (ck hi).1 hj
        rw[Ox]at this
        rw[N9 o]
        exact this
  ·rename_i b bU off m
   simp only[NS,NP]at h
   obtain⟨h1,k1,l1,k2,rfl⟩:=h
   obtain⟨l,z,L,ex,hl,hb,hbr,g1,g2⟩:=dh hr (ky hc) hv
   have hzn:z=n:=by
    unfold de at hc
    simp[hb]at hc
    exact hc
   subst hzn
   have hver:bU=l.bU:=hbr.2.1.symm
   have hesz:l.bg=z:=hbr.2.2.1
   cases hvi:l.aL with
   |true=>
    obtain⟨q,hq,rfl,rfl⟩:=g1 hvi
    obtain⟨p1,p2,hrun⟩:=jq (C:=C) (w:=w) (isS:=true) hlo hhi he (NV 0) k1 k2
    have:h1=0:=by omega
    subst this
    have:l1=0:=by omega
    subst this
    exact⟨q,0,0,0,0,0,hq,hrun,.bG hl (PF hver) rfl (fun _=>⟨fun _=>⟨q,rfl,rfl,rfl⟩,(fun hf=>by rw[hvi]at hf;cases hf)⟩)⟩
   |false=>
    obtain⟨g3,q,hq,g4⟩:=g2 hvi
    obtain⟨p1,p2,hrun⟩:=jq (C:=C) (w:=w) (isS:=true) hlo hhi he (show m≤l.cap-off by omega) k1 k2
    refine⟨q,m,l.cap-off,l1,h1,l.cap-off,hq,hrun,.bG hl (PF hver) rfl (fun _=>⟨(fun hf=>by rw[hvi]at hf;cases hf),fun _=>⟨by omega,_,by congr 1;omega,fun hlt=>?_⟩⟩)⟩
    rw[if_neg (by omega),g4 (by omega)]
    simp[cB,hesz,Ox,N9]
  ·cases h
 |some mq=>
  obtain⟨mo,rfl,hmv⟩:∃mo,mx=some mo∧VR w F ρ (ev e mq) (a.eval mo):=by
   rcases e9 hmx he with⟨_,e2⟩|⟨p,q,e1,e2,e3⟩
   ·rw[hmx']at e2;cases e2
   ·rw[hmx']at e2;cases e2;exact⟨p,e1,e3⟩
  subst hmx'
  simp only[Oo]at h⊢
  have hb3:∀{n0 cap m h1 l1:Nat},n0≤cap→pG n0 (ev e mq)=some m→eZ m n0 (hi'.map (ev e))=some h1→eZ h1 0 (lo'.map (ev e))=some l1→hi'.isSome=true→
   l1≤h1∧h1≤m∧m≤n0∧(Instr.sliceBounds true n0 cap (lo.map a.eval) (hi.map a.eval) (some (a.eval mo))).run C.P w=.ok (l1,h1,m) w:=by
   intro n0 cap m h1 l1 hcap km kh kl hsome
   obtain⟨m1,m2⟩:=je (C:=C) (code:=.slice3Acap) km hmv
   rcases e9 hhi he with⟨_,rfl⟩|⟨hp,hq,rfl,rfl,hhv⟩
   ·cases hsome
   ·obtain⟨h3,h4⟩:=je (C:=C) (code:=.slice3B) kh hhv
    have a2:l1≤h1∧(match lo.map a.eval with
     |some v=>Instr.sliceBound v h1 (if(some (a.eval mo)).isSome then .slice3C else .sliceB)
     |none=>pure 0).run C.P w=.ok l1 w:=by
     rcases e9 hlo he with⟨rfl,rfl⟩|⟨p,q,rfl,rfl,hv⟩
     ·simp[eZ]at kl;subst kl;exact⟨PO _,rfl⟩
     ·obtain⟨k1,k2⟩:=je (C:=C) (code:=.slice3C) kl hv
      exact⟨k1,k2 h1 (NV _)⟩
    refine⟨a2.1,h3,m1,?_⟩
    have b2:=a2.2
    have b1:=h4 m (NV _)
    have b0:=m2 cap hcap
    unfold Instr.sliceBounds
    simp only[Sem.run_bind,pure,Sem.run,Result.andThen_ok]at b0 b1 b2⊢
    cases lo<;>simp only[Qb,Oo]at b2⊢ <;>simp_all [Sem.run,pure]
  have hsome:=hsome rfl
  unfold nC at h
  split at h
  ·rename_i z L f
   simp only[NS,NP,eZ]at h
   obtain⟨m,km,h1,k1,l1,k2,rfl⟩:=h
   generalize a.eval x=u at *
   cases hv with
   |aB V hcap hfull hz hat h1' hv=>
    rename_i q cap
    obtain⟨p1,p2,p3,hrun⟩:=hb3 hcap km k1 k2 hsome
    refine⟨q,_,cap,l1,h1,m,rfl,hrun,?_⟩
    have hlen:((L.take h1).drop l1).length=h1-l1:=by simp;omega
    rw[←hlen]
    refine .aB (fun i j=>V (l1+i) j) (by rw[hlen];omega) (fun hf=>?_) (fun i cs hi=>hz _ cs (ck hi).1) ?_ (fun i j cs c hi hj=>h1' _ j cs c (ck hi).1 hj) (fun i j cs c hi hj=>hv _ j cs c (ck hi).1 hj)
    ·simp at hf
     rw[hlen,hf]
    ·by_cases hemp:(L.take h1).drop l1=[]
     ·exact .inl hemp
     ·right
      have hlt:l1<h1:=by
       have:0<((L.take h1).drop l1).length:=Q6.2 hemp
       omega
      rcases hat with h0|⟨B,o,ha,hF,hk⟩
      ·subst h0;simp at p3;omega
      ·subst ha
       have hne:L≠[]:=fun h=>by subst h;simp at p3;omega
       have hzn:z=n:=by
        unfold de at hc
        simp at hc
        rcases hc with hc|hc
        ·exact hc
        ·exact absurd hc hne
       subst hzn
       refine⟨B,o+l1*z,?_,hF,fun i j cs c hi hj=>?_⟩
       ·rw[if_neg (by omega)];simp[cB]
       ·have:=hk _ j cs c (ck hi).1 hj
        rw[Ox]at this
        rw[N9 o]
        exact this
  ·rename_i b bU off m0
   simp only[NS,NP,eZ]at h
   obtain⟨m,km,h1,k1,l1,k2,h⟩:=h
   obtain⟨l,z,L,ex,hl,hb,hbr,g1,g2⟩:=dh hr (ky hc) hv
   have hsl:∃q cap,a.eval x=.slice q m0 cap∧m0≤cap:=by
    cases hvi:l.aL with
    |true=>obtain⟨q,hq,_,rfl⟩:=g1 hvi;exact⟨q,0,hq,NV _⟩
    |false=>obtain⟨g3,q,hq,_⟩:=g2 hvi;exact⟨q,_,hq,by omega⟩
   obtain⟨q,cap,hq,hcap⟩:=hsl
   obtain⟨p1,p2,p3,hrun⟩:=hb3 hcap km k1 k2 hsome
   refine⟨q,m0,cap,l1,h1,m,hq,hrun,?_⟩
   replace h:=PZ h
   cases hml:m==l1 with
   |false=>rw[hml,Oa]at h;rw[←h];exact VR.undef _
   |true=>
   rw[hml,N6]at h
   rw[←h]
   have hml:m=l1:=by simpa using hml
   have e1:h1-l1=0:=by omega
   have e2:m-l1=0:=by omega
   rw[e1,e2]
   exact VR.aB (L:=[]) (fun _ _=>undef) (NV _) (fun _=>rfl) (by simp) (.inl rfl) (by simp) (by simp)
  ·cases h
end
end
section
section
variable{C:Ctx}{ρ:Map}{F:Nat→Prop}{H H':ae}{w:World}{e:Env}{a:Act}{s c d:SV}
theorem qL(off:Nat):∀(l:List Value) (k:Nat) (cells:Array Value),off+k+l.length≤cells.size→
 (l.zipIdx k).foldl (fun(cs:Array Value) (p:Value×Nat)=>cs.setIfInBounds (off+p.2) p.1) cells=kp cells (off+k) l
 |[],k,cells,_=>by simp[kp]
 |v::r,k,cells,h=>by
  simp only[Og]at h
  rw[List.zipIdx_cons,Q7,qL off r (k+1) _ (by simp;omega)]
  apply Qj
  intro j
  rw[ik (by simp;omega),ik (by simp;omega)]
  simp only[Og]
  by_cases e1:j<off+k
  ·have e2:j<off+(k+1):=by omega
   simp only[e1,e2,if_true]
   rw[Oz (by omega)]
  ·by_cases e2:j=off+k
   ·subst e2
    have e3:off+k<off+(k+1):=by omega
    have e4:¬off+k<off+k:=by omega
    have e5:off+k<off+k+(r.length+1):=by omega
    simp only[e3,e4,e5,if_true,if_false]
    have:off+k<cells.size:=by omega
    simp[this]
   ·have a1:¬j<off+(k+1):=by omega
    simp only[a1,e1,if_false]
    by_cases e3:j<off+(k+1)+r.length
    ·have e4:j<off+k+(r.length+1):=by omega
     simp only[e3,e4,if_true]
     rw[show j-(off+k)=(j-(off+(k+1)))+1 by omega]
     simp
    ·have e4:¬j<off+k+(r.length+1):=by omega
     simp only[e3,e4,if_false]
     rw[Oz (by omega)]
theorem oS{place:Nat→Option (Nat×Nat)}{cells:Array Value}{i off:Nat}{v:Value}{rest:List (Nat×Value)}(hp:place i=some (off,v.cells.size))(hle:off+v.cells.size≤cells.size) :
 Instr.fill place cells ((i,v)::rest)=Instr.fill place (kp cells off v.cells.toList) rest:=by
 have:(v.cells.zipIdx.foldl (fun cs (c,j)=>cs.setIfInBounds (off+j) c) cells)=kp cells off v.cells.toList:=by
  have:=qL off v.cells.toList 0 cells (by simpa using hle)
  rw[Ph]at this
  rw[←this,←Array.foldl_toList,Array.toList_zipIdx]
 simp only[Instr.fill,hp]
 rw[if_neg (by simp;omega),this]
theorem lC{place:Nat→Option (Nat×Nat)}:∀(qs:List (Nat×Operand)) (ps:List (Nat×Nat×bj)) (z r:List SV) (cells:Array Value),
 ps.length=qs.length→(∀(j:Nat) p q,qs[j]?=some q→ps[j]?=some p→place q.1=some (p.1,p.2.1)∧aG q.2=some p.2.2)→ER w F ρ e a.tmps→z.length=cells.size→aT w F ρ cells 0 z→fM (ev e) z ps=some r→
 ∃out,Instr.fill place cells (qs.map fun q=>(q.1,a.eval q.2))=some out∧r.length=out.size∧aT w F ρ out 0 r
 |[],[],z,r,cells,_,_,_,hz,hc,h=>by
  simp[fM]at h;subst h
  exact⟨cells,rfl,hz,hc⟩
 |[],_::_,_,_,_,hl,_,_,_,_,_=>by simp at hl
 |_::_,[],_,_,_,hl,_,_,_,_,_=>by simp at hl
 |q::qs,(off,n,x)::ps,z,r,cells,hl,hp,he,hz,hc,h=>by
  obtain⟨h1,h2⟩:=hp 0 _ _ rfl rfl
  simp only[fM,NS]at h
  obtain⟨cs,hcs,h⟩:=h
  replace h:=af h
  obtain⟨hb,h⟩:=h
  simp at hb
  obtain⟨hn,hle⟩:=hb
  obtain⟨k1,k2,_⟩:=fD hcs (ar h2 he)
  have hsz:(kp cells off (a.eval q.2).cells.toList).size=cells.size:=gQ (by simp;omega)
  have aV:=ju (at_:=0) hc k2 hn k1 hle (by omega)
  rw[OY]at aV
  obtain⟨out,o1,o2,o3⟩:=lC qs ps _ r (kp cells off (a.eval q.2).cells.toList) (by simpa using hl) (fun j p q hq hp'=>hp (j+1) p q (by simpa using hq) (by simpa using hp')) he
   (by rw[fY hn hle,hsz];exact hz) aV h
  refine⟨out,?_,o2,o3⟩
  simp only[Ov]
  rw[oS (by rw[h1,←k1,hn]) (by omega)]
  exact o1
theorem run_places{P:Program}{w:World}:∀(fs:List Field),(∀f∈fs,(eO P f.type).isSome=true)→Sem.run P (fs.mapM (fun(f:Field)=>(do pure (f.offset,←sizeOf f.type):Sem (Nat×Nat)))) w=.ok (fs.map fun(f:Field)=>(f.offset,(eO P f.type).getD 0)) w
 |[],_=>rfl
 |f::fs,h=>by
  obtain⟨n,hn⟩:=Option.isSome_iff_exists.1 (h f (by simp))
  have ih:=run_places (P:=P) (w:=w) fs (fun g hg=>h g (by simp[hg]))
  simp only[List.mapM_cons,Sem.run_bind,aY hn,Result.andThen,Ov,hn,O2]
  simp only[pure,Sem.run,Result.andThen,Sem.run_bind]at ih⊢
  rw[ih]
theorem vI{t:TypeId}{qs:Array (Nat×Operand)}{z r:List SV}{ps:List (Nat×Nat×bj)}(hz:fw C.P t=some z)(hp:sK C.P t qs.toList=some ps)(hr:HR C ρ F H w)(he:ER w F ρ e a.tmps)
 (h:fM (ev e) z ps=some r):aJ C (do pure (.value (←Instr.build t (qs.map fun(i,x)=>(i,a.eval x))))) ρ F H w (.agg r) H:=by
 obtain⟨i,v,hi,hv,h1,h2⟩:=fe (w:=w) (F:=F) (ρ:=ρ) hz
 have fin:∀out:Array Value,r.length=out.size→aT w F ρ out 0 r→VR w F ρ (.agg r) (.agg out):=fun out o1 o2=>
  .agg o1 (fun j c hj=>let⟨_,_,_,h⟩:=o2 j c hj;h) (fun j c v hj hv=>by
   obtain⟨v',h3,h4,_⟩:=o2 j c hj
   rw[OY]at h3
   rw[h3]at hv;cases hv;exact h4)
 have hlist:(qs.map fun(i,x)=>(i,a.eval x)).toList=qs.toList.map fun q=>(q.1,a.eval q.2):=by simp
 unfold sK at hp
 split at hp
 ·rename_i fs hu
  cases hall:fs.toList.all (fun f=>(eO C.P f.type).isSome)with
  |false=>rw[hall]at hp;simp at hp
  |true=>
   rw[hall]at hp
   simp only[Px,Oa]at hp
   obtain⟨p1,p2⟩:=cY hp
   have hpl:=run_places (P:=C.P) (w:=w) fs.toList (fun f hf=>N5.1 hall f hf)
   obtain⟨out,o1,o2,o3⟩:=lC (place:=((fs.toList.map fun f=>(f.offset,(eO C.P f.type).getD 0)).toArray[·]?)) qs.toList ps z r v.cells p1 (fun j p q hq hp'=>by
    have:=p2 j q p hq hp'
    split at this
    ·rename_i f hf
     split at this
     ·rename_i n x hn hx
      cases this
      refine⟨?_,hx⟩
      simp[hf,hn]
     ·cases this
    ·cases this) he h1 h2 h
   refine aJ.val hr ?_ (fin out o2 o3)
   unfold Instr.build
   simp only[Sem.run_bind,cP hi hv,Result.andThen,run_underlying hu,Array.mapM_eq_mapM_toList]
   rw[Sem.run_map,hpl]
   simp only[Result.andThen,hlist,o1]
   rfl
 ·rename_i n el hu
  split at hp
  ·rename_i m hm
   obtain⟨p1,p2⟩:=cY hp
   obtain⟨out,o1,o2,o3⟩:=lC (place:=fun i=>some (i*m,m)) qs.toList ps z r v.cells p1 (fun j p q hq hp'=>by
    have:=p2 j q p hq hp'
    simp only[NP]at this
    obtain⟨x,hx,rfl⟩:=this
    exact⟨rfl,hx⟩) he h1 h2 h
   refine aJ.val hr ?_ (fin out o2 o3)
   unfold Instr.build
   simp only[Sem.run_bind,cP hi hv,Result.andThen,run_underlying hu,aY hm,hlist,o1]
   rfl
  ·cases hp
 ·cases hp
end
end
section
section
variable{C:Ctx}{ρ:Map}{F:Nat→Prop}{H H':ae}{w:World}{e:Env}{a:Act}{s c d:SV}
def dA(w:World)(F:Nat→Prop)(ρ:Map)(vs:Array Value)(at_ z:Nat)(L:List (List SV)):Prop:=
 (∀(i:Nat) cs,L[i]?=some cs→cs.length=z)∧∀(i:Nat) cs,L[i]?=some cs→aT w F ρ vs (at_+i*z) cs
theorem jb(hr:HR C ρ F H w){L:List (List SV)}{z cap:Nat}{ex:Bool}{vs:Array Value}{ty:TypeId}{w':World}(hw:w'.heap=w.heap.push (.cells vs ty))(hcap:L.length≤cap)(hex:ex=true→cap=L.length)
 (hsz:cap*z≤vs.size) (hc:dA w F ρ vs 0 z L) (n:Nat) (hn:n≤L.length) (hout:w'.os=w.os∧w'.output=w.output:=by exact⟨rfl,rfl⟩) :
 cN C ρ F H w (.bG H.bl.length 0 0 n) (aV H (.arr 0 z L ex)) (.slice (some ⟨w.heap.size,0,none⟩) n cap) w':=by
 let l:Loc:={bq:=w.heap.size,base:=0,cap:=cap,bg:=z,bU:=0,aL:=false,arr:=true}
 have hh:∀B,B<w.heap.size→w'.heap[B]?=w.heap[B]?:=fun B hB=>by
  rw[hw];simp[Pp,PB hB]
 have hk:cK F w w':=fun B hB=>hh B (hr.fO B hB)
 have hle:ρ.le (ρ.put H.bl.length l):=fun b l' h=>⟨l',by rw[Map.aA _ _ (PB (hr.gY b l' h))];exact h,.inl rfl⟩
 have hp:=hr.push (w':=w') (by rw[hw];simp) hh (.arr 0 z L ex) l (fun _=>⟨NV _,by rw[hw];simp[l]⟩)
  ⟨rfl,rfl,rfl,hc.1,hcap,hex,(fun h=>by cases h),fun _=>⟨vs,ty,(0,0),by rw[hw];simp[l],fun o ho=>by simp,by simpa[l]using hsz,fun i cs hi=>by
   have:=hc.2 i cs hi
   exact this.mono hk (fun _ h=>h) hle⟩⟩ hout
 exact⟨_,F,.bG (l:=l) (Map.aQ _ _ _) (NV _) rfl (fun _=>⟨(fun h=>by cases h),fun _=>⟨by simp[l];omega,_,rfl,fun _=>by simp[l]⟩⟩),hp.1,hp.2⟩
theorem oZ{z:Nat}:∀(qs:List (Nat×Operand)) (ps:List (Nat×bj)) (L r:List (List SV)) (cells:Array Value),
 ps.length=qs.length→(∀(j:Nat) p q,qs[j]?=some q→ps[j]?=some p→q.1=p.1∧aG q.2=some p.2)→ER w F ρ e a.tmps→L.length*z≤cells.size→dA w F ρ cells 0 z L→dU (ev e) z L ps=some r→
 ∃out,Instr.fill (fun i=>some (i*z,z)) cells (qs.map fun q=>(q.1,a.eval q.2))=some out∧r.length=L.length∧out.size=cells.size∧dA w F ρ out 0 z r
 |[],[],L,r,cells,_,_,_,hz,hc,h=>by
  simp[dU]at h;subst h
  exact⟨cells,rfl,rfl,rfl,hc⟩
 |[],_::_,_,_,_,hl,_,_,_,_,_=>by simp at hl
 |_::_,[],_,_,_,hl,_,_,_,_,_=>by simp at hl
 |q::qs,(i,x)::ps,L,r,cells,hl,hp,he,hz,hc,h=>by
  obtain⟨h1,h2⟩:=hp 0 _ _ rfl rfl
  simp only[dU,NS]at h
  obtain⟨cs,hcs,h⟩:=h
  replace h:=af h
  obtain⟨hb,h⟩:=h
  simp at hb
  obtain⟨hn,hlt⟩:=hb
  simp only at h1 h2
  obtain⟨k1,k2,_⟩:=fD hcs (ar h2 he)
  have hm:(i+1)*z≤L.length*z:=Om z hlt
  rw[Ox,Pq]at hm
  have hle:i*z+(a.eval q.2).cells.size≤cells.size:=by omega
  have hsz:(kp cells (i*z) (a.eval q.2).cells.toList).size=cells.size:=gQ (by simp;omega)
  have hrow:dA w F ρ (kp cells (i*z) (a.eval q.2).cells.toList) 0 z (L.set i cs):=by
   refine⟨fun j ds hj=>?_,fun j ds hj=>?_⟩
   ·by_cases e1:j=i
    ·subst e1;simp[hlt]at hj;subst hj;exact hn
    ·rw[N7 (Ne.symm e1)]at hj;exact hc.1 j ds hj
   ·by_cases e1:j=i
    ·subst e1
     simp[hlt]at hj
     subst hj
     obtain⟨old,hold⟩:∃o,L[j]?=some o:=⟨L[j],N4 hlt⟩
     have:=ju (at_:=0+j*z) (o:=0) (n:=z) (hc.2 j old hold) k2 hn k1 (by rw[hc.1 j old hold];omega) (by rw[hc.1 j old hold];omega)
     rw[Ph,OY]at this
     rw[OY]
     intro q' c' hq'
     refine this q' c' ?_
     have hlen:=(NT.1 hq').1
     unfold eL
     rw[QC,PR,On hlen]
     exact hq'
    ·rw[N7 (Ne.symm e1)]at hj
     refine ki (n:=0) (hc.2 j ds hj) (by simp;omega) ?_
     have hd:=hc.1 j ds hj
     simp only[P0]
     rcases Rd e1 with hlt'|hlt'
     ·left
      have:(j+1)*z≤i*z:=Om z hlt'
      rw[Ox,Pq]at this
      omega
     ·right
      have:(i+1)*z≤j*z:=Om z hlt'
      rw[Ox,Pq]at this
      omega
  obtain⟨out,o1,o2,o3,o4⟩:=oZ qs ps _ r (kp cells (i*z) (a.eval q.2).cells.toList) (by simpa using hl) (fun j p q hq hp'=>hp (j+1) p q (by simpa using hq) (by simpa using hp')) he
   (by rw[hsz];simpa using hz) hrow h
  refine⟨out,?_,by simpa using o2,o3.trans hsz,o4⟩
  simp only[Ov]
  rw[h1,oS (by rw[←k1,hn]) hle]
  exact o1
def bZ(zs:Array Value)(n:Nat):Array Value:=(Array.range n).map fun i=>zs[i%zs.size]!
theorem ib{z n:Nat}{zs:Array Value}{zl:List SV}(hz:zl.length=z)(hzs:zl.length=zs.size)(hc:aT w F ρ zs 0 zl)(h0:0<z):dA w F ρ (bZ zs (n*z)) 0 z (List.replicate n zl):=by
 refine⟨fun i cs hi=>?_,fun i cs hi=>?_⟩<;>rw[Qc]at hi<;>split at hi<;>(try (cases hi;done))<;>cases hi
 ·exact hz
 ·rename_i hlt
  intro j c hj
  have hjl:=(NT.1 hj).1
  obtain⟨v,h1,h2,h3⟩:=hc j c hj
  have hm:(i+1)*z≤n*z:=Om z hlt
  rw[Ox,Pq]at hm
  refine⟨v,?_,h2,h3⟩
  rw[OY]at h1⊢
  unfold bZ
  have hmod:(i*z+j)%zs.size=j:=by
   rw[←hzs,hz,QR,Nat.add_mul_mod_self_right,O7 (by omega)]
  simp only[Array.getElem?_map,Array.getElem?_range,show i*z+j<n*z by omega,if_true,Oo,hmod]
  congr 1
  have hj':j<zs.size:=by omega
  rw[getElem!_pos zs j hj']
  rw[Od hj']at h1
  exact PZ h1
theorem uQ{t el:TypeId}{n z:Nat}{qs:Array (Nat×Operand)}{zl:List SV}{ps:List (Nat×bj)}{L:List (List SV)}(he0:jO C.P t=some el)(hsz:eO C.P el=some (z+1))(hz:fw C.P el=some zl)
 (hp:bc (qs.toList.map fun p=>(aG p.2).map fun x=>(p.1,x))=some ps) (hlim:n*(z+1)≤16777216) (hzl:zl.length=z+1) (hr:HR C ρ F H w) (he:ER w F ρ e a.tmps)
 (h:dU (ev e) (z+1) (List.replicate n zl) ps=some L):aJ C (do pure (.value (←Instr.buildSlice t n (qs.map fun(i,x)=>(i,a.eval x))))) ρ F H w (.bG H.bl.length 0 0 n) (aV H (.arr 0 (z+1) L true)):=by
 obtain⟨i,v,hi,hv,h1,h2⟩:=fe (w:=w) (F:=F) (ρ:=ρ) hz
 have hu:C.P.underlying t=some (.slice el):=by
  unfold jO at he0
  split at he0
  ·cases he0;assumption
  ·cases he0
 have hlist:(qs.map fun(i,x)=>(i,a.eval x)).toList=qs.toList.map fun q=>(q.1,a.eval q.2):=by simp
 obtain⟨p1,p2⟩:=cY hp
 have hzr:(bZ v.cells (n*(z+1))).size=n*(z+1):=by simp[bZ]
 obtain⟨out,o1,o2,o3,o4⟩:=oZ qs.toList ps (List.replicate n zl) L (bZ v.cells (n*(z+1))) p1 (fun j p q hq hp'=>by
  have:=p2 j q p hq hp'
  simp only[NP]at this
  obtain⟨x,hx,rfl⟩:=this
  exact⟨rfl,hx⟩) he (by rw[hzr];simp) (ib hzl h1 h2 (Nat.succ_pos z)) h
 have hlen:L.length=n:=by simpa using o2
 refine aJ.mZ (w':={w with heap:=w.heap.push (.cells out el)}) ?_ (jb hr rfl (NV L.length) (fun _=>rfl) (by rw[o3,hzr,hlen];exact NV _) o4 n (by omega))
 have hlim':¬n*(z+1)>2 ^ 24:=by omega
 unfold Instr.buildSlice
 simp only[Sem.run_bind,run_underlying hu,Result.andThen,aY hsz,if_neg hlim']
 by_cases h0:n*(z+1)=0
 ·have hzz:(Array.range (n*(z+1))).map (fun x=>(#[]:Array Value)[x%(#[]:Array Value).size]!)=bZ v.cells (n*(z+1)):=by
   unfold bZ;rw[h0];simp
  simp only[h0,if_true,pure,Sem.run,Result.andThen,Sem.run_bind]
  rw[h0]at hzz
  rw[h0]at o1
  simp only[hzz,hlist,o1]
  simp[newRow,newObj,Sem.run,hlen]
 ·simp only[h0,if_false,Sem.run_bind,cP hi hv,Result.andThen,pure,Sem.run]
  have hzz:(Array.range (n*(z+1))).map (fun x=>v.cells[x%v.cells.size]!)=bZ v.cells (n*(z+1)):=rfl
  simp only[hzz,hlist,o1]
  simp[newRow,newObj,Sem.run,hlen]
end
end
section
section
variable{C:Ctx}{ρ:Map}{F:Nat→Prop}{H H':ae}{w:World}{e:Env}{a:Act}{s c d:SV}
theorem oO{w':World}(h:w'.heap=w.heap)(ad:Addr):w'.cell? ad=w.cell? ad:=by simp[World.cell?,h]
theorem kO{vs:Array Value}{at_ z:Nat}:dA w F ρ vs at_ z []:=⟨by simp,by simp⟩
theorem tS{vs:Array Value}{z:Nat}{X:List (List SV)}(h:dA w F ρ vs 0 z X)(hn:vs.size=X.length*z):∀v∈vs.toList,ig v=true:=by
 intro v hv
 obtain⟨j,hj,rfl⟩:=List.mem_iff_getElem.1 hv
 simp at hj
 have hz:0<z:=by
  rcases Nat.eq_zero_or_pos z with h0|h0
  ·subst h0;omega
  ·exact h0
 have hi:j/z<X.length:=by
  apply Nat.div_lt_of_lt_mul
  rw[Qn];omega
 have hx:X[j/z]?=some X[j/z]:=N4 hi
 have hl:=h.1 _ _ hx
 have hm:j%z<(X[j/z]).length:=by rw[hl];exact Rn _ hz
 obtain⟨v',h1,h2,h3⟩:=h.2 _ _ hx (j%z) _ (N4 hm)
 have:0+j/z*z+j%z=j:=by
  rw[OY,Qn];exact Nat.div_add_mod j z
 rw[this,Od (by omega)]at h1
 have:v'=vs.toList[j]:=by simpa using(PZ h1).symm
 rw[←this]
 exact h2.one h3
def zm(C:Ctx)(w:World)(F:Nat→Prop)(H:ae)(ρ ρ1:Map)(c:SV):Prop:=∀b bU off n l x,c=.bG b bU off n→ρ b=some l→az H b=some x→x.live=true→BR C w F ρ1 l x
theorem dE(hr:HR C ρ F H w):zm C w F H ρ ρ c:=fun b bU off n l x _ hl hb hx=>by
 obtain⟨l',h1,h2⟩:=hr.live b x hb hx
 rw[hl]at h1;cases h1
 exact h2
theorem ja(hr:HR C ρ F H w){z:Nat}(hz:0<z){X:List (List SV)}{v:Value}(hv:VR w F ρ c v)(h:kq z H c=some X) :
 ∃q cap cells,v=.slice q X.length cap∧(∀w':World,w'.heap=w.heap→(Builtin.firstCells z X.length v).run C.P w'=.ok cells w')∧cells.size=X.length*z∧∀ρ1:Map,zm C w F H ρ ρ1 c→dA w F ρ1 cells 0 z X:=by
 unfold kq at h
 split at h
 ·rename_i z' L f
  replace h:=af h
  obtain⟨hc,h⟩:=h
  have h':L=X:=PZ h
  subst h'
  clear h
  cases hv with
  |aB V hcap hfull hz' hat h1 hv=>
   rename_i q cap
   rcases hat with h0|⟨B,o,ha,hF,hk⟩
   ·subst h0
    refine⟨q,cap,#[],rfl,fun w' hw=>?_,by simp,fun _ _=>kO⟩
    cases q with
    |none=>rfl
    |some q=>simp only[Builtin.firstCells,Oc,Qo];rfl
   ·subst ha
    by_cases h0:L=[]
    ·subst h0
     exact⟨_,cap,#[],rfl,fun w' hw=>by simp only[Builtin.firstCells,Oc,Qo];rfl,by simp,fun _ _=>kO⟩
    ·have hzz:z'=z:=by
      simp at hc
      rcases hc with hc|hc
      ·exact hc
      ·exact absurd hc h0
     subst hzz
     refine⟨_,cap,((List.range (L.length*z')).map fun j=>V (j/z') (j%z')).toArray,rfl,fun w' hw=>?_,by simp,fun ρ1 _=>⟨fun i cs hi=>hz' i cs hi,fun i cs hi j c hj=>?_⟩⟩
     ·simp only[Builtin.firstCells]
      refine run_loadCells w' _ _ _ (fun j hj=>?_)
      rw[cB,oO hw]
      have hi:j/z'<L.length:=Nat.div_lt_of_lt_mul (by rw[Qn];exact hj)
      have hx:L[j/z']?=some L[j/z']:=N4 hi
      have hm:j%z'<(L[j/z']).length:=by rw[hz' _ _ hx];exact Rn _ hz
      have:=hk _ _ _ _ hx (N4 hm)
      rw[N9,Qn,Nat.div_add_mod]at this
      exact this
     ·have hil:=(NT.1 hi).1
      have hjl:=(NT.1 hj).1
      rw[hz' i cs hi]at hjl
      have hm:(i+1)*z'≤L.length*z':=Om z' hil
      rw[Ox,Pq]at hm
      refine⟨V i j,?_,(hv i j cs c hi hj).mono (fun _ _=>rfl) (fun _ h=>h) (iY _),h1 i j cs c hi hj⟩
      have e1:(i*z'+j)/z'=i:=by
       rw[QR,Nat.add_mul_div_right _ _ hz,Nat.div_eq_of_lt hjl,OY]
      have e2:(i*z'+j)%z'=j:=by rw[QR,Nat.add_mul_mod_self_right,O7 hjl]
      rw[OY]
      have hlt:i*z'+j<L.length*z':=by omega
      simp only[Pu,Py,P1 hlt,Oo,e1,e2]
 ·rename_i b bU off n
  split at h
  ·rename_i ver' z' L ex hb
   replace h:=af h
   obtain⟨hc,h⟩:=h
   simp at hc
   obtain⟨⟨rfl,rfl⟩,hle⟩:=hc
   cases h
   obtain⟨l,z2,L2,ex2,hl,hb2,hbr,g1,g2⟩:=dh hr (by unfold cur;simp[hb]) hv
   rw[hb]at hb2;cases hb2
   have hlen:((L.drop off).take n).length=n:=by simp;omega
   cases hvi:l.aL with
   |true=>
    obtain⟨q,rfl,rfl,rfl⟩:=g1 hvi
    simp only[QC,Oc,Qo]
    refine⟨q,0,#[],rfl,fun w' hw=>?_,by simp,fun _ _=>kO⟩
    cases q with
    |none=>rfl
    |some q=>simp only[Builtin.firstCells,Qo];rfl
   |false=>
    obtain⟨g3,q,rfl,g4⟩:=g2 hvi
    obtain⟨h1,h2,h3,h4,h5,h6,h7,h8⟩:=hbr
    obtain⟨vs,ty,fz,k1,k2,k3,k4⟩:=h8 hvi
    rw[hlen]
    by_cases hn0:n=0
    ·subst hn0
     simp only[QC]
     refine⟨q,_,#[],rfl,fun w' hw=>?_,by simp,fun _ _=>kO⟩
     cases q with
     |none=>rfl
     |some q=>simp only[Builtin.firstCells,Qo];rfl
    ·have:=g4 (by omega)
     subst this
     have hm:(off+n)*z'≤l.cap*z':=Om z' g3
     rw[Ox]at hm
     refine⟨_,_,vs.extract (l.base+off*z') (l.base+off*z'+n*z'),rfl,fun w' hw=>?_,by simp;omega,fun ρ1 hρ1=>⟨fun i cs hi=>?_,fun i cs hi=>?_⟩⟩
     ·simp only[Builtin.firstCells,h3]
      rw[run_loadCells w' _ _ (fun j=>vs.getD (l.base+off*z'+j) undef) (fun j hj=>by
       rw[cB,oO hw,ku k1]
       have:l.base+off*z'+j<vs.size:=by omega
       simp[this])]
      congr 1
      apply Array.ext
      ·simp;omega
      ·intro j h1 h2
       simp at h1
       have:l.base+off*z'+j<vs.size:=by omega
       simp[this]
     ·obtain⟨e1,_⟩:L[off+i]?=some cs∧True:=by
       rw[Ob]at hi
       split at hi
       ·rw[Ou]at hi;exact⟨hi,trivial⟩
       ·cases hi
      exact h4 _ cs e1
     ·obtain⟨e1,e2⟩:L[off+i]?=some cs∧i<n:=by
       rw[Ob]at hi
       split at hi
       ·rw[Ou]at hi;exact⟨hi,by assumption⟩
       ·cases hi
      intro j c hj
      have hjl:=(NT.1 hj).1
      rw[h4 _ cs e1]at hjl
      obtain⟨_,_,_,_,_,_,_,h9⟩:=hρ1 b _ _ _ l _ rfl hl hb rfl
      obtain⟨vs2,ty2,fz2,m1,m2,m3,m4⟩:=h9 hvi
      rw[k1]at m1;cases m1
      obtain⟨v',p1,p2⟩:=m4 _ cs e1 j c hj
      refine⟨v',?_,p2⟩
      have hm2:(i+1)*z'≤n*z':=Om z' e2
      rw[Ox,Pq]at hm2
      rw[Qf,if_pos (by omega)]
      rw[Ox]at p1
      rw[show l.base+off*z'+(0+i*z'+j)=l.base+(off*z'+i*z')+j by omega]
      exact p1
  ·cases h
 ·cases h
end
end
section
section
variable{C:Ctx}{ρ:Map}{F:Nat→Prop}{H H':ae}{w:World}{e:Env}{a:Act}{s c d:SV}
structure yV(P:Program)(ats:Array TypeId)(el:TypeId)(z:Nat)(i:TypeInfo)(zv:Value):Prop where
 t0:∃t,ats[0]?=some t∧P.underlying t=some (.slice el)
 t1:∃t el',ats[1]?=some t∧P.underlying t=some (.slice el')
 inf:P.info? el=some i
 size:i.size=z
 zero:i.zero=some zv
 Mu:zv.cells.size=z
 xF:0<z
 Mm:0<i.bytes
theorem yV.eO{P:Program}{ats:Array TypeId}{el:TypeId}{z:Nat}{i:TypeInfo}{zv:Value}(h:yV P ats el z i zv):eO P el=some z:=by
 unfold Go.Sh.eO;rw[h.inf];simp[h.size]
theorem run_append_fits{P:Program}{ats:Array TypeId}{el:TypeId}{z:Nat}{i:TypeInfo}{zv:Value}(hT:yV P ats el z i zv){ty:TypeId}{base q:Option Addr}{sl sc m mc:Nat}{cells:Array Value}
 (hx:(Builtin.firstCells z m (.slice q m mc)).run P w=.ok cells w) (hfit:sl+m≤sc) {w':World} (hst:∀ad,base=some ad→(storeCells (ad.add (sl*z)) cells.toList).run P w=.ok () w') (hno:base=none→w'=w) :
 (Builtin.append_ ats ty #[.slice base sl sc,.slice q m mc]).run P w=.ok (.slice base (sl+m) sc) w':=by
 obtain⟨t0,h0,hu0⟩:=hT.t0
 obtain⟨t1,el',h1,hu1⟩:=hT.t1
 unfold Builtin.append_
 simp only[h0,h1,Pu,List.getElem?_cons_zero,QH,Sem.run_bind,run_underlying hu0,run_underlying hu1,Result.andThen,aY hT.eO]
 simp only[pure,Sem.run,Result.andThen,Builtin.lenOf,Pc,if_false,hfit,if_true,Sem.run_bind,Ro]
 rw[hx]
 cases base with
 |none=>simp only[hno rfl];rfl
 |some ad=>simp only[hst ad rfl,Sem.run_bind,Result.andThen];rfl
theorem lr{P:Program}{ats:Array TypeId}{el:TypeId}{z:Nat}{i:TypeInfo}{zv:Value}(hT:yV P ats el z i zv){ty:TypeId}{base q:Option Addr}{sl sc m mc:Nat}{cells old:Array Value}
 (hx:∀w',w'.heap=w.heap→(Builtin.firstCells z m (.slice q m mc)).run P w'=.ok cells w') (ho:∀w',w'.heap=w.heap→(Builtin.firstCells z sl (.slice base sl sc)).run P w'=.ok old w') (hfit:¬sl+m≤sc) (hb:(sl+m)*i.bytes≤cf) :
 ∃nc w' vs ty',sl+m≤nc∧(w'.heap=w.heap.push (.cells vs ty')∧w'.os=w.os∧w'.output=w.output)∧(∃rest,vs=old++cells++rest∧rest.size=(nc-(sl+m))*z)∧
  (Builtin.append_ ats ty #[.slice base sl sc,.slice q m mc]).run P w=.ok (.slice (some ⟨w.heap.size,0,none⟩) (sl+m) nc) w':=by
 obtain⟨t0,h0,hu0⟩:=hT.t0
 obtain⟨t1,el',h1,hu1⟩:=hT.t1
 have hbp:=hT.Mm
 have hml:cf=1099511627776:=rfl
 have g1:¬Builtin.nextslicecap (sl+m) sc*i.bytes>2 ^ 48:=by
  have:=growslice_fits (need:=sl+m) (old:=sc) (bytes:=i.bytes) (by omega) (by omega)
  omega
 have hle:sl+m≤(sl+m)*i.bytes:=Nat.le_mul_of_pos_right _ hbp
 have g2:¬(9223372036854775807<((sl:Int)+(m:Int))):=by omega
 have g1':¬(281474976710656<Builtin.nextslicecap (sl+m) sc*i.bytes):=by omega
 refine⟨grownCap w (sl+m) sc el,w.drew.alloc (.cells (old++cells++Builtin.zeroCells zv.cells (grownCap w (sl+m) sc el-(sl+m))) el),_,el,?_,⟨rfl,rfl,rfl⟩,⟨_,rfl,by simp[Builtin.zeroCells,hT.Mu]⟩,?_⟩
 ·show sl+m≤(sl+m)+_%_
  omega
 ·have hf:=hx w.drew rfl
  have hfo:=ho w.drew rfl
  have hi:=hT.inf
  have hsz:=hT.size
  have hz:=hT.zero
  simp[Builtin.append_,h0,h1,run_underlying hu0,run_underlying hu1,sizeOf,typeInfo,zeroValue,hi,hz,hsz,Builtin.lenOf,hfit,g2,g1',Question.forced,hf,hfo,newRow,grownCap]
end
end
section
section
variable{C:Ctx}{ρ:Map}{F:Nat→Prop}{H H':ae}{w:World}{e:Env}{a:Act}{s c d:SV}
theorem ka{vs ws:Array Value}{at_:Nat}{cs:List SV}(hc:aT w F ρ vs at_ cs):aT w F ρ (vs++ws) at_ cs:=by
 intro j c hj
 obtain⟨v,h1,h2⟩:=hc j c hj
 have:=(N8.1 h1).1
 exact⟨v,by rw[Qy this];exact h1,h2⟩
theorem qi{vs ws:Array Value}{at_:Nat}{cs:List SV}(hc:aT w F ρ ws at_ cs):aT w F ρ (vs++ws) (vs.size+at_) cs:=by
 intro j c hj
 obtain⟨v,h1,h2⟩:=hc j c hj
 refine⟨v,?_,h2⟩
 rw[Qp (by omega),show vs.size+at_+j-vs.size=at_+j by omega]
 exact h1
theorem qB{vs ws rest:Array Value}{z:Nat}{Y X:List (List SV)}(hy:dA w F ρ vs 0 z Y)(hs:vs.size=Y.length*z)(hx:dA w F ρ ws 0 z X):dA w F ρ (vs++ws++rest) 0 z (Y++X):=by
 refine⟨fun i cs hi=>?_,fun i cs hi=>?_⟩<;>rw[Pa]at hi<;>split at hi
 ·exact hy.1 i cs hi
 ·exact hx.1 _ cs hi
 ·exact ka (ka (hy.2 i cs hi))
 ·rename_i hge
  have:=ka (ws:=rest) (qi (vs:=vs) (hx.2 _ cs hi))
  rw[hs,OY,←Ox,show Y.length+(i-Y.length)=i by omega]at this
  rwa [OY]
theorem rp{vs xs:Array Value}{z base off cap:Nat}{L X:List (List SV)}(hL:∀(i:Nat) cs,L[i]?=some cs→cs.length=z)(hc:∀(i:Nat) cs,L[i]?=some cs→aT w F ρ vs (base+i*z) cs)(hx:dA w F ρ xs 0 z X)(hn:xs.size=X.length*z)
 (ho:off≤L.length) (hfit:off+X.length≤cap) (hLc:L.length≤cap) (hsz:base+cap*z≤vs.size) :
 dA w F ρ (kp vs (base+off*z) xs.toList) base z (L.take off++X++L.drop (off+X.length)):=by
 have hm:(off+X.length)*z≤cap*z:=Om z hfit
 rw[Ox]at hm
 have hle:base+off*z+xs.toList.length≤vs.size:=by simp;omega
 have ht:(L.take off).length=off:=by simp;omega
 have key:∀(i:Nat) cs,(L.take off++X++L.drop (off+X.length))[i]?=some cs→(off≤i∧i<off+X.length∧X[i-off]?=some cs)∨((i<off∨off+X.length≤i)∧L[i]?=some cs):=by
  intro i cs hi
  rw[NR,Pa,ht]at hi
  split at hi
  ·rename_i hlt
   rw[Ob,if_pos hlt]at hi
   exact .inr ⟨.inl hlt,hi⟩
  ·rename_i hge
   rw[Pa]at hi
   split at hi
   ·exact .inl ⟨by omega,by omega,hi⟩
   ·rename_i h2
    rw[Ou,show off+X.length+(i-off-X.length)=i by omega]at hi
    exact .inr ⟨.inr (by omega),hi⟩
 refine⟨fun i cs hi=>?_,fun i cs hi=>?_⟩
 ·rcases key i cs hi with⟨_,_,h⟩|⟨_,h⟩
  ·exact hx.1 _ cs h
  ·exact hL i cs h
 ·rcases key i cs hi with⟨h1,h2,h⟩|⟨h1,h⟩
  ·intro j c hj
   have hjl:=(NT.1 hj).1
   rw[hx.1 _ cs h]at hjl
   obtain⟨v,p1,p2⟩:=hx.2 _ cs h j c hj
   refine⟨v,?_,p2⟩
   have hp:=(N8.1 p1).1
   have e1:i*z=off*z+(i-off)*z:=by rw[←Ox];congr 1;omega
   rw[ik hle,if_neg (by omega),if_pos (by simp;omega),QQ]
   rw[show base+i*z+j-(base+off*z)=0+(i-off)*z+j by omega]
   exact p1
  ·refine ki (n:=0) (hc i cs h) hle ?_
   rw[hL i cs h]
   simp only[P0,hn]
   rcases h1 with h1|h1
   ·left
    have:(i+1)*z≤off*z:=Om z h1
    rw[Ox,Pq]at this
    omega
   ·right
    have:(off+X.length)*z≤i*z:=Om z h1
    rw[Ox]at this
    omega
theorem xg{vs:Array Value}{z at_ N:Nat}{X:List (List SV)}(h:dA w F ρ vs at_ z X)(hN:SV.refs.au X.flatten≤N):dA w F (ρ.cut N) vs at_ z X:=by
 refine⟨h.1,fun i cs hi j c hj=>?_⟩
 obtain⟨v,h1,h2,h3⟩:=h.2 i cs hi j c hj
 have hm:c∈X.flatten:=QD.2 ⟨cs,Ok hi,Ok hj⟩
 obtain⟨m,hm⟩:=OD hm
 exact⟨v,h1,h2.cut N (dT hN m c hm),h3⟩
def sI(ρ ρ1:Map)(r:Nat):Prop:=ρ1=ρ∨∃N,r≤N∧ρ1=ρ.cut N
theorem ly{vs:Array Value}{z at_:Nat}{X:List (List SV)}{ρ1:Map}(h:dA w F ρ vs at_ z X)(hN:sI ρ ρ1 (SV.refs.au X.flatten)):dA w F ρ1 vs at_ z X:=by
 rcases hN with rfl|⟨N,hN,rfl⟩
 ·exact h
 ·exact xg h hN
theorem iE{ats:Array TypeId}{el:TypeId}{z:Nat}{i:TypeInfo}{zv:Value}(hT:yV C.P ats el z i zv){ty:TypeId}(hr:HR C ρ F H w){Y X:List (List SV)}{sv xv:Value}{base:Option Addr}{sc:Nat}(hsv:VR w F ρ s sv)(hxv:VR w F ρ c xv)
 (hY:kq z H s=some Y) (hX:kq z H c=some X) (he:sv=.slice base Y.length sc) (hg:¬Y.length+X.length≤sc) (hb:(Y.length+X.length)*i.bytes≤cf) :
 ∃nc w' vs ty',Y.length+X.length≤nc∧(w'.heap=w.heap.push (.cells vs ty')∧w'.os=w.os∧w'.output=w.output)∧nc*z≤vs.size∧(∀ρ1:Map,zm C w F H ρ ρ1 s→sI ρ ρ1 (SV.refs.au X.flatten)→dA w F ρ1 vs 0 z (Y++X))∧
  (Builtin.append_ ats ty #[sv,xv]).run C.P w=.ok (.slice (some ⟨w.heap.size,0,none⟩) (Y.length+X.length) nc) w':=by
 obtain⟨q,mc,cells,rfl,k1,k2,k3⟩:=ja hr hT.xF hxv hX
 obtain⟨q',mc',old,h1,j1,j2,j3⟩:=ja hr hT.xF hsv hY
 subst he
 cases h1
 obtain⟨nc,w',vs,ty',g1,g2,⟨rest,g3,g4⟩,g5⟩:=lr hT (ty:=ty) k1 j1 hg hb
 refine⟨nc,w',vs,ty',g1,g2,?_,?_,g5⟩
 ·rw[g3]
  simp only[Array.size_append,j2,k2,g4]
  rw[←Ox,←Ox]
  exact Om z (by omega)
 ·intro ρ1 h1 h2
  rw[g3];exact qB (j3 ρ1 h1) j2 (ly (k3 ρ (dE hr)) h2)
theorem pE(hr:HR C ρ F H w){b bU z:Nat}{L L':List (List SV)}{ex:Bool}{l:Loc}{refs:Nat}(hb:az H b=some (.arr bU z L ex))(hl:ρ b=some l)(hbr:BR C w F ρ l (.arr bU z L ex))
 (hH:bT H b (.arr (bU+1) z L' false) refs=some H') {w':World} {l':Loc} (hv':l'.bU=bU+1) (ha:l'.arr=true) (hs:w.heap.size≤w'.heap.size) (hh:∀B,B<w.heap.size→(l.aL=false→B≠l.bq)→w'.heap[B]?=w.heap[B]?)
 (hl':l'.aL=false→(l.aL=false∧l'.bq=l.bq)∨(w.heap.size≤l'.bq∧l'.bq<w'.heap.size))
 (hy:∀ρ1:Map,sI ρ ρ1 refs→BR C w F ρ1 l (.arr bU z L ex)→BR C w' F (ρ1.put b l') l' (.arr (bU+1) z L' false)) {off n:Nat} {val:Value} (hone:ig val=true)
 (hval:(l'.aL=true→∃a,val=.slice a 0 0∧off=0∧n=0)∧
  (l'.aL=false→off+n≤l'.cap∧∃a,val=.slice a n (l'.cap-off)∧(off<l'.cap→a=some ⟨l'.bq,l'.base+off*l'.bg,none⟩))) (hout:w'.os=w.os∧w'.output=w.output:=by exact⟨rfl,rfl⟩) :
 cN C ρ F H w (.bG b (bU+1) off n) H' val w':=by
 obtain⟨p1,p2⟩:=hr.set (w':=w') hH hb rfl hl hs hh hl' (.inr ⟨hbr.1,by have:=hbr.2.1;omega⟩) (fun _=>hy ρ (.inl rfl) hbr) (fun _ N hN hbN h=>by
  have:=hy (ρ.cut N) (.inr ⟨N,hN,rfl⟩) h
  have e:(ρ.put b l').cut N=(ρ.cut N).put b l':=by
   funext b'
   unfold Map.cut Map.put
   by_cases e:b'=b
   ·subst e;simp[hbN]
   ·simp[e]
  rw[e];exact this) (hout:=hout)
 exact⟨_,F,.bG (Map.aQ _ _ _) (by omega) hone (fun _=>hval),p1,p2⟩
theorem gf{ats:Array TypeId}{el:TypeId}{z:Nat}{i:TypeInfo}{zv:Value}(hT:yV C.P ats el z i zv){ty:TypeId}(hr:HR C ρ F H w){xv:Value}{base:Option Addr}{sl sc:Nat}(hxv:VR w F ρ c xv)
 (hX:kq z H c=some []) (hg:sl≤sc):(Builtin.append_ ats ty #[.slice base sl sc,xv]).run C.P w=.ok (.slice base sl sc) w:=by
 obtain⟨q,mc,cells,rfl,k1,k2,k3⟩:=ja hr hT.xF hxv hX
 have h0:cells= #[]:=Pn (by simpa using k2)
 subst h0
 have:=run_append_fits hT (ty:=ty) (base:=base) (k1 w rfl) (by simpa using hg) (w':=w) (fun ad _=>rfl) (fun _=>rfl)
 simpa using this
theorem kA{ats:Array TypeId}{el:TypeId}{z:Nat}{i:TypeInfo}{zv:Value}(hT:yV C.P ats el z i zv){ty:TypeId}(hr:HR C ρ F H w){X:List (List SV)}{xv:Value}{b v off n:Nat}{L:List (List SV)}{ex:Bool}{l:Loc}
 (hxv:VR w F ρ c xv) (hX:kq z H c=some X) (hb:az H b=some (.arr v z L ex)) (hl:ρ b=some l) (hbr:BR C w F ρ l (.arr v z L ex)) (hvi:l.aL=false) (hle:off+n≤L.length) (hfit:off+n+X.length≤l.cap) :
 ∃vs' ty' fz,(Builtin.append_ ats ty #[.slice (some ⟨l.bq,l.base+off*z,none⟩) n (l.cap-off),xv]).run C.P w=.ok (.slice (some ⟨l.bq,l.base+off*z,none⟩) (n+X.length) (l.cap-off)) (et w l.bq vs' ty' fz)∧
  iW fz vs'.size∧l.base+l.cap*z≤vs'.size∧(∀ρ1:Map,BR C w F ρ1 l (.arr v z L ex)→sI ρ ρ1 (SV.refs.au X.flatten)→dA (et w l.bq vs' ty' fz) F ρ1 vs' l.base z (L.take (off+n)++X++L.drop (off+n+X.length)))∧(et w l.bq vs' ty' fz).heap[l.bq]?=some (.cells vs' ty' fz):=by
 obtain⟨q,mc,cells,rfl,k1,k2,k3⟩:=ja hr hT.xF hxv hX
 obtain⟨h1,h2,h3,h4,h5,h6,h7,h8⟩:=hbr
 obtain⟨vs,ty',fz,g1,g2,g3,g4⟩:=h8 hvi
 have hm:(off+n+X.length)*z≤l.cap*z:=Om z hfit
 rw[Ox]at hm
 have hsz:(kp vs (l.base+(off+n)*z) cells.toList).size=vs.size:=gQ (by simp;omega)
 have hlt:l.bq<w.heap.size:=(N8.1 g1).1
 have hst:=cS (P:=C.P) l.bq (l.base+(off+n)*z) ty' fz cells.toList 0 vs w g1 g2 (by simp;omega) (fun x hx=>tS (k3 ρ (dE hr)) k2 x hx)
 refine⟨kp vs (l.base+(off+n)*z) cells.toList,ty',fz,?_,by rw[hsz];exact g2,by rw[hsz];exact g3,?_,gr hlt⟩
 ·refine run_append_fits hT (k1 w rfl) (by omega) (fun ad hd=>?_) (fun h=>by cases h)
  cases hd
  rw[cB,show l.base+off*z+n*z=l.base+(off+n)*z by rw[Ox];omega]
  exact hst
 ·intro ρ1 hb1 hc1
  obtain⟨_,_,_,_,_,_,_,q8⟩:=hb1
  obtain⟨vs2,ty2,fz2,m1,m2,m3,m4⟩:=q8 hvi
  rw[g1]at m1;cases m1
  have:=rp (xs:=cells) h4 m4 (ly (k3 ρ (dE hr)) hc1) k2 hle hfit h5 g3
  have hk:cK F w (et w l.bq (kp vs (l.base+(off+n)*z) cells.toList) ty' fz):=im hr hb rfl hl hvi
  exact⟨this.1,fun j cs hj=>(this.2 j cs hj).mono hk (fun _ h=>h) (Map.le_refl _)⟩
theorem tW{ats:Array TypeId}{el:TypeId}{z:Nat}{i:TypeInfo}{zv:Value}(hT:yV C.P ats el z i zv){ty:TypeId}(hr:HR C ρ F H w){X:List (List SV)}{sv xv:Value}(hsv:VR w F ρ s sv)(hxv:VR w F ρ c xv)
 (hX:kq z H c=some X) (h:fy z i.bytes H s X=some (d,H')):∃val w',(Builtin.append_ ats ty #[sv,xv]).run C.P w=.ok val w'∧cN C ρ F H w d H' val w':=by
 have hz:=hT.xF
 unfold fy at h
 split at h
 ·rename_i z0 L f
  replace h:=af h
  obtain⟨hb,h⟩:=h
  replace hb:=PQ hb
  cases hsv with
  |aB V hcap hfull hz' hat h1 hv=>
   rename_i q cap
   split at h
   ·replace h:=af h
    obtain⟨hf,h⟩:=h
    simp only[N1,N3]at h
    obtain⟨rfl,rfl⟩:=h
    have hc0:cap=0:=hfull hf
    subst hc0
    cases X with
    |nil=>
     refine⟨_,w,gf hT hr hxv hX (NV _),?_⟩
     let l:Loc:={bq:=0,base:=0,cap:=0,bg:=z,bU:=0,aL:=true,arr:=true}
     have hp:=hr.push (w':=w) (NV _) (fun _ _=>rfl) (.arr 0 z [] false) l (fun h=>by cases h) ⟨rfl,rfl,rfl,by simp,NV _,(fun h=>by cases h),fun _=>rfl,fun h=>by cases h⟩
     exact⟨_,F,.bG (l:=l) (Map.aQ _ _ _) (NV _) rfl (fun _=>⟨fun _=>⟨q,rfl,rfl,rfl⟩,fun h=>by cases h⟩),hp.1,hp.2⟩
    |cons x X=>
     obtain⟨nc,w',vs,ty',g1,g2,g3,g4,g5⟩:=iE hT (ty:=ty) hr (.aB V hcap hfull hz' hat h1 hv) hxv (Y:=[]) (by simp[kq]) hX rfl (by simp) hb
     refine⟨_,w',g5,?_⟩
     have:=jb hr (ex:=false) (hout:=g2.2) g2.1 (by simpa using g1) (fun h=>by cases h) g3 (g4 ρ (dE hr) (.inl rfl)) (x::X).length (by simp)
     simpa using this
   ·simp only[N1,N3]at h
    obtain⟨rfl,rfl⟩:=h
    exact⟨_,w,gf hT hr hxv hX hcap,cN.same hr (.aB V hcap hfull hz' hat h1 hv)⟩
   ·rename_i hne1 hne2
    replace h:=af h
    obtain⟨hf,h⟩:=h
    simp only[NX,O1]at hf
    obtain⟨hf,rfl⟩:=hf
    simp only[N1,N3]at h
    obtain⟨rfl,rfl⟩:=h
    have hc0:=hfull hf
    have hX0:0<X.length:=by
     cases X with
     |nil=>exact absurd rfl hne2
     |cons _ _=>simp
    obtain⟨nc,w',vs,ty',g1,g2,g3,g4,g5⟩:=iE hT (ty:=ty) hr (.aB V hcap hfull hz' hat h1 hv) hxv (Y:=L) (by simp[kq]) hX rfl (by omega) hb
    refine⟨_,w',g5,?_⟩
    have:=jb hr (ex:=false) (hout:=g2.2) g2.1 (by simpa using g1) (fun h=>by cases h) g3 (g4 ρ (dE hr) (.inl rfl)) (L.length+X.length) (by simp)
    simpa using this
 ·rename_i b v off n
  replace h:=af h
  obtain⟨hb,h⟩:=h
  replace hb:=PQ hb
  split at h
  ·rename_i v' z' L ex hg
   replace h:=af h
   obtain⟨hc,h⟩:=h
   simp only[NX,O1,NY]at hc
   obtain⟨⟨rfl,rfl⟩,hle⟩:=hc
   have hY:kq z' H (.bG b v off n)=some ((L.drop off).take n):=by
    simp[kq,hg,hle]
   have hYl:((L.drop off).take n).length=n:=by simp;omega
   obtain⟨l,z2,L2,ex2,hl,hb2,hbr,g1,g2⟩:=dh hr (by unfold cur;simp[hg]) hsv
   rw[hg]at hb2;cases hb2
   have hbr':=hbr
   obtain⟨b1,b2,b3,b4,b5,b6,b7,b8⟩:=hbr'
   obtain⟨base,sc,hse,hsc⟩:∃base sc,sv=.slice base n sc∧n≤sc:=by
    cases hvi:l.aL with
    |true=>obtain⟨q,p1,p2,p3⟩:=g1 hvi;exact⟨q,0,by rw[p1,p3],by omega⟩
    |false=>obtain⟨p1,q,p2,p3⟩:=g2 hvi;exact⟨q,_,p2,by omega⟩
   cases hi:(!ex&&off==0&&n==L.length)with
   |true=>
    rw[hi]at h
    simp only[NX,O1,Ot]at hi
    obtain⟨⟨he0,rfl⟩,hn⟩:=hi
    simp only[N6,NP,N3]at h
    obtain⟨H1,hH,rfl,rfl⟩:=h
    have hY':(L.drop 0).take n=L:=by rw[hn];simp
    rw[hY']at hY hYl
    have hLX:∀(j:Nat) cs,(L++X)[j]?=some cs→cs.length=z':=fun j cs hj=>by
     rw[Pa]at hj
     obtain⟨q,mc,cells,_,_,_,k3⟩:=ja hr hz hxv hX
     split at hj
     ·exact b4 j cs hj
     ·exact(k3 ρ (dE hr)).1 _ cs hj
    have hle':∀(ρ1:Map) (l':Loc),sI ρ ρ1 (SV.refs.au X.flatten)→l'.bU=v+1→ρ1.le (ρ1.put b l'):=fun ρ1 l' hc hv' b' l1 h1=>by
     have h2:ρ b'=some l1:=by
      rcases hc with rfl|⟨N,_,rfl⟩
      ·exact h1
      ·unfold Map.cut at h1
       split at h1
       ·exact h1
       ·cases h1
     by_cases e:b'=b
     ·subst e;rw[hl]at h2;cases h2;exact⟨_,Map.aQ _ _ _,.inr ⟨b1,by omega⟩⟩
     ·exact⟨l1,by rw[Map.aA _ _ e];exact h1,.inl rfl⟩
    by_cases hX0:X=[]
    ·subst hX0
     subst hse
     refine⟨_,w,gf hT hr hxv hX hsc,?_⟩
     rw[OS]at hH
     refine pE hr hg hl hbr hH (w':=w) (l':={l with bU:=v+1}) rfl b1 (NV _) (fun _ _ _=>rfl) (fun h=>.inl ⟨h,rfl⟩) (fun ρ1 hρ1 hbr1=>⟨b1,rfl,b3,b4,b5,(fun h=>by cases h),b7,fun h=>?_⟩) rfl ⟨fun h=>?_,fun h=>?_⟩
     ·obtain⟨vs,ty',fz,e1,e2,e3,e4⟩:=hbr1.2.2.2.2.2.2.2 h
      exact⟨vs,ty',fz,e1,e2,e3,fun j cs hj=>(e4 j cs hj).mono (fun _ _=>rfl) (fun _ h=>h) (hle' ρ1 _ hρ1 rfl)⟩
     ·obtain⟨q,p1,p2,p3⟩:=g1 h
      exact⟨q,by rw[p1],p2,by simpa using p3⟩
     ·obtain⟨p1,q,p2,p3⟩:=g2 h
      exact⟨by simpa using p1,q,by simpa using p2,by simpa using p3⟩
    ·have hXp:0<X.length:=by
      cases X with
      |nil=>exact absurd rfl hX0
      |cons _ _=>simp
     by_cases hfit:l.aL=false∧n+X.length≤l.cap
     ·obtain⟨hvi,hfit⟩:=hfit
      obtain⟨p1,q,p2,p3⟩:=g2 hvi
      have:=p3 (by omega)
      subst this
      rw[p2,b3]
      obtain⟨vs',ty',fz,e1,e2,e3,e4,e5⟩:=kA hT (ty:=ty) hr hxv hX hg hl hbr hvi hle (by omega)
      refine⟨_,_,e1,?_⟩
      have hc:L.take (0+n)++X++L.drop (0+n+X.length)=L++X:=by
       rw[OY,hn,PL,Qg (by omega),OS]
      refine pE hr hg hl hbr hH (l':={l with bU:=v+1}) rfl b1 (by rw[o8];exact NV _) (fun B _ hB=>fE (hB hvi)) (fun h=>.inl ⟨h,rfl⟩) (fun ρ1 hρ1 hbr1=>⟨b1,rfl,b3,hLX,by simp;omega,(fun h=>by cases h),b7,fun h=>?_⟩) rfl ⟨fun h=>?_,fun h=>?_⟩
      ·have e6:=e4 ρ1 hbr1 hρ1
       rw[hc]at e6
       exact⟨vs',ty',fz,e5,e2,e3,fun j cs hj=>(e6.2 j cs hj).mono (fun _ _=>rfl) (fun _ h=>h) (hle' ρ1 _ hρ1 rfl)⟩
      ·simp[hvi]at h
      ·exact⟨by simpa using hfit,_,rfl,fun _=>by simp[b3]⟩
     ·have hg':¬L.length+X.length≤sc:=by
       cases hvi:l.aL with
       |true=>obtain⟨q,p1,p2,p3⟩:=g1 hvi;rw[p1]at hse;cases hse;omega
       |false=>obtain⟨p1,q,p2,p3⟩:=g2 hvi;rw[p2]at hse;cases hse;have:¬n+X.length≤l.cap:=fun h=>hfit ⟨hvi,h⟩;omega
      obtain⟨nc,w',vs,ty',e1,e2,e3,e4,e5⟩:=iE hT (ty:=ty) hr hsv hxv hY hX (by rw[hse,hn]) hg' (by rw[←hn];exact hb)
      refine⟨_,w',e5,?_⟩
      have hkeep:∀B,B<w.heap.size→w'.heap[B]?=w.heap[B]?:=fun B hB=>by
       rw[e2.1];simp[Pp,PB hB]
      rw[hn]
      refine pE hr hg hl hbr hH (hout:=e2.2) (l':={bq:=w.heap.size,base:=0,cap:=nc,bg:=z',bU:=v+1,aL:=false,arr:=true}) rfl rfl (by rw[e2.1];simp) (fun B hB _=>hkeep B hB) (fun _=>.inr ⟨NV _,by rw[e2.1];simp⟩)
       (fun ρ1 hρ1 hbr1=>⟨rfl,rfl,rfl,hLX,by simpa using e1,(fun h=>by cases h),(fun h=>by cases h),fun _=>?_⟩) rfl ⟨fun h=>(by cases h),fun _=>⟨by simpa using e1,_,rfl,fun _=>by simp⟩⟩
      have e6:=e4 ρ1 (fun b' _ _ _ l2 x hs h1 h2 _=>by cases hs;rw[hl]at h1;cases h1;rw[hg]at h2;cases h2;exact hbr1) hρ1
      exact⟨vs,ty',(0,0),by rw[e2.1];simp,fun o ho=>by simp,by simpa using e3,fun j cs hj=>(e6.2 j cs hj).mono (fun B hB=>hkeep B (hr.fO B hB)) (fun _ h=>h) (hle' ρ1 _ hρ1 rfl)⟩
   |false=>
    rw[hi]at h
    simp only[Oa]at h
    cases hfit:decide (off+n+X.length≤L.length)with
    |true=>
     rw[hfit]at h
     replace hfit:=PQ hfit
     simp only[N6,NP,N3]at h
     obtain⟨H1,hH,rfl,rfl⟩:=h
     by_cases hX0:X=[]
     ·subst hX0
      subst hse
      refine⟨_,w,gf hT hr hxv hX hsc,?_⟩
      rw[OS,Oc,Ph,QS]at hH
      obtain⟨p1,p2⟩:=hr.set (w':=w) (l':=l) hH hg rfl hl (NV _) (fun _ _ _=>rfl) (fun h=>.inl ⟨h,rfl⟩) (.inl rfl) (fun _=>by rw[ba hl];exact hbr) (fun _ N _ _ h=>by rw[ba hl];exact h)
      rw[ba hl]at p1 p2
      exact⟨ρ,F,hsv,p1,p2⟩
     ·have hXp:0<X.length:=by
       cases X with
       |nil=>exact absurd rfl hX0
       |cons _ _=>simp
      have hvi:l.aL=false:=by
       cases hvi:l.aL with
       |true=>have:=b7 hvi;omega
       |false=>rfl
      obtain⟨p1,q,p2,p3⟩:=g2 hvi
      have:=p3 (by omega)
      subst this
      rw[p2,b3]
      obtain⟨vs',ty',fz,e1,e2,e3,e4,e5⟩:=kA hT (ty:=ty) hr hxv hX hg hl hbr hvi hle (by omega)
      refine⟨_,_,e1,?_⟩
      have hlen:(L.take (off+n)++X++L.drop (off+n+X.length)).length=L.length:=by simp;omega
      obtain⟨r1,r2⟩:=jz (vs':=vs') (ty:=ty') (fz:=fz) hr hH hg rfl hl hvi (fun _ ρ1 hρ1 hbr1=>⟨b1,b2,b3,(e4 ρ1 hbr1 hρ1).1,by rw[hlen];exact b5,by rw[hlen];exact b6,b7,fun _=>⟨vs',ty',fz,e5,e2,e3,(e4 ρ1 hbr1 hρ1).2⟩⟩)
      exact⟨ρ,F,.bG hl (by omega) rfl (fun _=>⟨fun h=>(by rw[hvi]at h;cases h),fun _=>⟨by omega,_,rfl,fun _=>by rw[b3]⟩⟩),r1,r2⟩
    |false=>
     rw[hfit]at h
     replace hfit:=Re hfit
     simp only[Oa]at h
     replace h:=af h
     obtain⟨hex,h⟩:=h
     simp only[N1,N3]at h
     obtain⟨rfl,rfl⟩:=h
     have hcap:=b6 hex
     have hg':¬((L.drop off).take n).length+X.length≤sc:=by
      rw[hYl]
      cases hvi:l.aL with
      |true=>obtain⟨q,p1,p2,p3⟩:=g1 hvi;rw[p1]at hse;cases hse;have:=b7 hvi;omega
      |false=>obtain⟨p1,q,p2,p3⟩:=g2 hvi;rw[p2]at hse;cases hse;omega
     obtain⟨nc,w',vs,ty',e1,e2,e3,e4,e5⟩:=iE hT (ty:=ty) hr hsv hxv hY hX (by rw[hse,hYl]) hg' (by rw[hYl];exact hb)
     refine⟨_,w',e5,?_⟩
     rw[hYl]
     exact jb hr (ex:=false) (hout:=e2.2) e2.1 (by simpa using e1) (fun h=>by cases h) e3 (e4 ρ (dE hr) (.inl rfl)) _ (by rw[NO,hYl];exact NV _)
  ·cases h
 ·cases h
end
end
section
section
variable{C:Ctx}{ρ:Map}{F:Nat→Prop}{H H':ae}{w:World}{e:Env}{a:Act}{s c d:SV}
theorem wrap_small{n:Int}(h0:0≤n)(h1:n≤cf):IntKind.i64.wrap n=n:=by
 have:cf=1099511627776:=rfl
 rw[IntKind.wrap_i64];omega
theorem rR{t el:TypeId}{i:TypeInfo}{z:List SV}(hu:C.P.underlying t=some (.slice el))(hi:C.P.info? el=some i)(hz:fw C.P el=some z)(hzl:z.length=i.size)(h0:0<i.size)(hbp:0<i.bytes)(hr:HR C ρ F H w)
 {lv cv:Value} {ls cs:SV} (hl:VR w F ρ ls lv) (hc:VR w F ρ cs cv) (h:nm i.size z i.bytes H ls cs=some (d,H')):∃val w',(Instr.makeSlice t lv cv).run C.P w=.ok val w'∧cN C ρ F H w d H' val w':=by
 unfold nm at h
 split at h
 ·rename_i l c
  replace h:=af h
  obtain⟨hb,h⟩:=h
  simp only[NX,NY]at hb
  obtain⟨⟨h1,h2⟩,h3⟩:=hb
  simp only[N1,N3]at h
  obtain⟨rfl,rfl⟩:=h
  obtain rfl:=eX hl
  obtain rfl:=eX hc
  obtain⟨i',v,hi',hv,k1,k2⟩:=fe (w:=w) (F:=F) (ρ:=ρ) hz
  rw[hi]at hi';cases hi'
  have hzr:(bZ v.cells (c.toNat*i.size)).size=c.toNat*i.size:=by simp[bZ]
  have hrow:=ib (n:=c.toNat) hzl k1 k2 h0
  refine⟨.slice (some ⟨w.heap.size,0,none⟩) l.toNat c.toNat,{w with heap:=w.heap.push (.cells (bZ v.cells (c.toNat*i.size)) el)},?_,jb hr rfl (by simp) (fun _=>by simp) (by rw[hzr];exact NV _) hrow l.toNat (by simp;omega)⟩
  have hm:c≤c*i.bytes:=by
   have:c*1≤c*i.bytes:=Int.mul_le_mul_of_nonneg_left (by omega) (by omega)
   omega
  have hml:(cf:Int)=1099511627776:=rfl
  have wl:IntKind.i64.wrap l=l:=wrap_small h1 (by omega)
  have wc:IntKind.i64.wrap c=c:=wrap_small (by omega) (by omega)
  have n1:¬c<0:=by omega
  have n2:¬(281474976710656<(i.bytes:Int)*c):=by rw[Int.mul_comm];omega
  have n3:¬l<0:=by omega
  have n4:¬c<l:=by omega
  by_cases hn:c.toNat*i.size=0
  ·have hzz:(Array.range (c.toNat*i.size)).map (fun x=>(#[]:Array Value)[x%(#[]:Array Value).size]!)=bZ v.cells (c.toNat*i.size):=by
    unfold bZ;rw[hn];simp
   have hask:∀w:World,(askRoom (c.toNat*i.bytes)).run C.P w=.ok () w:=fun w=>by unfold askRoom;split<;>rfl
   unfold Instr.makeSlice
   simp only[Sem.run_bind,run_underlying hu,Result.andThen,run_typeInfo _ hi,asInt,asIntOf,pure,Sem.run,wl,wc,hask]
   simp[n1,n2,n3,n4,hask,sizeOf,typeInfo,hi,newRow,hn]
   have hr0:Array.range 0= #[]:=Pn (by simp)
   simp[bZ,hr0]
  ·have hask:∀w:World,(askRoom (c.toNat*i.bytes)).run C.P w=.ok () w:=fun w=>by unfold askRoom;split<;>rfl
   unfold Instr.makeSlice
   simp only[Sem.run_bind,run_underlying hu,Result.andThen,run_typeInfo _ hi,asInt,asIntOf,pure,Sem.run,wl,wc,hask]
   simp[n1,n2,n3,n4,hask,sizeOf,typeInfo,hi,newRow,hn,zeroValue,hv,bZ]
 ·cases h
end
end
section
section
variable{C:Ctx}{ρ:Map}{F:Nat→Prop}{H H':ae}{w:World}{e:Env}{a:Act}{s c d:SV}
theorem fW:∀(sh:List LK) (x y:List SV) (r:Bool),aK sh x y=some r→x.length=sh.length∧y.length=sh.length
 |[],x,y,r,h=>by
  unfold aK at h
  split at h<;>first|(simp;done)|(simp_all;done)
 |k::sh,x,y,r,h=>by
  unfold aK at h
  split at h
  ·rename_i h1;cases h1
  ·rename_i sh' k1 p1 x' k2 p2 y' h1
   cases h1
   replace h:=af h
   simp only[NP]at h
   obtain⟨_,r',h2,_⟩:=h
   have:=fW sh x' y' r' h2
   simp[this]
  ·rename_i sh' p1 x' p2 y' h1
   cases h1
   simp only[NP]at h
   obtain⟨r',h2,_⟩:=h
   have:=fW sh x' y' r' h2
   simp[this]
  ·rename_i sh' p1 x' p2 y' h1
   cases h1
   simp only[NP]at h
   obtain⟨r',h2,_⟩:=h
   have:=fW sh x' y' r' h2
   simp[this]
  ·cases h
theorem jc{k:LK}{c d:SV}{r:Bool}(h:aK [k] [c] [d]=some r):(∃q p p',k=.i∧c=.int q p∧d=.int q p'∧r=decide (p=p'))∨(∃p p',k=.b∧c=.bool p∧d=.bool p'∧r=(p==p'))∨
 (∃p p',k=.s∧c=.str p∧d=.str p'∧r=decide (p=p')):=by
 unfold aK at h
 split at h
 ·simp_all
 ·rename_i sh q p x q2 p2 y h1 h2 h3
  cases h1;cases h2;cases h3
  replace h:=af h
  simp only[NP]at h
  obtain⟨hk,r',h3,rfl⟩:=h
  have:r'=true:=by simpa[aK]using h3.symm
  subst this
  have:q=q2:=by simpa using hk
  subst this
  exact .inl ⟨_,_,_,rfl,rfl,rfl,by simp⟩
 ·rename_i sh p x p2 y h1 h2 h3
  cases h1;cases h2;cases h3
  simp only[NP]at h
  obtain⟨r',h3,rfl⟩:=h
  have:r'=true:=by simpa[aK]using h3.symm
  subst this
  exact .inr (.inl ⟨_,_,rfl,rfl,rfl,by simp⟩)
 ·rename_i sh p x p2 y h1 h2 h3
  cases h1;cases h2;cases h3
  simp only[NP]at h
  obtain⟨r',h3,rfl⟩:=h
  have:r'=true:=by simpa[aK]using h3.symm
  subst this
  exact .inr (.inr ⟨_,_,rfl,rfl,rfl,by simp⟩)
 ·cases h
theorem u0{A:Type}{c:Bool}{x:Option A}{y:A}(h:(bif c then none else x)=some y):c=false∧x=some y:=by
 cases c with
 |true=>cases h
 |false=>exact⟨rfl,h⟩
theorem dx:∀(s1 s2:List LK) (x y:List SV) (r:Bool),aK (s1++s2) x y=some r→
 ∃r1 r2,aK s1 (x.take s1.length) (y.take s1.length)=some r1∧aK s2 (x.drop s1.length) (y.drop s1.length)=some r2∧r=(r1&&r2)
 |[],s2,x,y,r,h=>⟨true,r,by simp[aK],by simpa using h,by simp⟩
 |k::s1,s2,x,y,r,h=>by
  simp only[Oy]at h
  unfold aK at h
  split at h
  ·rename_i h1;cases h1
  ·rename_i sh' k1 p1 x' k2 p2 y' h1
   cases h1
   replace h:=af h
   simp only[NP]at h
   obtain⟨hk,r',h2,rfl⟩:=h
   obtain⟨r1,r2,h3,h4,rfl⟩:=dx s1 s2 x' y' r' h2
   exact⟨decide (p1=p2)&&r1,r2,by simp[aK,hk,h3],by simpa using h4,by simp[Rp]⟩
  ·rename_i sh' p1 x' p2 y' h1
   cases h1
   simp only[NP]at h
   obtain⟨r',h2,rfl⟩:=h
   obtain⟨r1,r2,h3,h4,rfl⟩:=dx s1 s2 x' y' r' h2
   exact⟨(p1==p2)&&r1,r2,by simp[aK,h3],by simpa using h4,by simp[Rp]⟩
  ·rename_i sh' p1 x' p2 y' h1
   cases h1
   simp only[NP]at h
   obtain⟨r',h2,rfl⟩:=h
   obtain⟨r1,r2,h3,h4,rfl⟩:=dx s1 s2 x' y' r' h2
   exact⟨decide (p1=p2)&&r1,r2,by simp[aK,h3],by simpa using h4,by simp[Rp]⟩
  ·cases h
def zz(P:Program)(w:World)(F:Nat→Prop)(ρ:Map)(dd:Nat)(t:TypeId)(sh:List LK):Prop:=
 ∀(xs ys:Array Value) (cs ds:List SV) (r:Bool) (o:Nat),aT w F ρ xs o cs→aT w F ρ ys o ds→aK sh cs ds=some r→eO P t=some sh.length→
  ∃u v,(part t xs o).run P w=.ok u w∧(part t ys o).run P w=.ok v w∧(Op.equalIn dd t u v).run P w=.ok r w
theorem jy{vs:Array Value}{o i n:Nat}{cs:List SV}(h:aT w F ρ vs o cs):aT w F ρ vs (o+i) ((cs.drop i).take n):=by
 intro j c hj
 rw[Ob]at hj
 split at hj
 ·rw[Ou]at hj
  obtain⟨v,h1,h2,h3⟩:=h _ c hj
  exact⟨v,by rw[N9];exact h1,h2,h3⟩
 ·cases hj
theorem jN{vs:Array Value}{o n:Nat}{cs:List SV}(h:aT w F ρ vs o cs)(hn:cs.length≤n):aT w F ρ (vs.extract o (o+n)) 0 cs:=by
 intro j c hj
 obtain⟨v,h1,h2,h3⟩:=h j c hj
 have hlt:=(NT.1 hj).1
 have hlt':=(N8.1 h1).1
 refine⟨v,?_,h2,h3⟩
 rw[OY,Qf,if_pos (by omega)]
 exact h1
theorem sB{P:Program}{t:TypeId}{k k2:IntKind}{p q:Int}{dd:Nat}{q0:IntKind}(hu:P.underlying t=some (.int q0))(hk:k=k2):(Op.equalIn (dd+1) t (.int k p) (.int k2 q)).run P w=.ok (decide (p=q)) w:=by
 subst hk
 simp only[Op.equalIn,Sem.run_bind,run_underlying hu,Result.andThen_ok]
 simp only[if_true,Sem.run_pure]
 congr 1
theorem oN{P:Program}{t:TypeId}{vs:Array Value}{o:Nat}{v:Value}(hag:gZ P t=some false)(h:vs[o]?=some v):(part t vs o).run P w=.ok v w:=by
 unfold part
 simp only[Sem.run_bind,dZ hag,Result.andThen,Pc,if_false,h]
 rfl
theorem qz{P:Program}{t:TypeId}{vs:Array Value}{o n:Nat}(hag:gZ P t=some true)(hsz:eO P t=some n):(part t vs o).run P w=.ok (.agg (vs.extract o (o+n))) w:=by
 unfold part
 simp only[Sem.run_bind,dZ hag,Result.andThen,if_true,aY hsz]
 rfl
def wC(P:Program)(dd:Nat)(acc:List LK)(f:Field):Option (List LK):=
 bif f.name != "_" &&f.offset==acc.length then(dK P dd f.type).bind fun sh=>bif (eO P f.type)==some sh.length then some (acc++sh)else none else none
theorem ij{P:Program}{dd d2:Nat}(ih:∀t sh,dK P dd t=some sh→zz P w F ρ d2 t sh):∀(fs:List Field) (acc sh:List LK) (xs ys:Array Value) (cs ds:List SV) (r:Bool),
 fs.foldlM (wC P dd) acc=some sh→∃rest,sh=acc++rest∧
 (aT w F ρ xs acc.length cs→aT w F ρ ys acc.length ds→aK rest cs ds=some r→(Op.eqFields d2 xs ys fs).run P w=.ok r w)
 |[],acc,sh,xs,ys,cs,ds,r,h=>by
  simp at h
  subst h
  refine⟨[],by simp,fun hx hy hr=>?_⟩
  have:r=true:=by
   unfold aK at hr
   split at hr<;>simp_all
  subst this
  rfl
 |f::fs,acc,sh,xs,ys,cs,ds,r,h=>by
  rw[Ri]at h
  simp only[bind,NS]at h
  obtain⟨acc',h1,h2⟩:=h
  unfold wC at h1
  replace h1:=af h1
  obtain⟨hc,h1⟩:=h1
  simp only[NX,bne_iff_ne,O1]at hc
  simp only[NS]at h1
  obtain⟨shf,h3,h1⟩:=h1
  replace h1:=af h1
  obtain⟨h4,h1⟩:=h1
  cases h1
  have h4:eO P f.type=some shf.length:=by simpa using h4
  obtain⟨rest,hrest,_⟩:=ij ih fs (acc++shf) sh xs ys [] [] true h2
  refine⟨shf++rest,by rw[hrest];simp,fun hx hy hr=>?_⟩
  obtain⟨r1,r2,k1,k2,rfl⟩:=dx _ _ _ _ _ hr
  have hx1:=jy (i:=0) (n:=shf.length) hx
  have hy1:=jy (i:=0) (n:=shf.length) hy
  simp only[Ph,P8]at hx1 hy1
  obtain⟨u,v,g1,g2,g3⟩:=ih f.type shf h3 xs ys _ _ r1 acc.length hx1 hy1 k1 h4
  obtain⟨rest',hrest',hrec⟩:=ij ih fs (acc++shf) sh xs ys (cs.drop shf.length) (ds.drop shf.length) r2 h2
  have:rest'=rest:=List.append_cancel_left (hrest'.symm.trans hrest)
  subst this
  have hx2:aT w F ρ xs (acc++shf).length (cs.drop shf.length):=by
   intro j c hj
   rw[Ou]at hj
   obtain⟨v,q1,q2,q3⟩:=hx _ c hj
   exact⟨v,by rw[NO,N9];exact q1,q2,q3⟩
  have hy2:aT w F ρ ys (acc++shf).length (ds.drop shf.length):=by
   intro j c hj
   rw[Ou]at hj
   obtain⟨v,q1,q2,q3⟩:=hy _ c hj
   exact⟨v,by rw[NO,N9];exact q1,q2,q3⟩
  have:=hrec hx2 hy2 k2
  simp only[Op.eqFields,ne_eq,hc.1,not_false_eq_true,if_true,Sem.run_bind,hc.2,g1,g2,g3,Result.andThen_ok]
  cases r1 with
  |true=>simpa using this
  |false=>simp
theorem mm{P:Program}{d2:Nat}{t:TypeId}{sh:List LK}(ih:zz P w F ρ d2 t sh)(hsz:eO P t=some sh.length):∀(n i:Nat) (xs ys:Array Value) (cs ds:List SV) (r:Bool),
 aT w F ρ xs (i*sh.length) cs→aT w F ρ ys (i*sh.length) ds→aK (List.replicate n sh).flatten cs ds=some r→(Op.eqItems d2 t sh.length xs ys (List.range' i n)).run P w=.ok r w
 |0,i,xs,ys,cs,ds,r,hx,hy,hr=>by
  have:r=true:=by
   simp only[PE,List.flatten_nil]at hr
   unfold aK at hr
   split at hr<;>simp_all
  subst this
  rfl
 |n+1,i,xs,ys,cs,ds,r,hx,hy,hr=>by
  rw[P2,Qx]at hr
  obtain⟨r1,r2,k1,k2,rfl⟩:=dx _ _ _ _ _ hr
  have hx1:=jy (i:=0) (n:=sh.length) hx
  have hy1:=jy (i:=0) (n:=sh.length) hy
  simp only[Ph,P8]at hx1 hy1
  obtain⟨u,v,g1,g2,g3⟩:=ih xs ys _ _ r1 _ hx1 hy1 k1 hsz
  have hx2:aT w F ρ xs ((i+1)*sh.length) (cs.drop sh.length):=by
   intro j c hj
   rw[Ou]at hj
   obtain⟨v,q1,q2,q3⟩:=hx _ c hj
   exact⟨v,by rw[Ox,Pq,N9];exact q1,q2,q3⟩
  have hy2:aT w F ρ ys ((i+1)*sh.length) (ds.drop sh.length):=by
   intro j c hj
   rw[Ou]at hj
   obtain⟨v,q1,q2,q3⟩:=hy _ c hj
   exact⟨v,by rw[Ox,Pq,N9];exact q1,q2,q3⟩
  have:=mm ih hsz n (i+1) xs ys _ _ r2 hx2 hy2 k2
  simp only[List.range'_succ,Op.eqItems,Sem.run_bind,g1,g2,g3,Result.andThen_ok]
  cases r1 with
  |true=>simpa using this
  |false=>simp
theorem oL{P:Program}{dd D:Nat}{t:TypeId}{sh:List LK}(ih:∀t sh,dK P dd t=some sh→zz P w F ρ (D+dd) t sh)(h:dK P (dd+1) t=some sh)(hag:gZ P t=some true){xs ys:Array Value}{cs ds:List SV}{r:Bool}
 (hx:aT w F ρ xs 0 cs) (hy:aT w F ρ ys 0 ds) (hr:aK sh cs ds=some r):(Op.equalIn (D+dd+1) t (.agg xs) (.agg ys)).run P w=.ok r w:=by
 unfold dK at h
 split at h
 ·rename_i hu;simp[gZ,hu]at hag
 ·rename_i hu;simp[gZ,hu]at hag
 ·rename_i hu;simp[gZ,hu]at hag
 ·rename_i fs hu
  replace h:=u0 h
  obtain⟨hs,h⟩:=h
  have hf:P.fieldsOf t=fs:=by simp[Program.fieldsOf,hu]
  rw[run_equalIn_struct w (D+dd) t xs ys (by rw[hf];exact hu) hs,hf]
  obtain⟨rest,h1,h2⟩:=ij ih fs.toList [] sh xs ys cs ds r h
  simp only[PR]at h1
  subst h1
  exact h2 hx hy hr
 ·rename_i n e hu
  simp only[NS]at h
  obtain⟨she,h1,h⟩:=h
  replace h:=af h
  obtain⟨h2,h⟩:=h
  cases h
  have h2:eO P e=some she.length:=by simpa using h2
  have h3:=h2
  unfold eO at h3
  simp only[NP]at h3
  obtain⟨i,hi,hi2⟩:=h3
  have hcells:P.cellsOf e=she.length:=by simp[Program.cellsOf,hi,hi2]
  rw[run_equalIn_array w (D+dd) xs ys hu hi,hcells,QZ]
  exact mm (ih e she h1) h2 n 0 xs ys cs ds r (by simpa using hx) (by simpa using hy) hr
 ·cases h
theorem Ei{P:Program}:∀(dd:Nat) (D:Nat) (t:TypeId) (sh:List LK),dK P dd t=some sh→zz P w F ρ (D+dd) t sh
 |0,_,_,_,h=>by simp[dK]at h
 |dd+1,D,t,sh,h=>by
  intro xs ys cs ds r o hx hy hr hsz
  have hlen:=fW sh cs ds r hr
  have leaf:gZ P t=some false→∀k,sh=[k]→(∀u v,∀c d,VR w F ρ c u→VR w F ρ d v→aK [k] [c] [d]=some r→(Op.equalIn (D+dd+1) t u v).run P w=.ok r w)→
   ∃u v,(part t xs o).run P w=.ok u w∧(part t ys o).run P w=.ok v w∧(Op.equalIn (D+dd+1) t u v).run P w=.ok r w:=by
   intro hag k hk hgo
   subst hk
   obtain⟨c,rfl⟩:∃c,cs=[c]:=Qh.1 hlen.1
   obtain⟨d,rfl⟩:∃d,ds=[d]:=Qh.1 hlen.2
   obtain⟨u,u1,u2,_⟩:=hx 0 c rfl
   obtain⟨v,v1,v2,_⟩:=hy 0 d rfl
   exact⟨u,v,oN hag u1,oN hag v1,hgo u v c d u2 v2 hr⟩
  have agg:gZ P t=some true→∃u v,(part t xs o).run P w=.ok u w∧(part t ys o).run P w=.ok v w∧(Op.equalIn (D+dd+1) t u v).run P w=.ok r w:=fun hag=>
   ⟨_,_,qz hag hsz,qz hag hsz,oL (fun t sh h=>Ei dd D t sh h) h hag (jN hx (by omega)) (jN hy (by omega)) hr⟩
  rw[←N9]
  unfold dK at h
  split at h
  ·rename_i hu
   refine leaf (by simp[gZ,hu]) .b (by simpa using h.symm) (fun u v c d hu1 hv1 hr1=>?_)
   rcases jc hr1 with⟨_,_,_,h0,_⟩|⟨p,p',_,rfl,rfl,rfl⟩|⟨_,_,h0,_⟩
   ·cases h0
   ·rw[dC hu1,dC hv1,run_equalIn_bool w _ t _ _ hu]
   ·cases h0
  ·rename_i q hu
   refine leaf (by simp[gZ,hu]) .i (by simpa using h.symm) (fun u v c d hu1 hv1 hr1=>?_)
   rcases jc hr1 with⟨q,p,p',_,rfl,rfl,rfl⟩|⟨_,_,h0,_⟩|⟨_,_,h0,_⟩
   ·rw[eX hu1,eX hv1,sB hu rfl]
   ·cases h0
   ·cases h0
  ·rename_i hu
   refine leaf (by simp[gZ,hu]) .s (by simpa using h.symm) (fun u v c d hu1 hv1 hr1=>?_)
   rcases jc hr1 with⟨_,_,_,h0,_⟩|⟨_,_,h0,_⟩|⟨p,p',_,rfl,rfl,rfl⟩
   ·cases h0
   ·cases h0
   ·rw[iC hu1,iC hv1,run_equalIn_string w _ t _ _ hu,nq]
  ·rename_i fs hu;exact agg (by simp[gZ,hu])
  ·rename_i n el hu;exact agg (by simp[gZ,hu])
  ·cases h
theorem wQ{op:BinOp}{neg:Bool}{t:TypeId}{x y:Operand}{x' y':bj}{sh:List LK}{cs ds:List SV}{r:Bool}(c0:(op=.eql∧neg=false)∨(op=.neq∧neg=true))(hx:aG x=some x')(hy:aG y=some y')
 (hm:C.P.eqGuardType C.P.depth t=false) (hsh:dK C.P 6 t=some sh) (hag:gZ C.P t=some true) (hr:HR C ρ F H w) (he:ER w F ρ e a.tmps) (h1:ev e x'=.agg cs) (h2:ev e y'=.agg ds) (h:aK sh cs ds=some r) :
 aJ C (do let v←(do eqGuard op t x y (a.eval x) (a.eval y);binOp op t (a.eval x) (a.eval y));pure (.value v)) ρ F H w (.bool (neg ^^ r)) H:=by
 have v1:=ar hx he
 have v2:=ar hy he
 rw[h1]at v1
 rw[h2]at v2
 obtain⟨xs,e1,_,c1⟩:=eG v1
 obtain⟨ys,e2,_,c2⟩:=eG v2
 rw[e1,e2]
 have hq:=oL (dd:=5) (D:=9994) (fun t sh h=>Ei 5 9994 t sh h) hsh hag c1 c2 h
 have hE:(Op.equal t (.agg xs) (.agg ys)).run C.P w=.ok r w:=hq
 refine⟨.bool (neg ^^ r),w,.inl ?_,cN.same hr (.bool _)⟩
 simp only[Sem.run_bind,run_eqGuard_agg w op t x y xs ys hm,Result.andThen_ok]
 rcases c0 with⟨rfl,rfl⟩|⟨rfl,rfl⟩
 ·simp[binOp,hE]
 ·simp[binOp,hE]
end
end
end Go.Sh
