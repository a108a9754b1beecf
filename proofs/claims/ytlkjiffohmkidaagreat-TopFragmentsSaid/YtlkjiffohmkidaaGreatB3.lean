/- A part of the proof: texts ShRb, ShRc, ShRd, ShRf, ShS, ShT, ShTa. -/
import Derived.MapKept
import Derived.Test.YtlkjiffohmkidaaGreatB2
namespace Go.Sh
set_option linter.unusedSectionVars false
set_option linter.unnecessarySimpa false
set_option linter.unusedSimpArgs false
set_option linter.unusedVariables false
set_option maxRecDepth 100000
set_option maxHeartbeats 4000000
section
section
variable{C:Ctx}{ρ:Map}{F:Nat→Prop}{H H':ae}{w:World}{e:Env}{a:Act}{s c d:SV}
theorem pa(z m:Nat)(q:Option Addr)(n cap n' cap':Nat):Builtin.firstCells z m (.slice q n cap)=Builtin.firstCells z m (.slice q n' cap'):=by
 cases q<;>rfl
theorem wK(hr:HR C ρ F H w){z:Nat}(hz:0<z){X:List (List SV)}{v:Value}(hv:VR w F ρ c v)(h:kq z H c=some X){m:Nat}(hm:m≤X.length) :
 ∃q cap cells,v=.slice q X.length cap∧(Builtin.firstCells z m v).run C.P w=.ok cells w∧cells.size=m*z∧∀ρ1:Map,zm C w F H ρ ρ1 c→dA w F ρ1 cells 0 z (X.take m):=by
 have hml:(X.take m).length=m:=by simp;omega
 unfold kq at h
 split at h
 ·rename_i z' L f
  have h0:=af h
  obtain⟨hc,h1⟩:=h0
  have h':L=X:=PZ h1
  subst h'
  cases hv with
  |aB V hcap hfull hz' hat h1 hv=>
   rename_i q cap
   have hv2:VR w F ρ (.aB z' (L.take m) false) (.slice q (L.take m).length cap):=by
    refine .aB V (by omega) (fun h=>by cases h) (fun i cs hi=>hz' i cs ?_) ?_ (fun i j cs c hi hj=>h1 i j cs c ?_ hj) (fun i j cs c hi hj=>hv i j cs c ?_ hj)
    ·rw[Ob]at hi;split at hi
     ·exact hi
     ·cases hi
    ·rcases hat with h0|⟨B,o,ha,hF,hk⟩
     ·left;rw[h0];simp
     ·exact .inr ⟨B,o,ha,hF,fun i j cs c hi hj=>hk i j cs c (by
       rw[Ob]at hi;split at hi
       ·exact hi
       ·cases hi) hj⟩
    ·rw[Ob]at hi;split at hi
     ·exact hi
     ·cases hi
    ·rw[Ob]at hi;split at hi
     ·exact hi
     ·cases hi
   have hrd:kq z H (.aB z' (L.take m) false)=some (L.take m):=by
    unfold kq
    simp only[O3,O1]at hc
    rcases hc with hc|hc
    ·subst hc;simp
    ·have:L=[]:=by simpa using hc
     subst this;simp
   obtain⟨q',cap',cells,k0,k1,k2,k3⟩:=ja hr hz hv2 hrd
   rw[hml]at k1 k2
   refine⟨q,cap,cells,rfl,?_,k2,fun ρ1 _=>k3 ρ1 (fun b bU off n l x hh=>by cases hh)⟩
   rw[pa z m q L.length cap m cap]
   exact k1 w rfl
 ·rename_i b bU off n
  split at h
  ·rename_i ver' z' L ex hb
   have h0:=af h
   obtain⟨hc,h1⟩:=h0
   simp only[NX,O1,NY]at hc
   obtain⟨⟨rfl,rfl⟩,hle⟩:=hc
   have hX:(L.drop off).take n=X:=PZ h1
   have hXl:X.length=n:=by rw[←hX];simp;omega
   obtain⟨l,z2,L2,ex2,hl,hb2,hbr,g1,g2⟩:=dh hr (by unfold cur;simp[hb]) hv
   rw[hb]at hb2;cases hb2
   obtain⟨q,cap,hve⟩:∃q cap,v=.slice q n cap:=by
    cases hvi:l.aL with
    |true=>obtain⟨q,p1,p2,p3⟩:=g1 hvi;exact⟨q,0,by rw[p1,p3]⟩
    |false=>obtain⟨p1,q,p2,p3⟩:=g2 hvi;exact⟨q,_,p2⟩
   have hv2:VR w F ρ (.bG b bU off m) (.slice q m cap):=by
    refine .bG hl (PF hbr.2.1.symm) rfl (fun _=>⟨fun hvi=>?_,fun hvi=>?_⟩)
    ·obtain⟨q',p1,p2,p3⟩:=g1 hvi
     rw[p1]at hve
     have hm0:m=0:=by omega
     injection hve with e1 e2 e3
     rw[hm0,←e1,←e3]
     exact⟨q',rfl,p2,rfl⟩
    ·obtain⟨p1,q',p2,p3⟩:=g2 hvi
     rw[p2]at hve
     injection hve with e1 e2 e3
     rw[←e1,←e3]
     exact⟨by omega,q',rfl,p3⟩
   have hrd:kq z' H (.bG b bU off m)=some (X.take m):=by
    have hlm:off+m≤L.length:=by omega
    unfold kq
    simp[hb,hlm]
    rw[←hX,List.take_take,Pb (by omega)]
   obtain⟨q',cap',cells,k0,k1,k2,k3⟩:=ja hr hz hv2 hrd
   rw[hml]at k1 k2
   subst hve
   refine⟨q,cap,cells,by rw[hXl],?_,k2,fun ρ1 hs=>k3 ρ1 (fun b1 ver1 off1 n1 l1 x1 hh h2 h3 h4=>by cases hh;exact hs _ _ _ _ _ _ rfl h2 h3 h4)⟩
   rw[pa z' m q n cap m cap]
   exact k1 w rfl
  ·cases h
 ·cases h
theorem mW(hr:HR C ρ F H w){b v off z:Nat}{L X:List (List SV)}{ex:Bool}{l:Loc}{cells:Array Value}(hb:az H b=some (.arr v z L ex))(hl:ρ b=some l)(hbr:BR C w F ρ l (.arr v z L ex))
 (hvi:l.aL=false) (hfit:off+X.length≤L.length) (hsz:cells.size=X.length*z) (hrow:∀ρ1:Map,sI ρ ρ1 (SV.refs.au X.flatten)→dA w F ρ1 cells 0 z X) {refs:Nat} (hrefs:SV.refs.au X.flatten≤refs)
 (hH:bT H b (.arr v z (L.take off++X++L.drop (off+X.length)) ex) refs=some H') :
 ∃w',(storeCells ⟨l.bq,l.base+off*z,none⟩ cells.toList).run C.P w=.ok () w'∧HR C ρ F H' w'∧Ext C ρ F H w ρ F H' w':=by
 obtain⟨h1,h2,h3,h4,h5,h6,h7,h8⟩:=id hbr
 obtain⟨vs,ty',fz,g1,g2,g3,g4⟩:=h8 hvi
 have hm:(off+X.length)*z≤l.cap*z:=Om z (by omega)
 rw[Ox]at hm
 have hsz':(kp vs (l.base+off*z) cells.toList).size=vs.size:=gQ (by simp;omega)
 have hlt:l.bq<w.heap.size:=(N8.1 g1).1
 have hst:=cS (P:=C.P) l.bq (l.base+off*z) ty' fz cells.toList 0 vs w g1 g2 (by simp;omega) (fun x hx=>tS (hrow ρ (.inl rfl)) hsz x hx)
 have hlen:(L.take off++X++L.drop (off+X.length)).length=L.length:=by simp;omega
 have hk:cK F w (et w l.bq (kp vs (l.base+off*z) cells.toList) ty' fz):=im hr hb rfl hl hvi
 obtain⟨r1,r2⟩:=jz (vs':=kp vs (l.base+off*z) cells.toList) (ty:=ty') (fz:=fz) hr hH hb rfl hl hvi (fun _ ρ1 hρ1 hbr1=>by
  obtain⟨_,_,_,_,_,_,_,q8⟩:=hbr1
  obtain⟨vs2,ty2,fz2,m1,m2,m3,m4⟩:=q8 hvi
  rw[g1]at m1;cases m1
  have hcut:sI ρ ρ1 (SV.refs.au X.flatten):=by
   rcases hρ1 with h|⟨N,hN,h⟩
   ·exact .inl h
   ·exact .inr ⟨N,by omega,h⟩
  have:=rp (xs:=cells) h4 m4 (hrow ρ1 hcut) hsz (by omega) (show off+X.length≤l.cap by omega) h5 g3
  exact⟨h1,h2,h3,this.1,by rw[hlen];exact h5,by rw[hlen];exact h6,h7,fun _=>⟨_,ty',fz,gr hlt,by rw[hsz'];exact g2,by rw[hsz'];exact g3,fun j cs hj=>(this.2 j cs hj).mono hk (fun _ h=>h) (Map.le_refl _)⟩⟩)
 exact⟨_,hst,r1,r2⟩
theorem q9(hr:HR C ρ F H w){b v z:Nat}{L:List (List SV)}{ex:Bool}{l:Loc}{refs:Nat}(hb:az H b=some (.arr v z L ex))(hl:ρ b=some l)(hbr:BR C w F ρ l (.arr v z L ex))
 (hH:bT H b (.arr v z L ex) refs=some H'):HR C ρ F H' w∧Ext C ρ F H w ρ F H' w:=by
 obtain⟨p1,p2⟩:=hr.set (w':=w) (l':=l) hH hb rfl hl (NV _) (fun _ _ _=>rfl) (fun h=>.inl ⟨h,rfl⟩) (.inl rfl) (fun _=>by rw[ba hl];exact hbr) (fun _ N _ _ h=>by rw[ba hl];exact h)
 rw[ba hl]at p1 p2
 exact⟨p1,p2⟩
theorem rH(X:List (List SV))(m:Nat):SV.refs.au (X.take m).flatten≤SV.refs.au X.flatten:=by
 have app:∀(a b:List SV),SV.refs.au a≤SV.refs.au (a++b)∧SV.refs.au b≤SV.refs.au (a++b):=by
  intro a b
  induction a with
  |nil=>simp[SV.refs.au]
  |cons x r ih=>simp only[Oy,SV.refs.au];omega
 have:=(app (X.take m).flatten (X.drop m).flatten).1
 rwa [←List.flatten_append,QS]at this
theorem ya{ats:Array TypeId}{t el ty:TypeId}{z:Nat}(h0:ats[0]?=some t)(hu:C.P.underlying t=some (.slice el))(hsz:eO C.P el=some z)(hz:0<z)(hr:HR C ρ F H w){X:List (List SV)}{dv xv:Value}
 (hdv:VR w F ρ d dv) (hxv:VR w F ρ c xv) (hX:kq z H c=some X) (h:xT z H X d=some (s,H')):∃val w',(Builtin.copy_ ats ty #[dv,xv]).run C.P w=.ok val w'∧cN C ρ F H w s H' val w':=by
 unfold xT at h
 split at h
 ·rename_i b v off n
  split at h
  ·rename_i v' z' L ex hg
   replace h:=af h
   obtain⟨hc,h⟩:=h
   simp only[NX,O1,NY]at hc
   obtain⟨⟨rfl,rfl⟩,hle⟩:=hc
   simp only[NP,N3]at h
   obtain⟨H1,hH,rfl,rfl⟩:=h
   obtain⟨l,z2,L2,ex2,hl,hb2,hbr,g1,g2⟩:=dh hr (by unfold cur;simp[hg]) hdv
   rw[hg]at hb2;cases hb2
   obtain⟨base,sc,hse⟩:∃base sc,dv=.slice base n sc:=by
    cases hvi:l.aL with
    |true=>obtain⟨q,p1,p2,p3⟩:=g1 hvi;exact⟨q,0,by rw[p1,p3]⟩
    |false=>obtain⟨p1,q,p2,p3⟩:=g2 hvi;exact⟨q,_,p2⟩
   obtain⟨q,cap,cells,rfl,k1,k2,k3⟩:=wK (m:=min X.length n) hr hz hxv hX (Nat.min_le_left _ _)
   have hXt:X.take n=X.take (min X.length n):=by
    rcases Nat.le_total X.length n with h|h
    ·rw[Pb h,OR h,PL]
    ·rw[Nat.min_eq_right h]
   have hlen:(X.take n).length=min X.length n:=by rw[PW,Nat.min_comm]
   have hrun:∀w',(match base with|some a=>storeCells a cells.toList|none=>pure ()).run C.P w=.ok () w'→(Builtin.copy_ ats ty #[dv,.slice q X.length cap]).run C.P w=.ok (.int .i64 (min X.length n:Nat)) w':=by
    intro w' hw
    subst hse
    unfold Builtin.copy_
    simp only[h0,Pu,List.getElem?_cons_zero,QH,Sem.run_bind,run_underlying hu,Result.andThen,aY hsz,Builtin.lenOf]
    simp only[pure,Sem.run,Result.andThen,Sem.run_bind,aY hsz]
    rw[show Nat.min X.length n=min X.length n from rfl,k1]
    cases base with
    |none=>simp only[pure,Sem.run,Result.ok.injEq,true_and]at hw;subst hw;rfl
    |some ad=>simp only[Sem.run_bind,hw,Result.andThen];rfl
   by_cases hm:min X.length n=0
   ·have hc0:cells.toList=[]:=by
     have:cells.size=0:=by rw[k2,hm];simp
     simpa using this
    have hH':L.take off++X.take n++L.drop (off+min X.length n)=L:=by
     rw[hXt,hm];simp
    rw[hH']at hH
    obtain⟨p1,p2⟩:=q9 hr hg hl hbr hH
    exact⟨_,w,hrun w (by cases base<;>simp[hc0,storeCells,pure,Sem.run]),ρ,F,.int _ _,p1,p2⟩
   ·have hvi:l.aL=false:=by
     cases hvi:l.aL with
     |true=>obtain⟨q,p1,p2,p3⟩:=g1 hvi;omega
     |false=>rfl
    obtain⟨p1,q',p2,p3⟩:=g2 hvi
    rw[hse]at p2
    cases p2
    have hcap:=hbr.2.2.2.2.1
    have:=p3 (by omega)
    subst this
    have hz3:=hbr.2.2.1
    obtain⟨w',e1,e2,e3⟩:=mW (X:=X.take n) (cells:=cells) (off:=off) hr hg hl hbr hvi (by rw[hlen];omega) (by rw[hlen];exact k2)
     (fun ρ1 hρ1=>ly (by rw[hXt];exact k3 ρ (dE hr)) hρ1) (refs:=SV.refs.au X.flatten) (rH X n) (by rw[hlen];exact hH)
    exact⟨_,w',hrun w' (by rw[hz3];exact e1),ρ,F,.int _ _,e2,e3⟩
  ·cases h
 ·cases h
theorem o7{z:List SV}(hz:SV.refs.au z=0):∀n,SV.refs.au (List.replicate n z).flatten=0
 |0=>by simp[SV.refs.au]
 |n+1=>by
  have app:∀(a b:List SV),SV.refs.au a=0→SV.refs.au b=0→SV.refs.au (a++b)=0:=by
   intro a b h1 h2
   induction a with
   |nil=>exact h2
   |cons x r ih=>simp only[Oy,SV.refs.au]at h1 ⊢;have:=ih (by omega);omega
  rw[P2,Qx]
  exact app _ _ hz (o7 hz n)
theorem v8{ats:Array TypeId}{t el ty:TypeId}{z:List SV}(h0:ats[0]?=some t)(hu:C.P.underlying t=some (.slice el))(hcz:fw C.P el=some z)(hz:0<z.length)(hr:HR C ρ F H w){xv:Value}
 (hxv:VR w F ρ c xv) (h:sP z.length z H c=some (s,H')):∃val w',(Builtin.clear_ ats ty #[xv]).run C.P w=.ok val w'∧cN C ρ F H w s H' val w':=by
 unfold sP at h
 split at h
 ·rename_i z0 f
  simp only[N1,N3]at h
  obtain⟨rfl,rfl⟩:=h
  cases hxv with
  |aB V hcap hfull hz' hat h1 hv=>
   rename_i q cap
   refine⟨.tuple #[],w,?_,cN.same hr (.undef _)⟩
   unfold Builtin.clear_
   simp only[h0,Pu,List.getElem?_cons_zero,Sem.run_bind,run_underlying hu,Result.andThen]
   cases q<;>rfl
 ·rename_i b v off n
  split at h
  ·rename_i v' z' L ex hg
   replace h:=af h
   obtain⟨hc,h⟩:=h
   simp only[NX,O1,NY]at hc
   obtain⟨⟨rfl,rfl⟩,hle⟩:=hc
   simp only[NP,N3]at h
   obtain⟨H1,hH,rfl,rfl⟩:=h
   obtain⟨l,z2,L2,ex2,hl,hb2,hbr,g1,g2⟩:=dh hr (by unfold cur;simp[hg]) hxv
   rw[hg]at hb2;cases hb2
   by_cases hn:n=0
   ·subst hn
    obtain⟨base,sc,hse⟩:∃base sc,xv=.slice base 0 sc:=by
     cases hvi:l.aL with
     |true=>obtain⟨q,p1,p2,p3⟩:=g1 hvi;exact⟨q,0,p1⟩
     |false=>obtain⟨p1,q,p2,p3⟩:=g2 hvi;exact⟨q,_,p2⟩
    have hH':L.take off++List.replicate 0 z++L.drop (off+0)=L:=by simp
    rw[hH']at hH
    obtain⟨p1,p2⟩:=q9 hr hg hl hbr hH
    refine⟨.tuple #[],w,?_,ρ,F,.undef _,p1,p2⟩
    subst hse
    unfold Builtin.clear_
    simp only[h0,Pu,List.getElem?_cons_zero,Sem.run_bind,run_underlying hu,Result.andThen]
    cases base<;>rfl
   ·have hvi:l.aL=false:=by
     cases hvi:l.aL with
     |true=>obtain⟨q,p1,p2,p3⟩:=g1 hvi;omega
     |false=>rfl
    obtain⟨p1,q',p2,p3⟩:=g2 hvi
    subst p2
    have hcap:=hbr.2.2.2.2.1
    have:=p3 (by omega)
    subst this
    have hz3:=hbr.2.2.1
    obtain⟨i,zv,hi,hzv,k1,k2⟩:=fe (w:=w) (F:=F) (ρ:=ρ) hcz
    have hzsz:(bZ zv.cells (n*z.length)).size=n*z.length:=by simp[bZ]
    have hrow:∀ρ1:Map,dA w F ρ1 (bZ zv.cells (n*z.length)) 0 z.length (List.replicate n z):=fun ρ1=>by
     obtain⟨i',zv',hi',hzv',k1',k2'⟩:=fe (w:=w) (F:=F) (ρ:=ρ1) hcz
     rw[hi]at hi';cases hi'
     rw[hzv]at hzv';cases hzv'
     exact ib rfl k1' k2' hz
    have hrefs:SV.refs.au z=0:=by
     have key:∀(l:List SV),(∀x∈l,x.refs=0)→SV.refs.au l=0:=by
      intro l
      induction l with
      |nil=>intro _;simp[SV.refs.au]
      |cons x r ih=>intro h;simp only[SV.refs.au,h x (by simp),ih (fun y hy=>h y (by simp[hy]))];rfl
     refine key z (fun x hx=>?_)
     obtain⟨j,hj⟩:=List.mem_iff_getElem?.1 hx
     obtain⟨i',zv',hi',hzv',k1',k2'⟩:=fe (w:=w) (F:=F) (ρ:=cO) hcz
     obtain⟨v',q1,q2,q3⟩:=k2' j x hj
     cases x with
     |ptr=>cases q2 with|ptr h _ _ _=>cases h
     |bG=>cases q2 with|bG h _ _ _=>cases h
     |lT=>cases q2 with|lT h ha=>cases h
     |mp=>cases q2 with|mp h ha=>cases h
     |fn f cs=>
      exfalso
      unfold fw at hcz
      rw[hi]at hcz
      simp only[hzv,NS]at hcz
      obtain⟨z',hz1,hz2⟩:=hcz
      replace hz2:=af hz2
      obtain⟨_,hz2⟩:=hz2
      cases hz2
      have:∀(l:List Value) (r:List SV),bc (l.map (iz 1))=some r→∀x∈r,∃v∈l,iz 1 v=some x:=by
       intro l
       induction l with
       |nil=>intro r h;simp[bc]at h;subst h;simp
       |cons a l ih=>
        intro r h
        simp only[Ov]at h
        cases ha:iz 1 a with
        |none=>rw[ha]at h;simp[bc]at h
        |some y=>
         rw[ha]at h
         simp only[bc,NP]at h
         obtain⟨r',h1,rfl⟩:=h
         intro x hx
         rcases O9.1 hx with rfl|hx
         ·exact⟨a,by simp,ha⟩
         ·obtain⟨v,h2,h3⟩:=ih r' h1 x hx
          exact⟨v,by simp[h2],h3⟩
      obtain⟨v,_,hv⟩:=this _ _ hz1 _ hx
      unfold iz at hv
      split at hv<;>first|(cases hv;done)|(simp[NS,bc,cond_eq_ite]at hv;done)|skip
      all_goals (simp only[NS]at hv;obtain⟨cs',_,hv⟩:=hv;replace hv:=af hv;cases hv.2)
     |oI f cs=>
      exfalso
      unfold fw at hcz
      rw[hi]at hcz
      simp only[hzv,NS]at hcz
      obtain⟨z',hz1,hz2⟩:=hcz
      replace hz2:=af hz2
      obtain⟨_,hz2⟩:=hz2
      cases hz2
      have:∀(l:List Value) (r:List SV),bc (l.map (iz 1))=some r→∀x∈r,∃v∈l,iz 1 v=some x:=by
       intro l
       induction l with
       |nil=>intro r h;simp[bc]at h;subst h;simp
       |cons a l ih=>
        intro r h
        simp only[Ov]at h
        cases ha:iz 1 a with
        |none=>rw[ha]at h;simp[bc]at h
        |some y=>
         rw[ha]at h
         simp only[bc,NP]at h
         obtain⟨r',h1,rfl⟩:=h
         intro x hx
         rcases O9.1 hx with rfl|hx
         ·exact⟨a,by simp,ha⟩
         ·obtain⟨v,h2,h3⟩:=ih r' h1 x hx
          exact⟨v,by simp[h2],h3⟩
      obtain⟨v,_,hv⟩:=this _ _ hz1 _ hx
      unfold iz at hv
      split at hv<;>first|(cases hv;done)|(simp[NS,bc,cond_eq_ite]at hv;done)|skip
      all_goals (simp only[NS]at hv;obtain⟨cs',_,hv⟩:=hv;replace hv:=af hv;cases hv.2)
     |pU b o n=>
      exfalso
      unfold fw at hcz
      rw[hi]at hcz
      simp only[hzv,NS]at hcz
      obtain⟨z',hz1,hz2⟩:=hcz
      replace hz2:=af hz2
      obtain⟨_,hz2⟩:=hz2
      cases hz2
      have:∀(l:List Value) (r:List SV),bc (l.map (iz 1))=some r→∀x∈r,∃v∈l,iz 1 v=some x:=by
       intro l
       induction l with
       |nil=>intro r h;simp[bc]at h;subst h;simp
       |cons a l ih=>
        intro r h
        simp only[Ov]at h
        cases ha:iz 1 a with
        |none=>rw[ha]at h;simp[bc]at h
        |some y=>
         rw[ha]at h
         simp only[bc,NP]at h
         obtain⟨r',h1,rfl⟩:=h
         intro x hx
         rcases O9.1 hx with rfl|hx
         ·exact⟨a,by simp,ha⟩
         ·obtain⟨v,h2,h3⟩:=ih r' h1 x hx
          exact⟨v,by simp[h2],h3⟩
      obtain⟨v,_,hv⟩:=this _ _ hz1 _ hx
      unfold iz at hv
      split at hv<;>first|(cases hv;done)|(simp[NS,bc,cond_eq_ite]at hv;done)|skip
      all_goals (simp only[NS]at hv;obtain⟨cs',_,hv⟩:=hv;replace hv:=af hv;cases hv.2)
     |agg=>simp[SV.gU]at q3
     |ax=>simp[SV.gU]at q3
     |_=>simp[SV.refs]
    have hrefs0:=o7 hrefs n
    obtain⟨w',e1,e2,e3⟩:=mW (X:=List.replicate n z) (cells:=bZ zv.cells (n*z.length)) (off:=off) hr hg hl hbr hvi (by simpa using hle) (by simpa using hzsz)
     (fun ρ1 _=>hrow ρ1) (refs:=0) (PF hrefs0) (by simpa using hH)
    refine⟨.tuple #[],w',?_,ρ,F,.undef _,e2,e3⟩
    unfold Builtin.clear_
    simp only[h0,Pu,List.getElem?_cons_zero,Sem.run_bind,run_underlying hu,Result.andThen]
    obtain⟨m,rfl⟩:∃m,n=m+1:=⟨n-1,by omega⟩
    simp only[Sem.run_bind,cP hi hzv,Result.andThen]
    have hzc:Builtin.zeroCells zv.cells (m+1)=bZ zv.cells ((m+1)*z.length):=by
     unfold Builtin.zeroCells bZ;rw[k1]
    rw[hzc]
    rw[hz3]
    rw[e1]
    rfl
  ·cases h
 ·cases h
end
end
section
section
variable{C:Ctx}{ρ:Map}{F:Nat→Prop}{H H':ae}{w:World}{e:Env}{a:Act}{s c d:SV}
theorem mi:∀(X:List (List SV)) (l:List UInt8) (cells:List Value),toBytes X=some l→cells.length=X.length→(∀(i:Nat) cs,X[i]?=some cs→∃v,cells[i]?=some v∧∀c,cs=[c]→VR w F ρ c v)→
 ∃ns:List Int,cells=ns.map (fun n=>Value.int .u8 n)∧l=ns.map (fun n=>UInt8.ofNat n.toNat)
 |[],l,cells,h,hn,_=>by
  simp[toBytes]at h;subst h
  have:cells=[]:=Pe (by simpa using hn)
  subst this
  exact⟨[],rfl,rfl⟩
 |x::X,l,[],h,hn,_=>by simp at hn
 |x::X,l,v::cells,h,hn,hv=>by
  unfold toBytes at h
  split at h
  ·cases ‹x::X=[]›
  ·rename_i n r heq
   cases heq
   simp only[NP]at h
   obtain⟨l',h,rfl⟩:=h
   obtain⟨v',h1,h2⟩:=hv 0 _ rfl
   simp at h1;subst h1
   have h3:=eX (h2 _ rfl)
   subst h3
   obtain⟨ns,rfl,rfl⟩:=mi X l' cells h (by simpa using hn) (fun i cs hi=>hv (i+1) cs (by simpa using hi))
   exact⟨n::ns,rfl,rfl⟩
  ·cases h
theorem lW{P:Program}(f:Value→ByteArray→Sem (ForInStep ByteArray))(hf:∀n s,f (.int .u8 n) s=pure (.yield (s.push (UInt8.ofNat n.toNat))))(w:World):∀(ns:List Int) (s:ByteArray),
 (forIn (ns.map (fun n=>Value.int .u8 n)) s f:Sem ByteArray).run P w=.ok ⟨s.data++(ns.map (fun n=>UInt8.ofNat n.toNat)).toArray⟩ w
 |[],s=>by
  simp only[PG,List.forIn_nil]
  show Result.ok s w=_
  simp
 |b::l,s=>by
  simp only[Ov,List.forIn_cons,Sem.run_bind,hf,Sem.run_pure,Result.andThen]
  rw[lW f hf w l]
  congr 1
  cases s
  simp[ByteArray.push]
theorem ve{sr ds el:TypeId}{x:Operand}{y:bj}(hx:aG x=some y)(hs:C.P.underlying sr=some (.slice el))(h8:C.P.underlying el=some (.int .u8))(hd:C.P.underlying ds=some .string)(hr:HR C ρ F H w)(he:ER w F ρ e a.tmps)
 {L:List (List SV)} {l:List UInt8} (h:kq 1 H (ev e y)=some L) (hl:toBytes L=some l):aJ C (do pure (.value (←convert sr ds (a.eval x)))) ρ F H w (.str ⟨l.toArray⟩) H:=by
 have h1:=ar hx he
 obtain⟨q,cap,cells,hv,k1,k2,k3⟩:=ja hr (by omega) h1 h
 refine aJ.val hr (val:=.string ⟨l.toArray⟩) ?_ (.str _)
 rw[hv]at k1⊢
 obtain⟨ns,e1,e2⟩:=mi (w:=w) (F:=F) (ρ:=ρ) L l cells.toList hl (by simpa using k2) (fun i cs hi=>by
  have hrow:=k3 ρ (dE hr)
  have hlen:=hrow.1 i cs hi
  match cs,hlen with
  |[c],_=>
   obtain⟨v,p1,p2,_⟩:=hrow.2 i _ hi 0 c rfl
   refine⟨v,by simpa using p1,fun c' hc=>by cases hc;exact p2⟩)
 unfold convert
 simp only[Sem.run_bind,run_underlying hs,run_underlying hd,Result.andThen,run_underlying h8]
 have h2:=k1 w rfl
 cases q with
 |none=>
  simp only[Builtin.firstCells,Sem.run_pure,Result.ok.injEq]at h2
  obtain⟨rfl,_⟩:=h2
  cases ns with
  |nil=>subst e2;rfl
  |cons n ns=>simp at e1
 |some q=>
  simp only[Builtin.firstCells,Qq]at h2
  subst e2
  have e3:cells=(ns.map (fun n=>Value.int .u8 n)).toArray:=by rw[←e1]
  subst e3
  simp only[Conv.bytesToString,Sem.run_bind,h2,Result.andThen,List.forIn_toArray]
  rw[lW _ (fun _ _=>rfl)]
  simp[Sem.run_pure]
theorem qt{A:Type}(h:Array A)(o:A)(f:A→A):(h.push o).modify h.size f=h.push (f o):=by
 apply Qj
 intro i
 rw[Qm,Pp,Pp]
 by_cases hi:h.size=i
 ·subst hi;simp
 ·rw[if_neg hi,if_neg (fun e=>hi e.symm),if_neg (fun e=>hi e.symm)]
theorem uq(hr:HR C ρ F H w){L:List (List SV)}{z cap:Nat}{ex:Bool}{vs:Array Value}{ty:TypeId}{fz:Nat×Nat}{w':World}(hw:w'.heap=w.heap.push (.cells vs ty fz))(hfz:iW fz vs.size)(hcap:L.length≤cap)(hex:ex=true→cap=L.length)
 (hsz:cap*z≤vs.size) (hc:dA w F ρ vs 0 z L) (n:Nat) (hn:n≤L.length) (hout:w'.os=w.os∧w'.output=w.output:=by exact⟨rfl,rfl⟩) :
 cN C ρ F H w (.bG H.bl.length 0 0 n) (aV H (.arr 0 z L ex)) (.slice (some ⟨w.heap.size,0,none⟩) n cap) w':=by
 let l:Loc:={bq:=w.heap.size,base:=0,cap:=cap,bg:=z,bU:=0,aL:=false,arr:=true}
 have hh:∀B,B<w.heap.size→w'.heap[B]?=w.heap[B]?:=fun B hB=>by
  rw[hw];simp[Pp,PB hB]
 have hk:cK F w w':=fun B hB=>hh B (hr.fO B hB)
 have hle:ρ.le (ρ.put H.bl.length l):=fun b l' h=>⟨l',by rw[Map.aA _ _ (PB (hr.gY b l' h))];exact h,.inl rfl⟩
 have hp:=hr.push (w':=w') (by rw[hw];simp) hh (.arr 0 z L ex) l (fun _=>⟨NV _,by rw[hw];simp[l]⟩)
  ⟨rfl,rfl,rfl,hc.1,hcap,hex,(fun h=>by cases h),fun _=>⟨vs,ty,fz,by rw[hw];simp[l],hfz,by simpa[l]using hsz,fun i cs hi=>by
   have:=hc.2 i cs hi
   exact this.mono hk (fun _ h=>h) hle⟩⟩ hout
 exact⟨_,F,.bG (l:=l) (Map.aQ _ _ _) (NV _) rfl (fun _=>⟨(fun h=>by cases h),fun _=>⟨by simp[l];omega,_,rfl,fun _=>by simp[l]⟩⟩),hp.1,hp.2⟩
theorem u3{sr ds el:TypeId}{x:Operand}{y:bj}(hx:aG x=some y)(hs:C.P.underlying sr=some .string)(h8:C.P.underlying el=some (.int .u8))(hd:C.P.underlying ds=some (.slice el))(hr:HR C ρ F H w)(he:ER w F ρ e a.tmps)
 {t:ByteArray} (h:ev e y=.str t):∃val w',(convert sr ds (a.eval x)).run C.P w=.ok val w'∧cN C ρ F H w (.bG H.bl.length 0 0 t.size) (aV H (.arr 0 1 (jQ t) false)) val w':=by
 have h1:=ar hx he
 rw[h]at h1
 rw[iC h1]
 have hl:(jQ t).length=t.size:=by unfold jQ;rw[Oe,P0];rfl
 obtain⟨cap,hcp⟩:∃cap,(Question.appendCap t.size 0 el).cut (w.tape w.drawn (Question.appendCap t.size 0 el))=cap:=⟨_,rfl⟩
 have hcap:t.size≤cap:=by rw[←hcp];exact Nat.le_add_right _ _
 obtain⟨elems,hel⟩:∃elems:Array Value,t.data.map (fun b=>Value.int .u8 b.toNat)=elems:=⟨_,rfl⟩
 have hes:elems.size=t.size:=by rw[←hel,Array.size_map];rfl
 obtain⟨cells,hce⟩:∃cells,elems++Array.replicate (cap-t.size) (Value.int .u8 0)=cells:=⟨_,rfl⟩
 have hcs:cells.size=cap:=by rw[←hce,Array.size_append,hes,Array.size_replicate];omega
 refine⟨.slice (some ⟨w.heap.size,0,none⟩) t.size cap,{w with heap:=w.heap.push (.cells cells el (cap,cap+1)),drawn:=w.drawn+1},?_,uq hr (vs:=cells) (ty:=el) (fz:=(cap,cap+1)) rfl ?_ (by rw[hl];exact hcap) (fun h=>by cases h) (by rw[hcs,Qq];exact NV _) ⟨?_,?_⟩ t.size (by rw[hl];exact NV _)⟩
 ·unfold convert
  simp only[Sem.run_bind,run_underlying hs,run_underlying hd,Result.andThen,run_underlying h8]
  unfold Conv.stringToBytes
  have r1:(choose (.appendCap t.size 0 el)).run C.P w=.ok cap {w with drawn:=w.drawn+1}:=by rw[←hcp];rfl
  have r2:∀(w:World) (cs:Array Value),(newRow el cs).run C.P w=.ok ⟨w.heap.size,0,none⟩ {w with heap:=w.heap.push (.cells cs el)}:=fun _ _=>rfl
  have r3:(markStringish ⟨w.heap.size,0,none⟩).run C.P {w with heap:=w.heap.push (.cells cells el),drawn:=w.drawn+1}=.ok () {w with heap:=w.heap.push (.cells cells el (cap,cap+1)),drawn:=w.drawn+1}:=by
   have e1:World.shape? {w with heap:=w.heap.push (.cells cells el),drawn:=w.drawn+1} w.heap.size=some (el,cap):=by
    unfold World.shape?
    simp only[Array.getElem?_push_size,hcs]
   have e2:World.freeze {w with heap:=w.heap.push (.cells cells el),drawn:=w.drawn+1} ⟨w.heap.size,cap,none⟩ 1={w with heap:=w.heap.push (.cells cells el (cap,cap+1)),drawn:=w.drawn+1}:=by
    unfold World.freeze
    rw[if_neg (by decide)]
    simp only[qt]
    rfl
   show(match World.shape? {w with heap:=w.heap.push (.cells cells el),drawn:=w.drawn+1} w.heap.size with
    |some (_,n)=>freeze ⟨w.heap.size,n,none⟩ 1
    |_=>pure ():Sem Unit).run C.P _=_
   rw[e1]
   show Result.ok () (World.freeze _ _ _)=_
   rw[e2]
  simp only[Sem.run_bind,r1,r2,Result.andThen,hel,hce,r3]
  rfl
 ·intro o ho
  rw[hcs]at ho
  simp only[QT,Ow]
  left;omega
 ·intro i cs hi
  simp only[jQ,Py,NP]at hi
  obtain⟨b,_,rfl⟩:=hi
  rfl
 ·intro i cs hi j c hj
  simp only[jQ,Py,NP]at hi
  obtain⟨b,hb,rfl⟩:=hi
  have hj0:j=0:=by
   cases j with
   |zero=>rfl
   |succ j=>simp at hj
  subst hj0
  simp only[List.getElem?_cons_zero,N1]at hj
  subst hj
  have hbi:t.data[i]?=some b:=by simpa using hb
  refine⟨.int .u8 b.toNat,?_,.int _ _,rfl⟩
  have hi:i<t.data.size:=(N8.1 hbi).1
  rw[show 0+i*1+0=i by omega,←hce,Qy (by rw[hes];exact hi)]
  rw[←hel,Array.getElem?_map,hbi];rfl
end
end
section
section
variable{C:Ctx}{ρ:Map}{F:Nat→Prop}{H H':ae}{w:World}{e:Env}{a:Act}{s c d:SV}
def Hs:LK→TypeDesc→Prop
 | .i,d=>∃k,d=.int k
 | .s,d=>d=.string
 | .b,d=>d=.bool
theorem As{c:SV}{v y:Value}(h:VR w F ρ c v)(hs:pe c=some y):v=y:=by
 unfold pe at hs
 split at hs<;>first|(cases hs;cases h;rfl)|cases hs
theorem vq{c:SV}{y:Value}(hs:pe c=some y):VR w F ρ c y:=by
 unfold pe at hs
 split at hs<;>first|(cases hs;constructor)|cases hs
theorem BL{a b:ByteArray}(h:(a==b)=true):a=b:=by
 cases a with
 |mk x=>cases b with
  |mk y=>
   have h':(x==y)=true:=h
   rw[eq_of_beq h']
theorem rr(a:ByteArray):(a==a)=true:=by
 cases a with
 |mk x=>
  show(x==x)=true
  exact O8 x
theorem xb{t:LK}{d:TypeDesc}{k q:SV}{kv qv:Value}{b:Bool}(hd:Hs t d)(h:ov t k q=some b)(hk:pe k=some kv)(hq:pe q=some qv):Instr.sameNow d kv qv=some b∧(b=true→kv=qv):=by
 unfold ov at h
 split at h
 ·rename_i k1 a k2 b'
  replace h:=af h
  obtain⟨h1,h2⟩:=h
  obtain⟨kk,rfl⟩:=hd
  cases hk;cases hq;cases h2
  have h1:k1=k2:=by simpa using h1
  subst h1
  exact⟨by simp[Instr.sameNow],fun h=>by rw[eq_of_beq h]⟩
 ·cases hd
  cases hk;cases hq;cases h
  exact⟨by simp[Instr.sameNow],fun h=>by rw[BL h]⟩
 ·cases hd
  cases hk;cases hq;cases h
  exact⟨by simp[Instr.sameNow],fun h=>by rw[eq_of_beq h]⟩
 ·cases h
theorem mR{t:LK}{d:TypeDesc}{k:SV}{kv:Value}(hd:Hs t d)(hk:pe k=some kv):∀(es:List (SV×SV)) (en:List MapEntry) (i:Nat) (r:Option (Nat×SV)),jG w F ρ en es→iH t k es i=some r→
 (r=none∧Instr.findNow d kv en i=some none)∨∃j v en1,r=some (i+j,v)∧Instr.findNow d kv en i=some (some (i+j,en1.val))∧en[j]?=some en1∧en1.key=kv∧v.gU=true∧VR w F ρ v en1.val
 |[],[],i,r,_,h=>by cases h;exact .inl ⟨rfl,rfl⟩
 |[],_::_,_,_,hm,_=>hm.elim
 |(_,_)::_,[],_,_,hm,_=>hm.elim
 |(q,v)::es,e::en,i,r,⟨h1,h2,h3,h4⟩,h=>by
  unfold iH at h
  simp only[NS]at h
  obtain⟨b,hb,h⟩:=h
  obtain⟨g1,g2⟩:=xb hd hb hk h1
  cases b with
  |true=>
   cases h
   exact .inr ⟨0,v,e,rfl,by simp[Instr.findNow,g1],rfl,(g2 rfl).symm,h2,h3⟩
  |false=>
   simp only[Oa]at h
   rcases mR hd hk es en (i+1) r h4 h with⟨p1,p2⟩|⟨j,v',e',p1,p2,p3,p4,p5,p6⟩
   ·exact .inl ⟨p1,by simp[Instr.findNow,g1,p2]⟩
   ·exact .inr ⟨j+1,v',e',by rw[p1];congr 2;omega,by simp only[Instr.findNow,g1,p2];congr 3;omega,by simpa using p3,p4,p5,p6⟩
theorem re{k v:SV}{e:MapEntry}(hk:pe k=some e.key)(h1:v.gU=true)(hv:VR w F ρ v e.val):∀(en:List MapEntry) (es:List (SV×SV)),jG w F ρ en es→jG w F ρ (en++[e]) (es++[(k,v)])
 |[],[],_=>⟨hk,h1,hv,trivial⟩
 |_::en,(_,_)::es,⟨a,b,c,h⟩=>⟨a,b,c,re hk h1 hv en es h⟩
 |[],_::_,h=>h.elim
 |_::_,[],h=>h.elim
theorem rh{k v:SV}{kv vv:Value}(hk:pe k=some kv)(h1:v.gU=true)(hv:VR w F ρ v vv):∀(j:Nat) (en:List MapEntry) (es:List (SV×SV)),jG w F ρ en es→jG w F ρ (en.modify j fun e=>{e with key:=kv,val:=vv}) (es.set j (k,v))
 |_,[],[],_=>by simp[jG]
 |0,e::en,(q,x)::es,⟨a,b,c,h⟩=>by
  rw[List.modify_zero_cons,Pl]
  exact⟨hk,h1,hv,h⟩
 |j+1,e::en,(q,x)::es,⟨a,b,c,h⟩=>by
  rw[List.modify_succ_cons,Pm]
  exact⟨a,b,c,rh hk h1 hv j en es h⟩
 |_,[],_::_,h=>h.elim
 |_,_::_,[],h=>h.elim
theorem oy{t el:TypeId}{q:LK}(h:qV C.P t=some (q,el)):∃kt d,C.P.underlying t=some (.map kt el)∧C.P.underlying kt=some d∧Hs q d∧eO C.P el=some 1∧gZ C.P el=some false:=by
 unfold qV at h
 split at h
 ·rename_i k e hu
  replace h:=af h
  obtain⟨hc,h⟩:=h
  simp only[NX,O1]at hc
  split at h
  ·rename_i hk;cases h;exact⟨k,_,hu,hk,⟨_,rfl⟩,hc.1,hc.2⟩
  ·rename_i hk;cases h;exact⟨k,_,hu,hk,rfl,hc.1,hc.2⟩
  ·rename_i hk;cases h;exact⟨k,_,hu,hk,rfl,hc.1,hc.2⟩
  ·cases h
 ·cases h
theorem rz{k:SV}(h:isKey k=true):∃y,pe k=some y:=by
 unfold isKey at h
 split at h<;>first|exact⟨_,rfl⟩|cases h
theorem mf{q:LK}{kt:TypeId}{d:TypeDesc}{k:SV}{kv:Value}(hd:Hs q d)(hu:C.P.underlying kt=some d)(hk:pe k=some kv)(b:Bool)(n:Nat)(w:World):(Instr.checkKey b (n+1) kt kv).run C.P w=.ok () w:=by
 unfold Instr.checkKey
 simp only[Sem.run_bind,run_underlying hu,Result.andThen]
 unfold pe at hk
 cases q with
 |i=>obtain⟨kk,rfl⟩:=hd;split at hk<;>first|(cases hk;rfl)|cases hk
 |s=>cases hd;split at hk<;>first|(cases hk;rfl)|cases hk
 |b=>cases hd;split at hk<;>first|(cases hk;rfl)|cases hk
theorem lK(hr:HR C ρ F H w){b:Nat}{v:Value}{es:List (SV×SV)}(hv:VR w F ρ (.mp b) v)(hg:az H b=some (.map es)):∃l en cl,ρ b=some l∧v=.map (some l.bq)∧l.aL=false∧l.arr=false∧w.heap[l.bq]?=some (.map en cl)∧jG w F ρ en.toList es∧cl=en.size∧(∀(j:Nat) e,en[j]?=some e→e.born=j):=by
 cases hv with
 |mp h ha=>
  obtain⟨l',h1,h2,h3,en,cl,h4,h6,h7,h5⟩:=hr.live _ _ hg rfl
  rw[h]at h1;cases h1
  exact⟨_,en,cl,h,rfl,h2,h3,h4,h5,h6,h7⟩
theorem vp(hr:HR C ρ F H w)(t:TypeId):aJ C (do pure (.value (←Instr.makeMap t none))) ρ F H w (.mp H.bl.length) (aV H (.map [])):=by
 let l:Loc:={bq:=w.heap.size,base:=0,cap:=0,bg:=0,bU:=0,aL:=false,arr:=false}
 have hh:∀B,B<w.heap.size→({w with heap:=w.heap.push (.map #[] 0)}:World).heap[B]?=w.heap[B]?:=fun B hB=>by simp[Pp,PB hB]
 have hp:=hr.push (w':={w with heap:=w.heap.push (.map #[] 0)}) (by simp) hh (.map []) l (fun _=>⟨NV _,by simp[l]⟩) ⟨rfl,rfl,#[],0,by simp[l],rfl,by simp,trivial⟩
 refine aJ.mZ (val:=.map (some w.heap.size)) (w':={w with heap:=w.heap.push (.map #[] 0)}) ?_ ⟨_,F,.mp (l:=l) (Map.aQ _ _ _) rfl,hp.1,hp.2⟩
 simp[Instr.makeMap,newObj,Sem.run]
theorem vc{t:TypeId}{z:SV}(h:pq C.P t=some z):∃i v,C.P.info? t=some i∧i.zero=some v∧VR w F ρ z v:=by
 unfold pq at h
 split at h
 ·rename_i i hi
  split at h
  ·rename_i v hv
   simp only[NS]at h
   obtain⟨z',h1,h2⟩:=h
   replace h2:=af h2
   cases h2.2
   exact⟨i,v,hi,hv,pA 1 h1⟩
  ·cases h
 ·cases h
theorem vC{t el:TypeId}{q:LK}{ok:Bool}{z:SV}{x k:Operand}{x' k':bj}(hm:qV C.P t=some (q,el))(hz:pq C.P el=some z)(hx:aG x=some x')(hk:aG k=some k')(hr:HR C ρ F H w)(he:ER w F ρ e a.tmps)
 (h:lS q ok z H (ev e k') (ev e x')=some (s,H')):aJ C (do pure (.value (←Instr.lookup t (a.eval x) (a.eval k) ok))) ρ F H w s H':=by
 obtain⟨kt,d,hu,huk,hd,hsz,hag⟩:=oy hm
 unfold lS at h
 split at h
 ·rename_i b hb
  split at h
  ·rename_i es hg
   replace h:=af h
   obtain⟨hkey,h⟩:=h
   simp only[NP,N3]at h
   obtain⟨r,h1,h2,rfl⟩:=h
   have hxv:=ar hx he
   rw[hb]at hxv
   obtain⟨l,en,cl,hl,hv,hvi,har,hw,hM,hcl,hbn⟩:=lK hr hxv hg
   have hkv:=ar hk he
   obtain⟨kv,hks⟩:=rz hkey
   have hke:=As hkv hks
   obtain⟨i',zv,hi',hzv,hzr⟩:=vc (w:=w) (F:=F) (ρ:=ρ) hz
   have hck:=mf (C:=C) hd huk hks en.isEmpty 9999 w
   rcases mR hd hks es en.toList 0 r hM h1 with⟨rfl,p2⟩|⟨j,v,e1,rfl,p2,p3,p4,p5,p6⟩
   ·have hrun:(Instr.lookup t (a.eval x) (a.eval k) ok).run C.P w=.ok (if ok then .tuple #[zv,.bool false]else zv) w:=by
     unfold Instr.lookup
     rw[hv,hke]
     simp only[Sem.run_bind,run_underlying hu,Result.andThen,MapKept.run_getObj_map hw,Sem.run_pure,hck,MapKept.run_findKey huk p2,cP hi' hzv]
    cases ok with
    |true=>
     cases h2
     refine aJ.val hr hrun (.ax rfl (fun j c v hj hv=>?_))
     match j with
     |0=>simp at hj hv;subst hj;subst hv;exact hzr
     |1=>simp at hj hv;subst hj;subst hv;exact .bool _
     |j+2=>simp at hj
    |false=>
     cases h2
     exact aJ.val hr hrun hzr
   ·have hrun:(Instr.lookup t (a.eval x) (a.eval k) ok).run C.P w=.ok (if ok then .tuple #[e1.val,.bool true]else e1.val) w:=by
     unfold Instr.lookup
     rw[hv,hke]
     simp only[Sem.run_bind,run_underlying hu,Result.andThen,MapKept.run_getObj_map hw,Sem.run_pure,hck,MapKept.run_findKey huk p2]
    have hvr:VR w F ρ v e1.val:=p6
    cases ok with
    |true=>
     cases h2
     refine aJ.val hr hrun (.ax rfl (fun j c v hj hv=>?_))
     match j with
     |0=>simp at hj hv;subst hj;subst hv;exact hvr
     |1=>simp at hj hv;subst hj;subst hv;exact .bool _
     |j+2=>simp at hj
    |false=>
     cases h2
     exact aJ.val hr hrun hvr
  ·cases h
 ·cases h
theorem qG{k:SV}{kv:Value}(h:pe k=some kv)(n:Nat):Instr.sameBits n kv kv=true:=by
 unfold pe at h
 split at h
 ·cases h;unfold Instr.sameBits;simp
 ·cases h;unfold Instr.sameBits;simp
 ·rename_i s
  cases h
  unfold Instr.sameBits
  exact rr s
 ·cases h
theorem zM{t el:TypeId}{q:LK}{x k v:Operand}{x' k' v':bj}(hm:qV C.P t=some (q,el))(hx:aG x=some x')(hk:aG k=some k')(hvo:aG v=some v')(hr:HR C ρ F H w)(he:ER w F ρ e a.tmps)
 (h:nV q H (ev e k') (ev e v') (ev e x')=some (s,H')):∃w',(Instr.mapUpdate t (a.eval x) (a.eval k) (a.eval v)).run C.P w=.ok () w'∧s=.undef∧HR C ρ F H' w'∧Ext C ρ F H w ρ F H' w':=by
 obtain⟨kt,d,hu,huk,hd,hsz,hag⟩:=oy hm
 unfold nV at h
 split at h
 ·rename_i b hb
  split at h
  ·rename_i es hg
   replace h:=af h
   obtain⟨hc,h⟩:=h
   simp only[NX,O1]at hc
   obtain⟨hkey,hv1⟩:=hc
   simp only[NS,NP,N3]at h
   obtain⟨r,h1,H1,hH,rfl,rfl⟩:=h
   have hxv:=ar hx he
   rw[hb]at hxv
   obtain⟨l,en,cl,hl,hv,hvi,har,hw,hM,hcl,hbn⟩:=lK hr hxv hg
   obtain⟨kv,hks⟩:=rz hkey
   have hke:=As (ar hk he) hks
   have hvr:=ar hvo he
   generalize a.eval v=vv at *
   have hck:=mf (C:=C) hd huk hks false 9999 w
   have hlt:l.bq<w.heap.size:=(N8.1 hw).1
   have hown:Own ρ H b l:=⟨⟨_,hg,rfl⟩,hl,hvi⟩
   have fin:∀(en':Array MapEntry) (cl':Nat),cl'=en'.size→(∀(j:Nat) e,en'[j]?=some e→e.born=j)→(∀(w':World) (σ:Map),cK F w w'→VR w F σ (ev e v') vv→jG w F σ en.toList es→jG w' F σ en'.toList (wI (ev e k') (ev e v') es r))→
    HR C ρ F H1 (w.putObj l.bq (.map en' cl'))∧Ext C ρ F H w ρ F H1 (w.putObj l.bq (.map en' cl')):=by
    intro en' cl' hcl' hbn' hM'
    have hkeep:∀Bk,Bk≠l.bq→(w.putObj l.bq (.map en' cl')).heap[Bk]?=w.heap[Bk]?:=fun Bk hne=>World.putObj_heap_other hne
    have hkk:cK F w (w.putObj l.bq (.map en' cl')):=fun Bk hB=>hkeep Bk (fun e=>(hr.own _ _ hown).1 (e▸hB))
    obtain⟨z1,z2⟩:=hr.set (w':=w.putObj l.bq (.map en' cl')) (l':=l) hH hg rfl hl (by simp) (fun Bk _ h=>hkeep Bk (h hvi)) (fun h=>.inl ⟨h,rfl⟩) (.inl rfl)
     (fun _=>⟨hvi,har,en',cl',World.putObj_heap_same hlt,hcl',hbn',by rw[ba hl];exact hM' _ _ hkk hvr hM⟩)
     (fun _ N hN _ hx=>by
      obtain⟨_,_,en2,cl2,g1,_,_,g2⟩:=hx
      rw[hw]at g1
      cases g1
      exact⟨hvi,har,en',cl',World.putObj_heap_same hlt,hcl',hbn',by rw[ba hl];exact hM' _ _ hkk (hvr.cut N hN) g2⟩)
    rw[ba hl]at z1 z2
    exact⟨z1,z2⟩
   rcases mR hd hks es en.toList 0 r hM h1 with⟨rfl,p2⟩|⟨j,v1,e1,rfl,p2,p3,p4,p5,p6⟩
   ·obtain⟨z1,z2⟩:=fin (en.push {key:=kv,val:=vv,born:=cl}) (cl+1) (by simp[hcl]) (fun j e hj=>by
     rw[Pp]at hj
     split at hj
     ·cases hj;simp_all
     ·exact hbn j e hj) (fun w' σ hkk hv2 hM2=>by
     rw[Array.toList_push]
     exact re (e:={key:=kv,val:=vv,born:=cl}) hks hv1 (hv2.mono hkk (fun _ h=>h) (Map.le_refl _)) _ _ (hM2.mono hkk (fun _ h=>h) (Map.le_refl _)))
    refine⟨_,?_,rfl,z1,z2⟩
    unfold Instr.mapUpdate
    rw[hv,hke]
    simp only[Sem.run_bind,run_underlying hu,Result.andThen,MapKept.run_getObj_map hw,hck,MapKept.run_findKey huk p2,MapKept.run_setObj_map _ hw]
    rfl
   ·rw[OY]at p2 h1 hH
    have hj:en[j]?=some e1:=by simpa using p3
    obtain⟨z1,z2⟩:=fin (en.modify j fun e=>{e with key:=kv,val:=vv}) cl (by simp[hcl]) (fun i e hi=>by
     rw[Qm]at hi
     split at hi
     ·simp only[NP]at hi
      obtain⟨e0,h0,rfl⟩:=hi
      exact hbn i e0 h0
     ·exact hbn i e hi) (fun w' σ hkk hv2 hM2=>by
     rw[Array.toList_modify,OY]
     exact rh hks hv1 (hv2.mono hkk (fun _ h=>h) (Map.le_refl _)) j _ _ (hM2.mono hkk (fun _ h=>h) (Map.le_refl _)))
    refine⟨_,?_,rfl,z1,z2⟩
    have hks2:(Instr.keyThatStays kv kv).run C.P w=.ok kv w:=by unfold Instr.keyThatStays;rw[qG hks];rfl
    unfold Instr.mapUpdate
    rw[hv,hke]
    simp only[Sem.run_bind,run_underlying hu,Result.andThen,MapKept.run_getObj_map hw,hck,MapKept.run_findKey huk p2,hj,Oo,O2,p4,hks2,MapKept.run_setObj_map _ hw]
    rfl
  ·cases h
 ·cases h
theorem qa{t el:TypeId}{q:LK}{x k v:Operand}{x' k' v':bj}(hm:qV C.P t=some (q,el))(hx:aG x=some x')(hk:aG k=some k')(hvo:aG v=some v')(hr:HR C ρ F H w)(he:ER w F ρ e a.tmps)
 (h:nV q H (ev e k') (ev e v') (ev e x')=some (s,H')):aJ C (do Instr.mapUpdate t (a.eval x) (a.eval k) (a.eval v);pure .skip) ρ F H w s H':=by
 obtain⟨w',h1,rfl,h2,h3⟩:=zM hm hx hk hvo hr he h
 exact⟨undef,w',.inr ⟨by simp[h1,pure,Sem.run],rfl⟩,ρ,F,.undef _,h2,h3⟩
end
end
section
section
variable{C:Ctx}{ρ:Map}{F:Nat→Prop}{H H':ae}{w:World}{e:Env}{a:Act}{s c d:SV}
theorem iM:∀(en:List MapEntry) (es:List (SV×SV)),jG w F ρ en es→en.length=es.length
 |[],[],_=>rfl
 |_::en,(_,_)::es,⟨_,_,_,h⟩=>by simp[iM en es h]
 |[],_::_,h=>h.elim
 |_::_,[],h=>h.elim
theorem yB{ats:Array TypeId}{t0 kt el ty:TypeId}{x:Operand}{y:bj}(hx:aG x=some y)(h0:ats[0]?=some t0)(hu:C.P.underlying t0=some (.map kt el))(hr:HR C ρ F H w)(he:ER w F ρ e a.tmps)
 (h:oQ H (ev e y)=some s):aJ C (do pure (.value (←Builtin.len_ ats ty #[a.eval x]))) ρ F H w s H:=by
 have hv:=ar hx he
 unfold oQ at h
 split at h
 ·rename_i b hb
  split at h
  ·rename_i es hg
   cases h
   rw[hb]at hv
   obtain⟨l,en,cl,hl,hv,hvi,har,hw,hM,hcl,hbn⟩:=lK hr hv hg
   have hn:=iM _ _ hM
   refine aJ.val hr (val:=.int .i64 es.length) ?_ (.int _ _)
   unfold Builtin.len_
   simp only[h0]
   simp only[Pu,List.getElem?_cons_zero,Sem.run_bind,run_underlying hu,Result.andThen,hv,MapKept.run_getObj_map hw,goInt]
   have:en.size=es.length:=by simpa using hn
   rw[this]
   rfl
  ·cases h
 ·cases h
theorem uT{t kt el:TypeId}{x:Operand}{y:bj}(hx:aG x=some y)(hu:C.P.underlying t=some (.map kt el))(hr:HR C ρ F H w)(he:ER w F ρ e a.tmps)
 (h:jt H (ev e y)=some (s,H')):aJ C (do pure (.value (←Instr.range t (a.eval x)))) ρ F H w s H':=by
 have hv:=ar hx he
 unfold jt at h
 split at h
 ·rename_i b hb
  split at h
  ·rename_i es hg
   replace h:=af h
   obtain⟨hlen,h⟩:=h
   cases h
   rw[hb]at hv
   have hv0:=hv
   obtain⟨l0,en,cl,hl,hv,hvi,har,hw,hM,hcl,hbn⟩:=lK hr hv hg
   have hn:en.size=es.length:=by simpa using iM _ _ hM
   rw[hn]at hcl
   subst hcl
   let l:Loc:={bq:=w.heap.size,base:=0,cap:=0,bg:=0,bU:=0,aL:=false,arr:=false}
   let it:Obj:=.mapIter (some l0.bq) es.length #[] es.length
   have hh:∀B,B<w.heap.size→({w with heap:=w.heap.push it}:World).heap[B]?=w.heap[B]?:=fun B hB=>by simp[Pp,PB hB]
   have hne:ρ.le (ρ.put H.bl.length l):=fun b l' h=>⟨l',by rw[Map.aA _ _ (fun e=>by have:=hr.gY b l' h;omega)];exact h,.inl rfl⟩
   rw[hv]at hv0
   have hp:=hr.push (w':={w with heap:=w.heap.push it}) (by simp) hh (.iter b es.length 0) l (fun _=>⟨NV _,by simp[l]⟩)
    ⟨rfl,rfl,rfl,rfl,l0.bq,es.length,hv0.mono (fun B hB=>hh B (hr.fO B hB)) (fun _ h=>h) hne,by simp[l,it],fun _=>rfl⟩
   refine aJ.mZ (val:=.pointer (some ⟨w.heap.size,0,none⟩)) (w':={w with heap:=w.heap.push it}) ?_ ⟨_,F,.ptr (l:=l) (Map.aQ _ _ _) (NV _) rfl (fun _=>⟨rfl,rfl⟩),hp.1,hp.2⟩
   unfold Instr.range
   simp only[Sem.run_bind,run_underlying hu,Result.andThen,hv,MapKept.run_getObj_map hw]
   simp[newObj,Sem.run,it,pure]
  ·cases h
 ·cases h
theorem cX{P:Program}{w:World}{r:Nat}{m:Option Nat}{n k:Nat}{sn:Array Nat}(hb:w.heap[r]?=some (.mapIter m n sn k)):(getObj r).run P w=.ok (.mapIter m n sn k) w:=by
 simp[getObj,Sem.run,hb]
theorem mw{P:Program}{w:World}{r:Nat}{m:Option Nat}{n k:Nat}{sn:Array Nat}(o:Obj)(hb:w.heap[r]?=some (.mapIter m n sn k)):(setObj r o).run P w=.ok () (w.putObj r o):=by
 simp[setObj,Sem.run,hb,World.putObj]
theorem oh{P:Program}{w:World}{r m n k last ty:Nat}{es:Array MapEntry}{cl:Nat}(hi:w.heap[r]?=some (.mapIter (some m) n (Array.range k) last))(hm:w.heap[m]?=some (.map es cl))
 (hn:es.size=n) (hn1:n≤1) (hb:∀(j:Nat) e,es[j]?=some e→e.born=j) (hk:0<k→last=n) (h:n=0∨k=1):(Instr.next (.pointer (some ⟨r,0,none⟩)) false ty).run P w=.ok (.tuple #[.bool false]) w:=by
 have hf:∀(p:MapEntry→Bool),Array.filter p #[] 0 0= #[]:=fun _=>rfl
 rcases h with rfl|rfl
 ·have he:es= #[]:=Pn hn
  subst he
  unfold Instr.next
  simp only[Sem.run_bind,cX hi,Result.andThen,MapKept.run_getObj_map hm]
  simp[hf,choose,Sem.run,Question.forced,pure,Sem.run_bind,Result.andThen]
 ·have hl:=hk (by omega)
  subst hl
  have hr:Array.range 1= #[0]:=rfl
  rw[hr]at hi
  have h01:last=0∨last=1:=by omega
  rcases h01 with rfl|rfl
  ·have he:es= #[]:=Pn hn
   subst he
   unfold Instr.next
   simp only[Sem.run_bind,cX hi,Result.andThen,MapKept.run_getObj_map hm]
   simp[hf,choose,Sem.run,Question.forced,pure,Sem.run_bind,Result.andThen]
  ·obtain⟨e1,rfl⟩:=QU.1 hn
   have hb0:=hb 0 e1 (by simp)
   unfold Instr.next
   simp only[Sem.run_bind,cX hi,Result.andThen,MapKept.run_getObj_map hm]
   simp[hb0,choose,Sem.run,Question.forced,pure,Sem.run_bind,Result.andThen]
theorem pM{P:Program}{w:World}{r m last ty:Nat}{e1:MapEntry}{cl:Nat}(hi:w.heap[r]?=some (.mapIter (some m) 1 #[] last))(hm:w.heap[m]?=some (.map #[e1] cl))
 (hb:e1.born=0):(Instr.next (.pointer (some ⟨r,0,none⟩)) false ty).run P w=.ok (.tuple #[.bool true,e1.key,e1.val]) (w.putObj r (.mapIter (some m) 1 #[0] cl)):=by
 unfold Instr.next
 simp only[Sem.run_bind,cX hi,Result.andThen,MapKept.run_getObj_map hm]
 simp[hb,choose,Sem.run,Question.forced,mw _ hi,pure,Sem.run_bind,Result.andThen]
theorem xu{ty:Nat}{x:Operand}{y:bj}(hx:aG x=some y)(hr:HR C ρ F H w)(he:ER w F ρ e a.tmps)
 (h:lL H (ev e y)=some (s,H')):aJ C (do pure (.value (←Instr.next (a.eval x) false ty))) ρ F H w s H':=by
 have hv:=ar hx he
 unfold lL at h
 split at h
 ·rename_i i hb
  split at h
  ·rename_i b n k hg
   rw[hb]at hv
   obtain⟨l,hl,hvi,har,hbase,hver,m,last,hmv,hit,hlast⟩:=hr.live _ _ hg rfl
   have hp:a.eval x=.pointer (some ⟨l.bq,0,none⟩):=by
    cases hv with
    |ptr h hv hc ha=>
     rw[hl]at h;cases h
     have:=(ha hver.symm).2
     rw[this,hbase];simp
   unfold iu at h
   split at h
   ·rename_i es hgm
    replace h:=af h
    obtain⟨hc,h⟩:=h
    simp only[NX,O1,NY]at hc
    obtain⟨hn,hn1,hk1⟩:=hc
    obtain⟨l0,en,cl,hl0,hv0,hvi0,har0,hw0,hM,hcl,hbn⟩:=lK hr hmv hgm
    cases hv0
    have hsz:en.size=es.length:=by simpa using iM _ _ hM
    have BD:(n=0∨k=1)→(Instr.next (.pointer (some ⟨l.bq,0,none⟩)) false ty).run C.P w=.ok (.tuple #[.bool false]) w:=fun hh=>
     oh hit hw0 (by omega) hn1 hbn hlast hh
    rw[hp]
    split at h
    ·rename_i q v es'
     simp only[NP,N3]at h
     obtain⟨H1,hH,rfl,rfl⟩:=h
     simp only[Og]at hn hsz
     have hes:es'=[]:=by cases es' with|nil=>rfl|cons _ _=>simp at hn;omega
     subst hes
     simp only[Oc,OY]at hn hsz
     subst hn
     obtain⟨e1,rfl⟩:=QU.1 hsz
     obtain⟨k1,k2,k3,_⟩:=hM
     have hrun:=pM (P:=C.P) (ty:=ty) hit hw0 (hbn 0 e1 (by simp))
     have hlt:l.bq<w.heap.size:=(N8.1 hit).1
     have hown:Own ρ H i l:=⟨⟨_,hg,rfl⟩,hl,hvi⟩
     have hkeep:∀Bk,Bk≠l.bq→(w.putObj l.bq (.mapIter (some l0.bq) 1 #[0] cl)).heap[Bk]?=w.heap[Bk]?:=fun Bk hne=>World.putObj_heap_other hne
     have hkk:cK F w (w.putObj l.bq (.mapIter (some l0.bq) 1 #[0] cl)):=fun Bk hB=>hkeep Bk (fun e=>(hr.own _ _ hown).1 (e▸hB))
     have hcl1:cl=1:=by rw[hcl];rfl
     obtain⟨z1,z2⟩:=hr.set (w':=w.putObj l.bq (.mapIter (some l0.bq) 1 #[0] cl)) (l':=l) hH hg rfl hl (by simp) (fun Bk _ h=>hkeep Bk (h hvi)) (fun h=>.inl ⟨h,rfl⟩) (.inl rfl)
      (fun _=>⟨hvi,har,hbase,hver,l0.bq,cl,by rw[ba hl];exact hmv.mono hkk (fun _ h=>h) (Map.le_refl _),World.putObj_heap_same hlt,fun _=>hcl1⟩)
      (fun _ N hN _ _=>⟨hvi,har,hbase,hver,l0.bq,cl,by rw[ba hl];exact(hmv.cut N (by simpa[SV.refs]using hN)).mono hkk (fun _ h=>h) (Map.le_refl _),World.putObj_heap_same hlt,fun _=>hcl1⟩)
     rw[ba hl]at z1 z2
     refine aJ.mZ hrun ⟨ρ,F,.ax rfl (fun j c v hj hv=>?_),z1,z2⟩
     match j with
     |0=>simp at hj hv;subst hj;subst hv;exact .bool _
     |1=>simp at hj hv;subst hj;subst hv;exact vq k1
     |2=>simp at hj hv;subst hj;subst hv;exact k3.mono hkk (fun _ h=>h) (Map.le_refl _)
     |j+3=>simp at hj
    ·rename_i hno
     cases h
     have hh:n=0∨k=1:=by
      cases es with
      |nil=>exact .inl hn.symm
      |cons x r=>
       cases k with
       |zero=>exact(hno x.1 x.2 r rfl rfl).elim
       |succ k=>exact .inr (by omega)
     refine aJ.val hr (BD hh) (.ax rfl (fun j c v hj hv=>?_))
     match j with
     |0=>simp at hj hv;subst hj;subst hv;exact .bool _
     |j+1=>simp at hj
   ·cases h
  ·cases h
 ·cases h
theorem uo{x:Operand}{y:bj}(hx:aG x=some y)(hr:HR C ρ F H w)(he:ER w F ρ e a.tmps)
 (h:jk H (ev e y)=some s):aJ C (do pure (.value (←Instr.entry (a.eval x)))) ρ F H w s H:=by
 have hv:=ar hx he
 unfold jk at h
 split at h
 ·rename_i i hb
  split at h
  ·rename_i b n k hg
   rw[hb]at hv
   obtain⟨l,hl,hvi,har,hbase,hver,m,last,hmv,hit,hlast⟩:=hr.live _ _ hg rfl
   have hp:a.eval x=.pointer (some ⟨l.bq,0,none⟩):=by
    cases hv with
    |ptr h hv hc ha=>
     rw[hl]at h;cases h
     have:=(ha hver.symm).2
     rw[this,hbase];simp
   unfold iR at h
   split at h
   ·rename_i es hgm
    replace h:=af h
    obtain⟨hc,h⟩:=h
    simp only[NX,O1,NY]at hc
    obtain⟨hn,hn1,hk1⟩:=hc
    subst hk1
    obtain⟨l0,en,cl,hl0,hv0,hvi0,har0,hw0,hM,hcl,hbn⟩:=lK hr hmv hgm
    cases hv0
    have hsz:en.size=es.length:=by simpa using iM _ _ hM
    split at h
    ·rename_i q v es'
     cases h
     simp only[Og]at hn hsz
     have hes:es'=[]:=by cases es' with|nil=>rfl|cons _ _=>simp at hn;omega
     subst hes
     simp only[Oc,OY]at hn hsz
     subst hn
     obtain⟨e1,rfl⟩:=QU.1 hsz
     obtain⟨k1,k2,k3,_⟩:=hM
     have hb0:=hbn 0 e1 (by simp)
     have hl1:=hlast (by omega)
     subst hl1
     have hr1:Array.range 1= #[0]:=rfl
     rw[hr1]at hit
     have hcl1:cl=1:=by rw[hcl];rfl
     subst hcl1
     refine aJ.val hr (val:=.tuple #[e1.key,e1.val]) ?_ (.ax rfl (fun j c v hj hv=>?_))
     ·unfold Instr.entry
      rw[hp]
      simp only[Sem.run_bind,cX hit,Result.andThen,MapKept.run_getObj_map hw0]
      simp[hb0,pure,Sem.run,Sem.run_bind,Result.andThen,MapKept.run_getObj_map hw0]
     ·match j with
      |0=>simp at hj hv;subst hj;subst hv;exact vq k1
      |1=>simp at hj hv;subst hj;subst hv;exact k3
      |j+2=>simp at hj
    ·cases h
   ·cases h
  ·cases h
 ·cases h
theorem uR{t el:TypeId}{len:Nat}{x hi:Operand}{x' hi':bj}(hx:aG x=some x')(hh:dQ (some hi)=some (some hi'))(hu:C.P.underlying t=some (.array len el))(hn:eO C.P el=some 1)
 (hr:HR C ρ F H w) (he:ER w F ρ e a.tmps) (h:jB len H (ev e hi') (ev e x')=some s) :
 aJ C (do pure (.value (←Instr.sliceAt t (a.eval x) ((none:Option Operand).map a.eval) ((some hi).map a.eval) ((none:Option Operand).map a.eval)))) ρ F H w s H:=by
 have hv:=ar hx he
 unfold jB at h
 split at h
 ·rename_i b v o hb
  split at h
  ·rename_i cs hg
   replace h:=af h
   obtain⟨hlen,h⟩:=h
   simp only[NY]at hlen
   simp only[NP]at h
   obtain⟨m,hm,rfl⟩:=h
   rw[hb]at hv
   obtain⟨l,hl,hvi,har,hbase,hver,hesz,vs,ty,fz,hw,hfz,hsz,hcells⟩:=hr.live _ _ hg rfl
   have hp:a.eval x=.pointer (some ⟨l.bq,o,none⟩):=by
    cases hv with
    |ptr h hv hc ha=>
     rw[hl]at h;cases h
     have:=(ha (by omega)).2
     rw[this,hbase];simp
   obtain⟨_,hle,hrun⟩:=jq (C:=C) (w:=w) (isS:=false) (lo:=none) (lo':=none) (hi:=some hi) (hi':=some hi') (n:=len) (cap:=len) (h:=m) (l:=0) rfl hh he (NV len) (by simpa[eZ]using hm) rfl
   refine aJ.val hr (val:=.slice (some ⟨l.bq,o,none⟩) m len) ?_ (.pU hl har hle)
   unfold Instr.sliceAt
   simp only[Sem.run_bind,run_underlying hu,Result.andThen,hp,Instr.sureAddr,Sem.run_pure,hrun,aY hn]
   simp only[Qb,Oo]at hrun⊢
   simp[pure,Sem.run,Addr.add,Result.andThen,hrun]
  ·cases h
 ·cases h
end
end
section
section
variable{C:Ctx}{ρ:Map}{F:Nat→Prop}{H H':ae}{w:World}{e:Env}{a:Act}{s c d:SV}
theorem dV{A:Type}{c:Bool}{x:Option A}{y:A}(h:(bif c then none else x)=some y):c=false∧x=some y:=by
 cases c with
 |true=>cases h
 |false=>exact⟨rfl,h⟩
theorem map_fst{v:Option SV}(h:v.map (·,H)=some (s,H')):v=some s∧H=H':=by
 cases v with
 |none=>cases h
 |some v=>cases h;exact⟨rfl,rfl⟩
theorem oz{xs:Array Operand}{y:bj}(h:gn xs=some [y]):∃x,xs= #[x]∧aG x=some y:=by
 have h1:=lA h
 cases xs with
 |mk l=>
  match l,h1 with
  |[x],h1=>simp at h1;exact⟨x,rfl,h1⟩
  |[],h1=>simp at h1
  |_::_::_,h1=>simp at h1
theorem ou{xs:Array Operand}{y z:bj}(h:gn xs=some [y,z]):∃x x',xs= #[x,x']∧aG x=some y∧aG x'=some z:=by
 have h1:=lA h
 cases xs with
 |mk l=>
  match l,h1 with
  |[x,x'],h1=>simp at h1;exact⟨x,x',rfl,h1.1,h1.2⟩
  |[],h1=>simp at h1
  |[_],h1=>simp at h1
  |_::_::_::_,h1=>simp at h1
theorem nz{t el:TypeId}(h:jO C.P t=some el):C.P.underlying t=some (.slice el):=by
 unfold jO at h
 split at h
 ·cases h;assumption
 ·cases h
def uU:NK→Value→Option Bool
 | .p,.pointer p=>some p.isNone
 | .s,.slice b _ _=>some b.isNone
 | .f,.nilFunc=>some true
 | .f,.func _ _ _=>some false
 |_,_=>none
theorem kz{op:BinOp}{u:TypeDesc}{y:Operand}{x:bj}{op':jH}(h:rq op u y x=some op'):∃k neg,op'=.isNil k neg x:=by
 unfold rq at h
 split at h<;>first|(cases h;done)|(cases h;exact⟨_,_,rfl⟩)
theorem yz{P:Program}{d:Nat}{t el:TypeId}{p:Option Addr}(hu:P.underlying t=some (.pointer el)):(Op.equalIn (d+1) t (.pointer p) (.pointer none)).run P w=.ok p.isNone w:=by
 cases p<;>simp[Op.equalIn,run_underlying hu,Sem.run_bind,Result.andThen,pure,Sem.run]
theorem yx{P:Program}{d n c:Nat}{t el:TypeId}{p:Option Addr}(hu:P.underlying t=some (.slice el)):(Op.equalIn (d+1) t (.slice p n c) (.slice none 0 0)).run P w=.ok p.isNone w:=by
 cases p<;>simp[Op.equalIn,run_underlying hu,Sem.run_bind,Result.andThen,pure,Sem.run]
theorem tq{P:Program}{d:Nat}{t:TypeId}{ps rs vr}(hu:P.underlying t=some (.func ps rs vr)):(Op.equalIn (d+1) t .nilFunc .nilFunc).run P w=.ok true w∧∀f x y,(Op.equalIn (d+1) t (.func f x y) .nilFunc).run P w=.ok false w:=by
 constructor
 ·simp[Op.equalIn,run_underlying hu,Sem.run_bind,Result.andThen,pure,Sem.run]
 ·intro f x y
  simp[Op.equalIn,run_underlying hu,Sem.run_bind,Result.andThen,pure,Sem.run]
theorem pX{op:BinOp}{u:TypeDesc}{t:TypeId}{x y:Operand}{x':bj}{k:NK}{neg b:Bool}{v:Value}(h:rq op u y x'=some (.isNil k neg x'))(hu:C.P.underlying t=some u)(hb:uU k v=some b) :
 (do eqGuard op t x y v (a.eval y);binOp op t v (a.eval y):Sem Value).run C.P w=.ok (.bool (neg ^^ b)) w:=by
 have hm:Op.maxDepth=9999+1:=rfl
 unfold rq at h
 split at h<;>first|(cases h;done)|skip
 all_goals
  cases h
  cases v<;>simp only[uU,N1,reduceCtorEq]at hb
 all_goals
  subst hb
  simp only[Act.eval,eqGuard,binOp,Op.equal,hm,Sem.run_bind]
  first
  |(simp[yz hu,Sem.run_bind,Result.andThen,pure,Sem.run];done)
  |(simp[yx hu,Sem.run_bind,Result.andThen,pure,Sem.run];done)
  |(simp[(tq hu).1,(tq hu).2,Sem.run_bind,Result.andThen,pure,Sem.run];done)
theorem xB(hr:HR C ρ F H w){k:NK}{b:Bool}{v:Value}(hs:eA H k c=some b)(hv:VR w F ρ c v):uU k v=some b:=by
 unfold eA at hs
 split at hs
 ·cases hs;cases hv;rfl
 ·replace hs:=af hs
  obtain⟨hc,hs⟩:=hs
  cases hs
  obtain⟨l,hl,_,_,hv2⟩:=pN hr hc hv
  subst hv2
  rfl
 ·cases hs;cases hv;rfl
 ·cases hs;cases hv;rfl
 ·cases hs;cases hv;rfl
 ·cases hs;cases hv;rfl
 ·rename_i z L f
  cases hL:L.isEmpty with
  |true=>rw[hL]at hs;cases hs
  |false=>
   rw[hL]at hs
   cases hs
   cases hv with
   |aB V hcap hfull hz hat h1 hv=>
    rcases hat with h0|⟨B,o,ha,_⟩
    ·subst h0;cases hL
    ·subst ha;rfl
 ·rename_i b' v' off n
  replace hs:=af hs
  obtain⟨hc,hs⟩:=hs
  simp only[NX,NY]at hc
  cases hs
  obtain⟨l,z2,L2,ex2,hl,hb2,hbr,g1,g2⟩:=dh hr hc.1 hv
  cases hvi:l.aL with
  |true=>obtain⟨q,p1,p2,p3⟩:=g1 hvi;omega
  |false=>
   obtain⟨p1,q,p2,p3⟩:=g2 hvi
   have:=p3 (by omega)
   subst this
   subst p2
   rfl
 ·cases hs
theorem wq{op:BinOp}{u:TypeDesc}{t:TypeId}{x y:Operand}{x':bj}{k:NK}{neg b:Bool}(h:rq op u y x'=some (.isNil k neg x'))(hu:C.P.underlying t=some u)(hx:aG x=some x')
 (hr:HR C ρ F H w) (he:ER w F ρ e a.tmps) (hs:eA H k (ev e x')=some b):aJ C (do let v←(do eqGuard op t x y (a.eval x) (a.eval y);binOp op t (a.eval x) (a.eval y));pure (.value v)) ρ F H w (.bool (neg ^^ b)) H:=
 aJ.val hr (pX h hu (xB hr hs (ar hx he))) (.bool _)
theorem tM{o:Oper}{op':jH}(h:lQ C.P o.op=some op')(hr:HR C ρ F H w)(he:ER w F ρ e a.tmps)(hs:bu e H op'=some (s,H')):aJ C (execOp a.eval o) ρ F H w s H':=by
 unfold lQ at h
 split at h
 case h_1 x ho=>
  simp only[NP]at h
  obtain⟨y,hy,rfl⟩:=h
  simp only[bu,N1,N3]at hs
  obtain⟨rfl,rfl⟩:=hs
  simp only[execOp,ho]
  exact vo hy hr he
 case h_2 x ho=>
  simp only[NP]at h
  obtain⟨y,hy,rfl⟩:=h
  simp only[bu,N1,N3]at hs
  obtain⟨rfl,rfl⟩:=hs
  simp only[execOp,ho]
  exact vo hy hr he
 case h_3 c x y ho=>
  split at h
  ·rename_i c' x' y' h1 h2 h3
   cases h
   obtain⟨h4,rfl⟩:=map_fst hs
   simp only[execOp,ho]
   exact yu h1 h2 h3 hr he h4
  ·cases h
 case h_4 t ho=>
  simp only[NP]at h
  obtain⟨z,hz,rfl⟩:=h
  simp only[bu,N1,N3]at hs
  obtain⟨rfl,rfl⟩:=hs
  simp only[execOp,ho]
  exact wk hz hr
 case h_5 t x ho=>
  simp only[NP]at h
  obtain⟨y,hy,rfl⟩:=h
  simp only[bu,NP,N3]at hs
  obtain⟨cs,h1,rfl,rfl⟩:=hs
  simp only[execOp,ho]
  exact Cw hy hr he h1
 case h_6 t ps ho=>
  split at h
  ·rename_i z ps' h1 h2
   cases h
   simp only[bu,NP,N3]at hs
   obtain⟨r,h3,rfl,rfl⟩:=hs
   simp only[execOp,ho]
   exact vI h1 h2 hr he h3
  ·cases h
 case h_7 t n ps ho=>
  split at h
  ·rename_i el hel
   split at h
   ·rename_i z zs ps' h1 h2 h3
    replace h:=af h
    obtain⟨hc,h⟩:=h
    cases h
    simp only[NX,NY,O1]at hc
    simp only[bu,NP,N3]at hs
    obtain⟨r,h4,rfl,rfl⟩:=hs
    simp only[execOp,ho]
    exact uQ hel h1 h2 h3 hc.1 hc.2 hr he h4
   ·cases h
  ·cases h
 case h_8 t x ho=>
  split at h
  ·rename_i ag n y h1 h2 h3
   cases h
   obtain⟨h4,rfl⟩:=map_fst hs
   simp only[execOp,ho]
   exact yN h1 h2 h3 hr he h4
  ·cases h
 case h_9 t x y ho=>
  split at h
  ·rename_i n x' y' h1 h2 h3
   cases h
   simp only[bu,NP,N3]at hs
   obtain⟨H1,h4,rfl,rfl⟩:=hs
   simp only[execOp,ho]
   exact vR h1 h2 h3 hr he h4
  ·cases h
 case h_10 x ho=>
  simp only[NP]at h
  obtain⟨y,hy,rfl⟩:=h
  exact u6 hy hr he o ho hs
 case h_11 bo t x y yt ho=>
  simp only[execOp,ho]
  split at h
  ·rename_i x' y' h1 h2
   have aggs:∀(op:BinOp) (neg:Bool),((op=.eql∧neg=false)∨(op=.neq∧neg=true))→gZ C.P t=some true→(bif C.P.eqGuardType C.P.depth t then none else(dK C.P 6 t).map (.fN neg · x' y'))=some op'→bu e H op'=some (s,H')→
    aJ C (do let v←(do eqGuard op t x y (a.eval x) (a.eval y);binOp op t (a.eval x) (a.eval y));pure (.value v)) ρ F H w s H':=by
    intro op neg c0 hag h hs
    replace h:=dV h
    obtain⟨hm,h⟩:=h
    simp only[NP]at h
    obtain⟨sh,hsh,rfl⟩:=h
    simp only[bu]at hs
    split at hs
    ·rename_i cs ds k1 k2
     simp only[NP,N3]at hs
     obtain⟨r,k3,rfl,rfl⟩:=hs
     exact wQ c0 h1 h2 hm hsh hag hr he k1 k2 k3
    ·cases hs
   split at h
   ·rename_i hu
    exact aggs .eql false (.inl ⟨rfl,rfl⟩) (by simp[gZ,hu]) h hs
   ·rename_i hu
    exact aggs .neq true (.inr ⟨rfl,rfl⟩) (by simp[gZ,hu]) h hs
   ·rename_i hu
    exact aggs .eql false (.inl ⟨rfl,rfl⟩) (by simp[gZ,hu]) h hs
   ·rename_i hu
    exact aggs .neq true (.inr ⟨rfl,rfl⟩) (by simp[gZ,hu]) h hs
   ·cases h
    obtain⟨h4,rfl⟩:=map_fst hs
    exact vm h1 h2 hr he h4
   ·rename_i hu
    cases h
    obtain⟨h4,rfl⟩:=map_fst hs
    exact yd h1 h2 hr he hu h4
   ·cases h
    obtain⟨h4,rfl⟩:=map_fst hs
    exact vm h1 h2 hr he h4
   ·rename_i u hu
    obtain⟨k,neg,rfl⟩:=kz h
    simp only[bu,NP,N3]at hs
    obtain⟨b,k1,rfl,rfl⟩:=hs
    exact wq h hu h1 hr he k1
   ·cases h
  ·cases h
 case h_12 t x ho=>
  simp only[NP]at h
  obtain⟨y,hy,rfl⟩:=h
  simp only[bu]at hs
  split at hs
  ·rename_i b hb
   cases hs
   simp only[execOp,ho]
   exact zD (t:=t) hy hr he hb
  ·cases hs
 case h_13 t x ho=>
  split at h
  ·simp only[NP]at h
   obtain⟨y,hy,rfl⟩:=h
   simp only[bu]at hs
   split at hs
   ·rename_i k n hb
    cases hs
    simp only[execOp,ho]
    exact x8 hy hr he hb
   ·cases hs
  ·cases h
 case h_14 sr ds x ho=>
  simp only[execOp,ho]
  split at h
  ·cases h
  ·rename_i y hy
   split at h
   ·rename_i j k h1 h2
    cases h
    simp only[bu]at hs
    split at hs
    ·rename_i k' n hb
     cases hs
     exact wO hy h1 h2 hr he hb
    ·cases hs
   ·rename_i h1 h2
    cases h
    simp only[bu]at hs
    split at hs
    ·rename_i b hb
     cases hs
     exact wL hy h1 h2 hr he hb
    ·cases hs
   ·rename_i el h1 h2
    split at h
    ·rename_i h3 h4
     cases h
     simp only[bu,NS,NP,N3]at hs
     obtain⟨L,k1,l,k2,rfl,rfl⟩:=hs
     exact ve hy h1 h3 h2 hr he k1 k2
    ·cases h
   ·rename_i el h1 h2
    split at h
    ·rename_i h3 h4
     cases h
     simp only[bu]at hs
     split at hs
     ·rename_i b hb
      cases hs
      obtain⟨val,w',k1,k2⟩:=u3 hy h1 h3 h2 hr he hb
      exact aJ.mZ k1 k2
     ·cases hs
    ·cases h
   ·cases h
 case h_15 f fs cs ho=>
  rw[cond_eq_ite]at h
  split at h
  ·rename_i hc
   simp only[NP]at h
   obtain⟨ys,hy,rfl⟩:=h
   simp only[bu,N1,N3]at hs
   obtain⟨rfl,rfl⟩:=hs
   simp only[execOp,ho]
   exact yj hc hy hr he
  ·replace h:=af h
   obtain⟨hc,h⟩:=h
   simp only[NP]at h
   obtain⟨ys,hy,rfl⟩:=h
   simp only[bu,N1,N3]at hs
   obtain⟨rfl,rfl⟩:=hs
   simp only[execOp,ho]
   exact vF hc hy hr he
 case h_16 t l c ho=>
  split at h
  ·rename_i el hel
   split at h
   ·rename_i i z l' c' h1 h2 h3 h4
    replace h:=dV h
    obtain⟨hb,h⟩:=h
    replace h:=af h
    obtain⟨hz,h⟩:=h
    cases h
    simp only[Bool.or_eq_false_iff,Pr,O1]at hb hz
    have hu:C.P.underlying t=some (.slice el):=by
     unfold jO at hel
     split at hel
     ·cases hel;assumption
     ·cases hel
    simp only[bu]at hs
    obtain⟨val,w',r1,r2⟩:=rR hu h1 h2 hz (by omega) (by omega) hr (ar h3 he) (ar h4 he) hs
    simp only[execOp,ho]
    exact aJ.mZ r1 r2
   ·cases h
  ·cases h
 case h_17 t x lo hi mx ho=>
  simp only[execOp,ho]
  split at h
  ·rename_i x' lo' hi' mx' h1 h2 h3 h4
   split at h
   ·rename_i el hu
    split at h
    ·rename_i n hn
     replace h:=dV h
     obtain⟨hb,h⟩:=h
     cases h
     simp only[bu]at hs
     replace hs:=af hs
     obtain⟨hc,hs⟩:=hs
     obtain⟨h5,rfl⟩:=map_fst hs
     rcases orElse_some h5 with h5|h5
     rotate_left
     ·exact uH h1 h2 h3 h4 hu hn hr he hc h5
     refine uK h1 h2 h3 h4 hu hn hr he hc (fun hm=>?_) h5
     cases hi' with
     |some v=>rfl
     |none=>rw[hm]at hb;cases hb
    ·cases h
   ·rename_i hu
    split at h
    ·rename_i hm
     cases h
     have:mx=none:=by
      cases mx with
      |none=>rfl
      |some v=>simp[dQ]at h4
     subst this
     simp only[bu]at hs
     split at hs
     ·rename_i b hb
      obtain⟨h5,rfl⟩:=map_fst hs
      exact uz h1 h2 h3 hu hr he hb h5
     ·cases hs
    ·cases h
   ·rename_i len el hu
    split at h
    ·rename_i hi1
     replace h:=af h
     obtain⟨hn,h⟩:=h
     cases h
     have hlo:lo=none:=by cases lo with|none=>rfl|some v=>simp[dQ]at h2
     have hmx:mx=none:=by cases mx with|none=>rfl|some v=>simp[dQ]at h4
     obtain⟨hiv,rfl⟩:∃v,hi=some v:=by cases hi with|none=>simp[dQ]at h3|some v=>exact⟨v,rfl⟩
     subst hlo hmx
     obtain⟨h5,rfl⟩:=map_fst hs
     exact uR h1 h3 hu (by simpa using hn) hr he h5
    ·cases h
   ·cases h
  ·cases h
 case h_18 t x f ho=>
  simp only[execOp,ho]
  split at h
  ·rename_i x' f' h1 h2
   split at h
   ·rename_i n h3
    cases h
    simp only[bu]at hs
    replace hs:=af hs
    obtain⟨hc,hs⟩:=hs
    obtain⟨h5,rfl⟩:=map_fst hs
    simp only[NS]at h2
    obtain⟨fs,h6,h7⟩:=h2
    exact wg h1 h6 h7 h3 hr he hc h5
   ·cases h
  ·cases h
 case h_19 t x f ho=>
  simp only[execOp,ho]
  split at h
  ·rename_i x' f' h1 h2
   split at h
   ·rename_i ag n h3 h4
    cases h
    simp only[bu]at hs
    split at hs
    ·rename_i cs hc
     obtain⟨h5,rfl⟩:=map_fst hs
     simp only[NS]at h2
     obtain⟨fs,h6,h7⟩:=h2
     exact xU h1 h6 h7 h3 h4 hr he hc h5
    ·cases hs
   ·cases h
  ·cases h
 case h_20 t x ix ho=>
  simp only[execOp,ho]
  split at h
  ·rename_i x' i' h1 h2
   split at h
   ·rename_i el hu
    split at h
    ·rename_i n hn
     cases h
     simp only[bu]at hs
     replace hs:=af hs
     obtain⟨hc,hs⟩:=hs
     obtain⟨h5,rfl⟩:=map_fst hs
     exact ur h1 h2 hu hn hr he hc h5
    ·cases h
   ·rename_i len el hu
    split at h
    ·rename_i n hn
     cases h
     simp only[bu]at hs
     replace hs:=af hs
     obtain⟨hc,hs⟩:=hs
     simp only[NS]at hs
     obtain⟨i,h3,hs⟩:=hs
     obtain⟨h5,rfl⟩:=map_fst hs
     exact vb h1 h2 hu hn hr he hc h3 h5
    ·cases h
   ·cases h
  ·cases h
 case h_21 t x ix ho=>
  simp only[execOp,ho]
  split at h
  ·rename_i x' i' h1 h2
   split at h
   ·rename_i len el hu
    split at h
    ·rename_i ag n h3 h4
     cases h
     simp only[bu]at hs
     split at hs
     ·rename_i cs hc
      simp only[NS]at hs
      obtain⟨i,h6,hs⟩:=hs
      obtain⟨h5,rfl⟩:=map_fst hs
      exact uf h1 h2 hu h3 h4 hr he hc h6 h5
     ·cases hs
    ·cases h
   ·rename_i hu
    cases h
    simp only[bu]at hs
    split at hs
    ·rename_i b hc
     simp only[NS,NP,N3]at hs
     obtain⟨i,h6,y,h7,rfl,rfl⟩:=hs
     exact uM h1 h2 hu hr he hc h6 h7
    ·cases hs
   ·cases h
  ·cases h
 case h_22 x i ho=>
  simp only[NP]at h
  obtain⟨y,hy,rfl⟩:=h
  simp only[bu]at hs
  split at hs
  ·rename_i vs hb
   obtain⟨h4,rfl⟩:=map_fst hs
   simp only[execOp,ho]
   exact sH hy hr he hb h4
  ·cases hs
 case h_23 c ho=>
  unfold lZ at h
  split at h
  ·split at h
   ·cases h;cases hs
   ·cases h
  ·cases h
  ·rename_i b hb
   have hx:∃cs,execOp a.eval o=builtin b c.argTypes o.type cs (c.args.map a.eval):=⟨_,by simp only[execOp,ho,resolve,hb];rfl⟩
   obtain⟨cs,hx⟩:=hx
   rw[hx]
   split at h
   ·cases h
   ·rename_i xs hxs
    split at h
    ·rename_i y
     obtain⟨x,hx1,hy⟩:=oz hxs
     rw[hx1]
     simp only[QE,Ov,PG]
     split at h
     ·rename_i hu
      cases h
      simp only[NS]at hu
      obtain⟨t0,h0,hu⟩:=hu
      simp only[bu]at hs
      split at hs
      ·rename_i b hbb
       cases hs
       exact zb (ty:=o.type) hy h0 hu hr he hbb
      ·cases hs
     ·rename_i el hu
      cases h
      simp only[NS]at hu
      obtain⟨t0,h0,hu⟩:=hu
      simp only[bu]at hs
      replace hs:=af hs
      obtain⟨hc,hs⟩:=hs
      rw[NP]at hs
      obtain⟨n,h1,hs⟩:=hs
      cases hs
      exact zr (ty:=o.type) hy h0 hu hr he hc h1
     ·rename_i n el hu
      cases h
      simp only[NS]at hu
      obtain⟨t0,h0,hu⟩:=hu
      simp only[bu,N1,N3]at hs
      obtain⟨rfl,rfl⟩:=hs
      exact yH (ty:=o.type) h0 hu hr
     ·rename_i kt el hu
      cases h
      simp only[NS]at hu
      obtain⟨t0,h0,hu⟩:=hu
      obtain⟨h4,rfl⟩:=map_fst hs
      exact yB (ty:=o.type) hy h0 hu hr he h4
     ·cases h
    ·split at h
     ·cases h
      obtain⟨h1,rfl⟩:=map_fst hs
      exact AO hxs hr he h1
     ·cases h
    ·split at h
     ·cases h
      obtain⟨h1,rfl⟩:=map_fst hs
      exact Bo hxs hr he h1
     ·cases h
    ·rename_i y z
     obtain⟨x,x',hx1,hy,hy'⟩:=ou hxs
     rw[hx1]
     simp only[QE,Ov,PG]
     split at h
     ·rename_i el el' h1 h2
      split at h
      ·rename_i i hi
       replace h:=dV h
       obtain⟨hb,h⟩:=h
       simp only[Bool.or_eq_false_iff,Pr]at hb
       split at h
       ·rename_i zl hzl
        replace h:=af h
        obtain⟨hz,h⟩:=h
        cases h
        simp only[O1]at hz
        simp only[NS]at h1 h2
        obtain⟨t0,h0,h1⟩:=h1
        obtain⟨t1,h3,h2⟩:=h2
        obtain⟨i',v,hi',hv,k1,k2⟩:=fe (w:=w) (F:=F) (ρ:=ρ) hzl
        rw[hi]at hi';cases hi'
        simp only[bu,NS]at hs
        obtain⟨X,hX,hs⟩:=hs
        have hT:yV C.P c.argTypes el i.size i v:=⟨⟨t0,h0,nz h1⟩,⟨t1,el',h3,h2⟩,hi,rfl,hv,by omega,by omega,by omega⟩
        obtain⟨val,w',r1,r2⟩:=tW hT (ty:=o.type) hr (ar hy he) (ar hy' he) hX hs
        exact aJ.mZ r1 r2
       ·cases h
      ·cases h
     ·cases h
    ·rename_i y z
     obtain⟨x,x',hx1,hy,hy'⟩:=ou hxs
     rw[hx1]
     simp only[QE,Ov,PG]
     split at h
     ·rename_i el el' h1 h2
      split at h
      ·rename_i n hn
       cases h
       simp only[NS]at h1 h2
       obtain⟨t0,h0,h1⟩:=h1
       simp only[bu,NS]at hs
       obtain⟨X,hX,hs⟩:=hs
       obtain⟨val,w',r1,r2⟩:=ya (ty:=o.type) h0 (nz h1) hn (by omega) hr (ar hy he) (ar hy' he) hX hs
       exact aJ.mZ r1 r2
      ·cases h
     ·cases h
    ·rename_i y
     obtain⟨x,hx1,hy⟩:=oz hxs
     rw[hx1]
     simp only[QE,Ov,PG]
     split at h
     ·rename_i el h1
      split at h
      ·rename_i zh zt hz
       cases h
       simp only[NS]at h1
       obtain⟨t0,h0,h1⟩:=h1
       simp only[bu]at hs
       obtain⟨val,w',r1,r2⟩:=v8 (ty:=o.type) h0 (nz h1) hz (by simp) hr (ar hy he) hs
       exact aJ.mZ r1 r2
      ·cases h
     ·cases h
    ·cases h
 case h_24 t ho=>
  cases h
  simp only[bu,N1,N3]at hs
  obtain⟨rfl,rfl⟩:=hs
  simp only[execOp,ho]
  exact vp hr t
 case h_25 t m k v ho=>
  simp only[execOp,ho]
  split at h
  ·rename_i q el m' k' v' h1 h2 h3 h4
   cases h
   simp only[bu]at hs
   exact qa h1 h2 h3 h4 hr he hs
  ·cases h
 case h_26 t m k v ho=>
  simp only[execOp,ho]
  split at h
  ·rename_i q el m' k' v' h1 h2 h3 h4
   cases h
   simp only[bu]at hs
   exact qa h1 h2 h3 h4 hr he hs
  ·cases h
 case h_27 t m k ok ho=>
  simp only[execOp,ho]
  split at h
  ·rename_i q el m' k' h1 h2 h3
   simp only[NP]at h
   obtain⟨z,hz,rfl⟩:=h
   simp only[bu]at hs
   exact vC h1 hz h2 h3 hr he hs
  ·cases h
 case h_28 t x ho=>
  simp only[execOp,ho]
  split at h
  ·rename_i kt el x' hu h1
   cases h
   simp only[bu]at hs
   exact uT h1 hu hr he hs
  ·cases h
 case h_29 x ho=>
  simp only[NP]at h
  obtain⟨y,hy,rfl⟩:=h
  simp only[execOp,ho]
  simp only[bu]at hs
  exact xu hy hr he hs
 case h_30 x ho=>
  simp only[NP]at h
  obtain⟨y,hy,rfl⟩:=h
  simp only[execOp,ho]
  obtain⟨h4,rfl⟩:=map_fst hs
  exact uo hy hr he h4
 case h_31=>cases h
end
end
section
abbrev WF(ro:Option Nat):Fence:={fn:=fun _=>True,depth:=none,alive:=false,round:=ro}
def fp(w:World)(F:Nat→Prop)(ρ:Map)(xs:List SV)(args:Array Value):Prop:=xs.length=args.size∧∀(j:Nat) c v,xs[j]?=some c→args[j]?=some v→VR w F ρ c v
def vS(C:Ctx)(rec:Rec):Prop:=∀f xs H v H',rec (.fn f) xs H=some (v,H')→∀(ρ:Map) (F:Nat→Prop) (w:World) (args:Array Value),HR C ρ F H w→fp w F ρ xs args→
 (callFunc f args).run C.P w=.ok (.enter f args) w∧∀n,CallsIn Fence.wide n C.P f args w (fun e w'=>∃val,e=.returned val∧cN C ρ F H w v H' val w')
def Aj(C:Ctx)(rec:Rec):Prop:=∀b xs H v H',rec (.lT b) xs H=some (v,H')→∀(ρ:Map) (F:Nat→Prop) (w:World) (args:Array Value) (l:Loc),HR C ρ F H w→fp w F ρ xs args→ρ b=some l→
 ∃f tmps as1 bd,(Instr.yield l.bq args).run C.P w=.ok (.round l.bq f tmps as1 bd) w∧∀n,RoundIn Fence.wide n C.P l.bq f tmps as1 bd w (fun e w'=>∃val,e=.returned val∧cN C ρ F H w v H' val w')
def wW(C:Ctx)(rec:Rec):Prop:=∀f xs H v H',rec (.n8 f) xs H=some (v,H')→∀(ρ:Map) (F:Nat→Prop) (w:World) (args:Array Value),HR C ρ F H w→fp w F ρ xs args→
 (callFunc f args).run C.P w=.ok (.enter f args) w∧∀n,CallsIn Fence.wide n C.P f args w (fun e w'=>∃val,e=.returned val∧cN C ρ F H w v H' val w')
structure eP(C:Ctx)(rec:Rec):Prop where
 call:vS C rec
 KB:wW C rec
 lT:Aj C rec
section
variable{C:Ctx}{ρ:Map}{F:Nat→Prop}{H H':ae}{w:World}{e:Env}{a:Act}{s c d:SV}
theorem jg{xs ys:List SV}{vs ws:Array Value}(h:fp w F ρ xs vs)(h':fp w F ρ ys ws):fp w F ρ (xs++ys) (vs++ws):=by
 refine⟨by simp[h.1,h'.1],fun j c v hc hv=>?_⟩
 rw[Pa]at hc
 rw[Array.getElem?_append]at hv
 rw[h.1]at hc
 split at hc
 ·rename_i hlt
  rw[if_pos hlt]at hv
  exact h.2 j c v hc hv
 ·rename_i hlt
  rw[if_neg hlt]at hv
  exact h'.2 _ c v hc hv
theorem eU{o:Oper}{op:jH}(h:lQ C.P o.op=some op):∀c,o.op≠.defer c:=by
 intro c hc
 rw[hc]at h
 simp[lQ]at h
theorem na{P:Program}{o:Op}{f:bj}{xs:List bj}(h:lQ P o=some (.call f xs)):∃c,o=.call c∧lZ P c=some (.call f xs):=by
 unfold lQ at h
 split at h
 case h_23 c=>exact⟨c,rfl,h⟩
 all_goals (repeat' split at h)
 all_goals (first|(cases h;done)|(obtain⟨_,_,h2⟩:=kz h;cases h2;done)|(simp[NP,cond_eq_ite]at h;done)|(simp only[cond_eq_ite]at h;repeat' split at h;all_goals (first|(cases h;done)|(simp[NP]at h;done))))
theorem y6{P:Program}{o:Op}{f:FuncId}{m:Nat}{xs:List bj}(h:lQ P o=some (.dL f m xs)):False:=by
 unfold lQ at h
 split at h
 case h_23 c=>
  unfold lZ at h
  repeat' split at h
  all_goals (first|(cases h;done)|(simp[NP,cond_eq_ite]at h;done)|(repeat' split at h) )
  all_goals (first|(cases h;done)|(simp[NP,cond_eq_ite]at h;done))
 all_goals (repeat' split at h)
 all_goals (first|(cases h;done)|(obtain⟨_,_,h2⟩:=kz h;cases h2;done)|(simp[NP,cond_eq_ite]at h;done)|(simp only[cond_eq_ite]at h;repeat' split at h;all_goals (first|(cases h;done)|(simp[NP]at h;done))))
theorem zB{P:Program}{o:Op}{f:FuncId}{xs:List bj}(h:lQ P o=some (.l7 f xs)):False:=by
 unfold lQ at h
 split at h
 case h_23 c=>
  unfold lZ at h
  repeat' split at h
  all_goals (first|(cases h;done)|(simp[NP,cond_eq_ite]at h;done)|(repeat' split at h) )
  all_goals (first|(cases h;done)|(simp[NP,cond_eq_ite]at h;done))
 all_goals (repeat' split at h)
 all_goals (first|(cases h;done)|(obtain⟨_,_,h2⟩:=kz h;cases h2;done)|(simp[NP,cond_eq_ite]at h;done)|(simp only[cond_eq_ite]at h;repeat' split at h;all_goals (first|(cases h;done)|(simp[NP]at h;done))))
theorem jX{P:Program}{c:Call}{f:bj}{xs:List bj}(h:lZ P c=some (.call f xs)):∃g,c.callee=.value g∧aG g=some f∧gn c.args=some xs:=by
 unfold lZ at h
 split at h
 ·rename_i g hg
  split at h
  ·rename_i f' xs' h1 h2
   cases h
   exact⟨g,hg,h1,h2⟩
  ·cases h
 ·cases h
 ·exfalso
  repeat' split at h
  all_goals (first|(cases h;done)|(simp[NP,cond_eq_ite]at h;done)|(repeat' split at h) )
  all_goals (first|(cases h;done)|(simp[NP,cond_eq_ite]at h;done))
theorem w8{rec:Rec}(hrec:eP C rec){o:Oper}{f:FuncId}{m:Nat}{xs:List bj}(c0:lQ C.P o.op=some (.call (.c (.fn f [])) xs))(hs:rec (.n8 f) (xs.map (ev e)) H=some (s,H'))(hr:HR C ρ F H w)(he:ER w F ρ e a.tmps)
 {ro:Option Nat} {n:Nat} {K:Act→World→Prop} {Q:Exit→Act→World→Prop} (hK:∀val w',cN C ρ F H w s H' val w'→K (a.put o.dst val) w'):o.wpIn (WF ro) n C.P a w K Q:=by
 refine⟨fun _ _=>trivial,?_⟩
 rw[Oper.semAt_eq _ _ _ (eU c0)]
 obtain⟨c,ho,hcc⟩:=na c0
 obtain⟨g,hg,hf,hxs⟩:=jX hcc
 obtain⟨hn,hv⟩:=gm hxs he
 have hargs:fp w F ρ (xs.map (ev e)) (c.args.map a.eval):=⟨by simpa using hn,hv⟩
 have hgv:=ar hf he
 simp only[ev]at hgv
 have hx0:execOp a.eval o=(do let d←Deferred.ofValue (a.eval g) (c.args.map a.eval);invoke d.target d.args):=by
  simp only[execOp,ho,resolve,hg]
 generalize hgval:a.eval g=gv at *
 cases hgv with
 |fn hn2 hv2=>
  rename_i vs
  have hvs:vs= #[]:=Pn (by simpa using hn2.symm)
  subst hvs
  obtain⟨h1,h2⟩:=hrec.KB _ _ _ _ _ hs ρ F w _ hr hargs
  rw[hx0]
  have hx:(do let d←Deferred.ofValue (Value.func (.func f) #[] #[]) (c.args.map a.eval);invoke d.target d.args:Sem Next)=callFunc f (c.args.map a.eval):=by
   simp[Deferred.ofValue,invoke]
  rw[hx,h1]
  refine⟨fun h=>by simp at h,CallsIn.mono (h2 _) (fun e' w' he'=>?_)⟩
  obtain⟨val,rfl,hd⟩:=he'
  exact hK val w' hd
theorem vB{rec:Rec}(hrec:eP C rec){o:Oper}{op:jH}(c0:lQ C.P o.op=some op)(hs:ai rec e H op=some (s,H'))(hr:HR C ρ F H w)(he:ER w F ρ e a.tmps)
 {ro:Option Nat} {n:Nat} {K:Act→World→Prop} {Q:Exit→Act→World→Prop} (hK:∀val w',cN C ρ F H w s H' val w'→K (a.put o.dst val) w'):o.wpIn (WF ro) n C.P a w K Q:=by
 refine⟨fun _ _=>trivial,?_⟩
 rw[Oper.semAt_eq _ _ _ (eU c0)]
 by_cases hc:∃f xs,op=.call f xs
 ·obtain⟨f,xs,rfl⟩:=hc
  obtain⟨c,ho,hcc⟩:=na c0
  obtain⟨g,hg,hf,hxs⟩:=jX hcc
  obtain⟨hn,hv⟩:=gm hxs he
  have hargs:fp w F ρ (xs.map (ev e)) (c.args.map a.eval):=⟨by simpa using hn,hv⟩
  have hgv:=ar hf he
  simp only[ai]at hs
  unfold jP at hs
  have key:∀(S:Sem Next),(execOp a.eval o)=(do let d←Deferred.ofValue (a.eval g) (c.args.map a.eval);invoke d.target d.args):=fun _=>by
   simp only[execOp,ho,resolve,hg]
  split at hs
  ·rename_i f' cs hfn
   rw[hfn]at hgv
   generalize hgval:a.eval g=gv at *
   cases hgv with
   |fn hn2 hv2=>
    rename_i vs
    have ha:=jg hargs ⟨hn2,hv2⟩
    obtain⟨h1,h2⟩:=hrec.call _ _ _ _ _ hs ρ F w _ hr ha
    rw[key (execOp a.eval o)]
    have hx:(do let d←Deferred.ofValue (Value.func (.func f') #[] vs) (c.args.map a.eval);invoke d.target d.args:Sem Next)=callFunc f' (c.args.map a.eval++vs):=by
     simp[Deferred.ofValue,invoke]
    rw[hx,h1]
    refine⟨fun h=>by simp at h,CallsIn.mono (h2 _) (fun e' w' he'=>?_)⟩
    obtain⟨val,rfl,hd⟩:=he'
    exact hK val w' hd
  ·rename_i f' cs hfn
   rw[hfn]at hgv
   generalize hgval:a.eval g=gv at *
   cases hgv with
   |oI hn2 hv2=>
    rename_i vs
    have ha:=jg ⟨hn2,hv2⟩ hargs
    obtain⟨h1,h2⟩:=hrec.call _ _ _ _ _ hs ρ F w _ hr ha
    rw[key (execOp a.eval o)]
    have hx:(do let d←Deferred.ofValue (Value.func (.func f') vs #[]) (c.args.map a.eval);invoke d.target d.args:Sem Next)=callFunc f' (vs++c.args.map a.eval):=by
     simp[Deferred.ofValue,invoke]
    rw[hx,h1]
    refine⟨fun h=>by simp at h,CallsIn.mono (h2 _) (fun e' w' he'=>?_)⟩
    obtain⟨val,rfl,hd⟩:=he'
    exact hK val w' hd
  ·rename_i b hfn
   rw[hfn]at hgv
   generalize hgval:a.eval g=gv at *
   cases hgv with
   |lT h ha=>
    rename_i l
    obtain⟨f',tmps,as1,bd,h1,h2⟩:=hrec.lT _ _ _ _ _ hs ρ F w _ l hr hargs h
    rw[key (execOp a.eval o)]
    have hx:(do let d←Deferred.ofValue (Value.func (.yield l.bq) #[] #[]) (c.args.map a.eval);invoke d.target d.args:Sem Next)=Instr.yield l.bq (c.args.map a.eval):=by
     simp[Deferred.ofValue,invoke]
    rw[hx,h1]
    refine⟨fun h=>by simp at h,RoundIn.mono (h2 _) (fun e' w' he'=>?_)⟩
    obtain⟨val,rfl,hd⟩:=he'
    exact hK val w' hd
  ·cases hs
 ·have hs':bu e H op=some (s,H'):=by
   unfold ai at hs
   split at hs
   ·exact absurd ⟨_,_,rfl⟩ hc
   ·rename_i f m xs
    exfalso
    exact y6 c0
   ·rename_i f xs
    exfalso
    exact zB c0
   ·exact hs
  obtain⟨val,w',h1,h2⟩:=tM c0 hr he hs'
  rcases h1 with h1|⟨h1,rfl⟩
  ·rw[h1];exact hK _ _ h2
  ·rw[h1];exact hK _ _ h2
end
end
section
section
variable{C:Ctx}
theorem HR.IB{ρ:Map}{F:Nat→Prop}{H H1:ae}{w:World}(hr:HR C ρ F H w){b:Nat}{x:aj}{l:Loc}{refs:Nat}(hH:bT H b .dead refs=some H1)(hb:H.bl[b]?=some x)(hx:x.live=true)(hl:ρ b=some l)(hnl:∀r st p,x≠.loop r st p) :
 HR C ρ (fun B=>F B∨(l.aL=false∧B=l.bq)) H1 w∧Ext C ρ F H w ρ (fun B=>F B∨(l.aL=false∧B=l.bq)) H1 w:=by
 obtain⟨p1,p2⟩:=hr.set (w':=w) (l':=l) (y:=.dead) hH hb hx hl (NV _) (fun _ _ _=>rfl) (fun h=>.inl ⟨h,rfl⟩) (.inl rfl) (fun h=>by cases h) (fun h=>by cases h) (fun⟨r,st,p,h⟩=>absurd h (hnl r st p))
 rw[ba hl]at p1 p2
 have hro:H.ro≤b∧b<H.bl.length∧H1.bl=H.bl.set b .dead:=by
  unfold bT at hH
  replace hH:=af hH
  obtain⟨h1,h2⟩:=hH
  simp at h1
  cases h2
  exact⟨h1.1,h1.2,rfl⟩
 have hown:∀b' l1,Own ρ H1 b' l1→b'≠b∧Own ρ H b' l1:=by
  intro b' l1 ⟨⟨y,hy,hyl⟩,hm,hv⟩
  have hne:b'≠b:=by
   intro e
   subst e
   rw[hro.2.2]at hy
   simp[hro.2.1]at hy
   subst hy;cases hyl
  rw[hro.2.2,N7 (Ne.symm hne)]at hy
  exact⟨hne,⟨y,hy,hyl⟩,hm,hv⟩
 refine⟨⟨p1.gY,fun b' y hy hyl=>?_,p1.apart,fun b' l1 ho=>⟨fun h=>?_,(p1.own b' l1 ho).2⟩,fun B hB=>?_⟩,?_⟩
 ·obtain⟨l1,h1,h2⟩:=p1.live b' y hy hyl
  exact⟨l1,h1,h2.mono (fun _ _=>rfl) (fun _ h=>.inl h) (Map.le_refl _) (fun _=>rfl)⟩
 ·rcases h with h|⟨hv,h⟩
  ·exact(p1.own b' l1 ho).1 h
  ·obtain⟨h1,h2⟩:=hown b' l1 ho
   exact h1 (hr.apart b' b l1 l h2 ⟨⟨x,hb,hx⟩,hl,hv⟩ h)
 ·rcases hB with h|⟨hv,h⟩
  ·exact p1.fO B h
  ·rw[h];exact(hr.own b l ⟨⟨x,hb,hx⟩,hl,hv⟩).2
 ·refine⟨⟨p2.map,fun _ h=>.inl h,fun B hB=>?_,p2.frame,p2.size,p2.old,p2.ro,p2.bC,fun N hN hc h0 b' y l1 hb1 hy hyl hm=>(p2.inv N hN hc h0 b' y l1 hb1 hy hyl hm).mono (fun _ _=>rfl) (fun _ h=>.inl h) (Map.le_refl _) (fun _=>rfl),p2.lp,p2.ln,p2.out⟩,p2.nd⟩
  rcases hB with h|⟨hv,h⟩
  ·exact .inl h
  ·exact .inr (.inr ⟨b,l,⟨⟨x,hb,hx⟩,hl,hv⟩,hro.1,h.symm⟩)
theorem tY{ρ ρ':Map}{F F':Nat→Prop}{H:ae}{w:World}(hr:HR C ρ F H w){b bU off n z:Nat}{L:List (List SV)}{ex:Bool}{val:Value}{l:Loc}(hv:VR w F ρ (.bG b bU off n) val)(hb:az H b=some (.arr bU z L ex))(hle:off+n≤L.length)
 (h0:SV.refs.au ((L.drop off).take n).flatten=0) (hl:ρ b=some l) (hFF:∀B,F B→F' B) (hF:l.aL=false→F' l.bq):VR w F' ρ' (.aB z ((L.drop off).take n) false) val:=by
 obtain⟨l',z',L',ex',hl',hb',hbr,g1,g2⟩:=dh hr (by unfold cur;simp[hb]) hv
 rw[hb]at hb';cases hb'
 rw[hl]at hl';cases hl'
 obtain⟨b1,b2,b3,b4,b5,b6,b7,b8⟩:=hbr
 have hlen:((L.drop off).take n).length=n:=by simp;omega
 have az:∀(i:Nat) cs,((L.drop off).take n)[i]?=some cs→i<n∧L[off+i]?=some cs:=by
  intro i cs hi
  rw[Ob]at hi
  split at hi
  ·rw[Ou]at hi;exact⟨by assumption,hi⟩
  ·cases hi
 cases hvi:l.aL with
 |true=>
  obtain⟨q,rfl,rfl,rfl⟩:=g1 hvi
  have:VR w F' ρ' (.aB z [] false) (.slice q ([]:List (List SV)).length 0):=.aB (fun _ _=>undef) (NV _) (fun _=>rfl) (by simp) (.inl rfl) (by simp) (by simp)
  simpa using this
 |false=>
  obtain⟨g3,q,rfl,g4⟩:=g2 hvi
  obtain⟨vs,ty,fz,k1,k2,k3,k4⟩:=b8 hvi
  have hcell:∀(i j:Nat) cs c,((L.drop off).take n)[i]?=some cs→cs[j]?=some c→∃v,vs[l.base+(off+i)*z+j]?=some v∧VR w F ρ c v∧c.gU=true:=fun i j cs c hi hj=>k4 _ cs (az i cs hi).2 j c hj
  have hq:VR w F' ρ' (.aB z ((L.drop off).take n) false) (.slice q ((L.drop off).take n).length (l.cap-off)):=by
   refine .aB (fun i j=>vs.getD (l.base+(off+i)*z+j) undef) (by omega) (fun h=>by cases h) (fun i cs hi=>b4 _ cs (az i cs hi).2) ?_ (fun i j cs c hi hj=>?_) (fun i j cs c hi hj=>?_)
   ·by_cases hn:n=0
    ·left;subst hn;simp
    ·right
     refine⟨l.bq,l.base+off*z,?_,hF hvi,fun i j cs c hi hj=>?_⟩
     ·rw[g4 (by omega),b3]
     ·obtain⟨v,h1,_⟩:=hcell i j cs c hi hj
      rw[ku k1,show l.base+off*z+i*z+j=l.base+(off+i)*z+j by rw[Ox];omega,h1]
      rw[O4,h1];rfl
   ·obtain⟨v,h1,h2,h3⟩:=hcell i j cs c hi hj
    exact h3
   ·obtain⟨v,h1,h2,h3⟩:=hcell i j cs c hi hj
    rw[O4,h1]
    have hm:c∈((L.drop off).take n).flatten:=QD.2 ⟨cs,Ok hi,Ok hj⟩
    obtain⟨m,hm⟩:=OD hm
    have h5:=dT (PF h0) m c hm
    have h6:=h2.cut 0 h5
    have:ρ.cut 0=cO:=by funext b;simp[Map.cut]
    rw[this]at h6
    exact h6.mono (fun _ _=>rfl) hFF (Map.le_refl _)
  rw[hlen]at hq
  exact hq
theorem zg{ρ:Map}{F:Nat→Prop}{w:World}{N:Nat}(hdom:∀b l,ρ b=some l→b<N):ρ.cut N=ρ:=by
 funext b
 unfold Map.cut
 split
 ·rfl
 ·rename_i h
  cases hb:ρ b with
  |none=>rfl
  |some l=>exact absurd (hdom b l hb) h
theorem zp(ρ:Map){N M:Nat}(h:M≤N):(ρ.cut N).cut M=ρ.cut M:=by
 funext b
 unfold Map.cut
 by_cases hb:b<M
 ·simp[hb,show b<N by omega]
 ·simp[hb]
structure wi(N:Nat)(H0 H H1:ae):Prop where
 le:N≤H.bl.length
 clean:Clean N H.bC
 bl:H1.bl=H.bl.take N
 KU:∀p∈H0.bC,p∈H1.bC
 Kb:∀p∈H.bC,p.1<N→p∈H1.bC
 ro:H1.ro=H0.ro
theorem jR{N:Nat}{H0 H H1:ae}(h:du N H0 H=some H1):wi N H0 H H1:=by
 unfold du at h
 replace h:=af h
 obtain⟨hc,h⟩:=h
 cases h
 simp only[NX,NY]at hc
 refine⟨hc.1,fun p hp=>?_,rfl,fun p hp=>Pj _ hp,fun p hp hl=>P6 _ (Pf.2 ⟨hp,by simpa using hl⟩),rfl⟩
 have:=N5.1 hc.2 p hp
 simp only[Ot,QT,Ow]at this
 omega
theorem HR.du{ρ0 ρ:Map}{F0 F:Nat→Prop}{H0 H H1:ae}{w0 w:World}{N:Nat}(hr0:HR C ρ0 F0 H0 w0)(hN:H0.bl.length=N)(hr:HR C ρ F H w)(hx:Ext C ρ0 F0 H0 w0 ρ F H w)(ht:wi N H0 H H1) :
 HR C (ρ.cut N) F H1 w∧Ext C ρ0 F0 H0 w0 (ρ.cut N) F H1 w:=by
 have hlen:H1.bl.length=N:=by rw[ht.bl,PW];exact Pb ht.le
 have az:∀(b:Nat) x,H1.bl[b]?=some x→b<N∧H.bl[b]?=some x:=by
  intro b x hb
  rw[ht.bl,Ob]at hb
  split at hb
  ·exact⟨by assumption,hb⟩
  ·cases hb
 have hcut:∀b l,ρ.cut N b=some l→b<N∧ρ b=some l:=by
  intro b l hb
  unfold Map.cut at hb
  split at hb
  ·exact⟨by assumption,hb⟩
  ·cases hb
 have hown:∀b l,Own (ρ.cut N) H1 b l→Own ρ H b l:=by
  intro b l ⟨⟨x,hx,hxl⟩,hm,hv⟩
  exact⟨⟨x,(az b x hx).2,hxl⟩,(hcut b l hm).2,hv⟩
 have hinv:wh C N ρ F H w:=hx.inv N ht.le ht.clean (fun _ b x l hb hbx hxl hl=>by
  rw[zg (F:=F0) (w:=w0) (fun b l h=>hN▸hr0.gY b l h)]
  obtain⟨l',h1,h2⟩:=hr0.live b x hbx hxl
  rw[hl]at h1;cases h1
  exact h2)
 refine⟨⟨fun b l hb=>by rw[hlen];exact(hcut b l hb).1,fun b x hb hxl=>?_,fun b b' l l' h h' e=>hr.apart b b' l l' (hown b l h) (hown b' l' h') e,fun b l ho=>hr.own b l (hown b l ho),hr.fO⟩,?_⟩
 ·obtain⟨h1,h2⟩:=az b x hb
  obtain⟨l,h3,_⟩:=hr.live b x h2 hxl
  exact⟨l,by unfold Map.cut;rw[if_pos h1];exact h3,hinv b x l h1 h2 hxl h3⟩
 ·refine⟨⟨fun b l hb=>?_,hx.fO,hx.new,hx.frame,hx.size,fun b l ho=>hx.old b l (hown b l ho),ht.ro,ht.KU,fun M hM hc h0 b x l hb hbx hxl hl=>?_,hx.lp,by rw[hlen];omega,hx.out⟩,fun b l hb=>hx.nd b l (hcut b l hb).2⟩
  ·obtain⟨l',h1,h2⟩:=hx.map b l hb
   have:=hr0.gY b l hb
   exact⟨l',by unfold Map.cut;rw[if_pos (by omega)];exact h1,h2⟩
  ·rw[hlen]at hM
   rw[zp ρ hM]
   refine hx.inv M (O0 hM ht.le) (fun p hp hpc=>?_) h0 b x l hb (az b x hbx).2 hxl (hcut b l hl).2
   exact hc p (ht.Kb p hp (by omega)) hpc
end
section
variable{C:Ctx}{ρ ρ0 ρ':Map}{F F0 F':Nat→Prop}{H H0 H' H1:ae}{w w0 w':World}
theorem Ext.enter(hr:HR C ρ F H w)(h:Ext C ρ F {bl:=H.bl,bC:=[],ro:=min H.ro H.bl.length} w ρ' F' H' w')(e1:H1.bl=H'.bl)(e2:H1.bC=H.bC++H'.bC)(e3:H1.ro=H.ro):Ext C ρ F H w ρ' F' H1 w':=by
 have hlt:∀b l,Own ρ {bl:=H.bl,bC:=[],ro:=min H.ro H.bl.length} b l→Own ρ H b l∧b<H.bl.length:=fun b l ho=>⟨ho,hr.gY b l ho.2.1⟩
 have hown:∀b l,Own ρ' H1 b l→Own ρ' H' b l:=fun b l ⟨⟨x,hx,hxl⟩,hm,hv⟩=>⟨⟨x,e1▸hx,hxl⟩,hm,hv⟩
 refine⟨⟨fun b l hb=>?_,h.fO,fun B hB=>?_,fun B hB hno=>h.frame B hB (fun b l ho hm=>hno b l ho (by have:=(hlt b l ho).2;simp only at hm;omega)),h.size,fun b l ho=>h.old b l (hown b l ho),e3,fun p hp=>?_,fun N hN hc h0 b x l hb hx hxl hl=>?_,h.lp,e1▸h.ln,h.out⟩,h.nd⟩
 ·obtain⟨l',h1,h2⟩:=h.map b l hb
  refine⟨l',h1,h2.imp id (fun⟨a,c⟩=>⟨?_,c⟩)⟩
  have:=hr.gY b l hb
  simp only at a
  omega
 ·rcases h.new B hB with h1|h1|⟨b,l,h1,h2,h3⟩
  ·exact .inl h1
  ·exact .inr (.inl h1)
  ·have:=(hlt b l h1).2
   exact .inr (.inr ⟨b,l,h1,by simp only at h2;omega,h3⟩)
 ·rw[e2];exact Pj _ hp
 ·rw[e1]at hx hN
  exact h.inv N hN (fun p hp=>hc p (by rw[e2];exact P6 _ hp)) h0 b x l hb hx hxl hl
theorem HR.bl(hr:HR C ρ F H w)(e1:H1.bl=H.bl):HR C ρ F H1 w:=
 ⟨fun b l h=>e1▸hr.gY b l h,fun b x hb hx=>hr.live b x (e1▸hb) hx,fun b b' l l' h h' e=>hr.apart b b' l l' (by obtain⟨⟨x,h1,h2⟩,h3⟩:=h;exact⟨⟨x,e1▸h1,h2⟩,h3⟩) (by obtain⟨⟨x,h1,h2⟩,h3⟩:=h';exact⟨⟨x,e1▸h1,h2⟩,h3⟩) e,
  fun b l h=>hr.own b l (by obtain⟨⟨x,h1,h2⟩,h3⟩:=h;exact⟨⟨x,e1▸h1,h2⟩,h3⟩),hr.fO⟩
theorem mn(hr0:HR C ρ0 F0 H0 w0)(hr:HR C ρ F H w)(hx:Ext C ρ0 F0 {bl:=H0.bl,bC:=[],ro:=min H0.ro H0.bl.length} w0 ρ F H w)(ht:du H0.bl.length H0 H=some H1) :
 HR C (ρ.cut H0.bl.length) F H1 w∧Ext C ρ0 F0 H0 w0 (ρ.cut H0.bl.length) F H1 w:=by
 have hts:=jR ht
 unfold Go.Sh.du at ht
 replace ht:=af ht
 obtain⟨hc,ht⟩:=ht
 cases ht
 have hT:wi H0.bl.length {bl:=H0.bl,bC:=[],ro:=min H0.ro H0.bl.length} H {bl:=H.bl.take H0.bl.length,bC:=H.bC.filter (fun p=>decide (p.1<H0.bl.length)),ro:=min H0.ro H0.bl.length}:=
  ⟨hts.le,hts.clean,rfl,(fun _ h=>by cases h),fun p hp hl=>Pf.2 ⟨hp,by simpa using hl⟩,rfl⟩
 obtain⟨p1,p2⟩:=HR.du (H0:={bl:=H0.bl,bC:=[],ro:=min H0.ro H0.bl.length}) (hr0.bl rfl) rfl hr hx hT
 exact⟨p1.bl rfl,p2.enter hr0 rfl rfl rfl⟩
theorem HR.more(hr:HR C ρ F H w)(hFF:∀B,F B→F' B)(h:∀B,F' B→F B∨(B<w.heap.size∧∀b l,Own ρ H b l→l.bq≠B)):HR C ρ F' H w:=
 ⟨hr.gY,fun b x hb hx=>let⟨l,h1,h2⟩:=hr.live b x hb hx;⟨l,h1,h2.mono (fun _ _=>rfl) hFF (Map.le_refl _) (fun _=>rfl)⟩,hr.apart,
  fun b l ho=>⟨fun hF=>(h _ hF).elim (hr.own b l ho).1 (fun h1=>h1.2 b l ho rfl),(hr.own b l ho).2⟩,fun B hB=>(h B hB).elim (hr.fO B) (·.1)⟩
theorem Ext.more(hx:Ext C ρ0 F0 H0 w0 ρ F H w)(hFF:∀B,F B→F' B)(h:∀B,F' B→F B∨w0.heap.size≤B):Ext C ρ0 F0 H0 w0 ρ F' H w:=
 ⟨⟨hx.map,fun B hB=>hFF B (hx.fO B hB),fun B hB=>(h B hB).elim (hx.new B) (fun h=>.inr (.inl h)),hx.frame,hx.size,hx.old,hx.ro,hx.bC,
   fun N hN hc h0 b x l hb hxx hxl hl=>(hx.inv N hN hc h0 b x l hb hxx hxl hl).mono (fun _ _=>rfl) hFF (Map.le_refl _) (fun _=>rfl),hx.lp,hx.ln,hx.out⟩,hx.nd⟩
theorem HR.other(hr:HR C ρ F H w)(hx:Ext C ρ0 F0 H0 w0 ρ F H w)(hs:w'.heap.size=w.heap.size)(ho':w'.os=w.os∧w'.output=w.output)
 (hh:∀B,(F B∨(∃b l,Own ρ H b l∧l.bq=B)∨B<w0.heap.size)→w'.heap[B]?=w.heap[B]?):HR C ρ F H w'∧Ext C ρ0 F0 H0 w0 ρ F H w':=by
 have hk:cK F w w':=fun B hB=>hh B (.inl hB)
 have ho:∀b l x,H.bl[b]?=some x→x.live=true→ρ b=some l→l.aL=false→w'.heap[l.bq]?=w.heap[l.bq]?:=fun b l x h1 h2 h3 h4=>hh _ (.inr (.inl ⟨b,l,⟨⟨x,h1,h2⟩,h3,h4⟩,rfl⟩))
 refine⟨⟨hr.gY,fun b x hb hxl=>?_,hr.apart,fun b l h=>⟨(hr.own b l h).1,hs▸(hr.own b l h).2⟩,fun B hB=>hs▸hr.fO B hB⟩,?_⟩
 ·obtain⟨l,h1,h2⟩:=hr.live b x hb hxl
  exact⟨l,h1,h2.mono hk (fun _ h=>h) (Map.le_refl _) (fun hv=>ho b l x hb hxl h1 hv)⟩
 ·refine⟨⟨hx.map,hx.fO,hx.new,fun B hB hno=>(hh B (.inr (.inr hB))).trans (hx.frame B hB hno),hs▸hx.size,hx.old,hx.ro,hx.bC,fun N hN hc h0 b x l hb hxx hxl hl=>?_,fun B q hq=>?_,hx.ln,⟨ho'.1.trans hx.out.1,ho'.2.trans hx.out.2⟩⟩,hx.nd⟩
  ·exact(hx.inv N hN hc h0 b x l hb hxx hxl hl).mono hk (fun _ h=>h) (Map.le_refl _) (fun hv=>ho b l x hxx hxl hl hv)
  ·obtain⟨q',h1⟩:=hx.lp B q hq
   exact⟨q',(hh B (.inr (.inr (N8.1 hq).1))).trans h1⟩
theorem tG{N:Nat}:∀(d:Nat) {v v':SV},eg N H d v=some v'→v.gU=true→v'.gU=true
 |0,v,v',h,_=>by simp[eg]at h
 |d+1,v,v',h,h1=>by
  unfold eg at h
  split at h
  ·cases h1
  ·cases h1
  ·rename_i b bU off n
   cases hb:decide (b<N)with
   |true=>rw[hb]at h;cases h;rfl
   |false=>
    rw[hb]at h
    simp only[Oa]at h
    split at h
    ·replace h:=af h
     obtain⟨_,h⟩:=h
     simp only[NS]at h
     obtain⟨L',_,h⟩:=h
     replace h:=af h
     cases h.2;rfl
    ·cases h
  ·cases h;rfl
  ·cases h;rfl
  ·cases h;rfl
  ·replace h:=af h
   cases h.2;exact h1
theorem su{N:Nat}(hr:HR C ρ F H w)(hFF:∀B,F B→F' B)(hF:∀b l,Own ρ H b l→N≤b→F' l.bq):∀(d:Nat) {v v':SV} {val:Value},eg N H d v=some v'→VR w F ρ v val→VR w F' (ρ.cut N) v' val
 |0,v,v',val,h,_=>by simp[eg]at h
 |d+1,v,v',val,h,hv=>by
  have ih:=fun{v v' val}=>su hr hFF hF d (v:=v) (v':=v') (val:=val)
  have small:∀{v:SV} {val:Value},v.refs≤N→VR w F ρ v val→VR w F' (ρ.cut N) v val:=fun h1 h2=>(h2.cut N h1).mono (fun _ _=>rfl) hFF (Map.le_refl _)
  unfold eg at h
  split at h
  ·rename_i cs
   simp only[NP]at h
   obtain⟨cs',h1,rfl⟩:=h
   obtain⟨hl,hp⟩:=cY h1
   cases hv with
   |agg hn h1' hv'=>
    have hj:∀(j:Nat) c',cs'[j]?=some c'→∃c,cs[j]?=some c∧eg N H d c=some c':=fun j c' hj=>by
     have hlt:=(NT.1 hj).1
     have hc:cs[j]?=some cs[j]:=N4 (by omega)
     exact⟨_,hc,hp j _ _ hc hj⟩
    refine .agg (by omega) (fun j c' hjc=>?_) (fun j c' v hjc hjv=>?_)
    ·obtain⟨c,k1,k2⟩:=hj j c' hjc
     exact tG d k2 (h1' j c k1)
    ·obtain⟨c,k1,k2⟩:=hj j c' hjc
     exact ih k2 (hv' j c v k1 hjv)
  ·rename_i cs
   simp only[NP]at h
   obtain⟨cs',h1,rfl⟩:=h
   obtain⟨hl,hp⟩:=cY h1
   cases hv with
   |ax hn hv'=>
    refine .ax (by omega) (fun j c' v hjc hjv=>?_)
    have hlt:=(NT.1 hjc).1
    have hc:cs[j]?=some cs[j]:=N4 (by omega)
    exact ih (hp j _ _ hc hjc) (hv' j _ v hc hjv)
  ·rename_i b bU off n
   cases hb:decide (b<N)with
   |true=>
    rw[hb]at h;cases h
    exact small (by simp only[SV.refs];simp at hb;omega) hv
   |false=>
    rw[hb]at h
    simp only[Ow,Nat.not_lt]at hb
    simp only[Oa]at h
    split at h
    ·rename_i ver' z L ex hbl
     replace h:=af h
     obtain⟨hc,h⟩:=h
     simp only[NX,O1,NY]at hc
     obtain⟨rfl,hle⟩:=hc
     simp only[NS]at h
     obtain⟨L',hL',h⟩:=h
     replace h:=af h
     obtain⟨h0,h⟩:=h
     cases h
     have h0:SV.refs.au L'.flatten=0:=by simpa using h0
     obtain⟨hl1,hp⟩:=cY hL'
     obtain⟨l,z',L2,ex',hl',hb',hbr,g1,g2⟩:=dh hr (by unfold cur;simp[hbl]) hv
     rw[hbl]at hb';cases hb'
     obtain⟨b1,b2,b3,b4,b5,b6,b7,b8⟩:=hbr
     have hlen:L'.length=n:=by rw[hl1];simp;omega
     have az:∀(i:Nat) cs',L'[i]?=some cs'→∃cs,L[off+i]?=some cs∧cs'.length=cs.length∧∀(j:Nat) c',cs'[j]?=some c'→∃c,cs[j]?=some c∧eg N H d c=some c':=by
      intro i cs' hi
      have hlt:=(NT.1 hi).1
      have hsrc:((L.drop off).take n)[i]?=some ((L.drop off).take n)[i]:=N4 (by omega)
      obtain⟨k1,k2⟩:=cY (hp i _ _ hsrc hi)
      refine⟨((L.drop off).take n)[i],?_,k1,fun j c' hj=>?_⟩
      ·rw[←hsrc,Ob,if_pos (by omega),Ou]
      ·have hlt':=(NT.1 hj).1
       have hcj:(((L.drop off).take n)[i])[j]?=some _:=N4 (by omega)
       exact⟨_,hcj,k2 j _ _ hcj hj⟩
     cases hvi:l.aL with
     |true=>
      obtain⟨q,rfl,rfl,rfl⟩:=g1 hvi
      have:L'=[]:=Pe hlen
      subst this
      have:VR w F' (ρ.cut N) (.aB z [] (ex&&0+0==L.length)) (.slice q ([]:List (List SV)).length 0):=.aB (fun _ _=>undef) (NV _) (fun _=>rfl) (by simp) (.inl rfl) (by simp) (by simp)
      simpa using this
     |false=>
      obtain⟨g3,q,rfl,g4⟩:=g2 hvi
      obtain⟨vs,ty,fz,k1,k2,k3,k4⟩:=b8 hvi
      have hcell:∀(i j:Nat) cs' c',L'[i]?=some cs'→cs'[j]?=some c'→∃v,vs[l.base+(off+i)*z+j]?=some v∧VR w F' (ρ.cut N) c' v∧c'.gU=true:=by
       intro i j cs' c' hi hj
       obtain⟨cs,h1,_,h3⟩:=az i cs' hi
       obtain⟨c,h4,h5⟩:=h3 j c' hj
       obtain⟨v,h6,h7,h8⟩:=k4 _ cs h1 j c h4
       exact⟨v,h6,ih h5 h7,tG d h5 h8⟩
      have hFl:F' l.bq:=hF b l ⟨⟨_,hbl,rfl⟩,hl',hvi⟩ hb
      have hq:VR w F' (ρ.cut N) (.aB z L' (ex&&off+n==L.length)) (.slice q L'.length (l.cap-off)):=by
       refine .aB (fun i j=>vs.getD (l.base+(off+i)*z+j) undef) (by omega) (fun h=>by
        simp only[NX,O1]at h
        have:=b6 h.1
        omega) (fun i cs' hi=>?_) ?_ (fun i j cs' c' hi hj=>?_) (fun i j cs' c' hi hj=>?_)
       ·obtain⟨cs,h1,h2,_⟩:=az i cs' hi
        rw[h2];exact b4 _ cs h1
       ·by_cases hn:n=0
        ·left;exact Pe (by omega)
        ·right
         refine⟨l.bq,l.base+off*z,?_,hFl,fun i j cs' c' hi hj=>?_⟩
         ·rw[g4 (by omega),b3]
         ·obtain⟨v,h1,_⟩:=hcell i j cs' c' hi hj
          rw[ku k1,show l.base+off*z+i*z+j=l.base+(off+i)*z+j by rw[Ox];omega,h1]
          rw[O4,h1];rfl
       ·obtain⟨v,h1,h2,h3⟩:=hcell i j cs' c' hi hj
        exact h3
       ·obtain⟨v,h1,h2,h3⟩:=hcell i j cs' c' hi hj
        rw[O4,h1]
        have hm:c'∈L'.flatten:=QD.2 ⟨cs',Ok hi,Ok hj⟩
        obtain⟨m,hm⟩:=OD hm
        have h6:=h2.cut 0 (dT (PF h0) m c' hm)
        have:(ρ.cut N).cut 0=cO:=by funext b;simp[Map.cut]
        rw[this]at h6
        exact h6
      rw[hlen]at hq
      exact hq
    ·cases h
  ·cases h;exact small (PO _) hv
  ·cases h;exact small (PO _) hv
  ·cases h;exact small (PO _) hv
  ·replace h:=af h
   obtain⟨h1,h⟩:=h
   cases h
   exact small (by simpa using h1) hv
theorem s9{ρ:Map}{N:Nat}{H H1:ae}(hb:H1.bl=H.bl.take N):∀b l,Own (ρ.cut N) H1 b l→Own ρ H b l:=by
 intro b l ⟨⟨x,hx,hxl⟩,hm,hv⟩
 rw[hb,Ob]at hx
 unfold Map.cut at hm
 split at hx
 ·rename_i hlt
  rw[if_pos hlt]at hm
  exact⟨⟨x,hx,hxl⟩,hm,hv⟩
 ·cases hx
theorem kR{keep:Bool}{v v1:SV}{val:Value}(hr0:HR C ρ0 F0 H0 w0)(hr:HR C ρ F H w)(hx:Ext C ρ0 F0 {bl:=H0.bl,bC:=[],ro:=min H0.ro H0.bl.length} w0 ρ F H w)(hv:VR w F ρ v val)
 (h:cW keep H0 v H=some (v1,H1)):cN C ρ0 F0 H0 w0 v1 H1 val w:=by
 unfold cW at h
 cases keep with
 |true=>
  cases h
  exact⟨ρ,F,hv,hr.bl rfl,hx.enter hr0 rfl rfl rfl⟩
 |false=>
  simp only[Oa,NS,NP,N3]at h
  obtain⟨v2,hf,H2,ht,rfl,rfl⟩:=h
  obtain⟨p1,p2⟩:=mn hr0 hr hx ht
  have hts:=jR ht
  refine⟨_,fun B=>F B∨∃b l,Own ρ H b l∧H0.bl.length≤b∧l.bq=B,su hr (fun _ h=>.inl h) (fun b l ho hb=>.inr ⟨b,l,ho,hb,rfl⟩) _ hf hv,p1.more (fun _ h=>.inl h) (fun B hB=>?_),p2.more (fun _ h=>.inl h) (fun B hB=>?_)⟩
  ·rcases hB with h|⟨b,l,ho,hb,rfl⟩
   ·exact .inl h
   ·refine .inr ⟨(hr.own b l ho).2,fun b' l' ho' e=>?_⟩
    have h1:=hr.apart b' b l' l (s9 hts.bl b' l' ho') ho e
    have h2:=ho'.2.1
    unfold Map.cut at h2
    split at h2
    ·omega
    ·cases h2
  ·rcases hB with h|⟨b,l,ho,hb,rfl⟩
   ·exact .inl h
   ·rcases hx.old b l ho with h1|⟨l0,h1,_⟩
    ·exact .inr h1
    ·have:=hr0.gY b l0 h1.2.1
     omega
theorem wx{N:Nat}{d:Nat}{v:SV}(h1:v.gU=true)(h0:v.refs=0):eg N H (d+1) v=some v:=by
 cases v<;>simp_all [eg,SV.gU,SV.refs]
theorem lG{A:Type}{f:A→Option A}:∀(l:List A),(∀x∈l,f x=some x)→bc (l.map f)=some l
 |[],_=>rfl
 |x::l,h=>by
  simp only[Ov,h x (Oi ..),bc,lG l (fun y hy=>h y (OW _ hy)),Oo]
theorem vZ{e:Env}{a:Act}{s:SV}{o:Oper}{bg n:Nat}{z:List SV}{ps:List (Nat×bj)}(c0:lQ C.P o.op=some (.eR bg z n ps))
 (hs:bu e H (.dO bg z n ps)=some (s,H')) (hr:HR C ρ F H w) (he:ER w F ρ e a.tmps):aJ C (execOp a.eval o) ρ F H w s H':=by
 simp only[bu,NP,NS,N3]at hs
 obtain⟨s',⟨L,hL,h0⟩,rfl,rfl⟩:=hs
 replace h0:=af h0
 obtain⟨h0,h1⟩:=h0
 cases h1
 have h0:SV.refs.au L.flatten=0:=by simpa using h0
 have hlen:L.length=n:=by
  have:∀(ps:List (Nat×bj)) (l r:List (List SV)),dU (ev e) bg l ps=some r→r.length=l.length:=by
   intro ps
   induction ps with
   |nil=>intro l r h;simp[dU]at h;rw[h]
   |cons p ps ih=>
    intro l r h
    obtain⟨i,x⟩:=p
    simp only[dU,NS]at h
    obtain⟨cs,_,h⟩:=h
    replace h:=af h
    have:=ih _ _ h.2
    simpa using this
  simpa using this ps _ _ hL
 let Hc:ae:={bl:=H.bl,bC:=[],ro:=min H.ro H.bl.length}
 have hsop:bu e Hc (.eR bg z n ps)=some (.bG H.bl.length 0 0 n,aV Hc (.arr 0 bg L true)):=by simp only[bu,hL,Oo,Hc]
 obtain⟨val,w',hy,ρ1,F1,d1,d2,d3⟩:=tM c0 (hr.bl (H1:=Hc) rfl) he hsop
 have hg:az (aV Hc (.arr 0 bg L true)) H.bl.length=some (.arr 0 bg L true):=by simp[az,aV,Hc]
 obtain⟨l,hl,hbr⟩:=d2.live _ _ hg rfl
 obtain⟨b1,b2,b3,b4,b5,b6,b7,b8⟩:=hbr
 have hok:∀r∈L,∀c∈r,c.gU=true:=by
  intro r hr' c hc
  obtain⟨i,hi⟩:=OD hr'
  obtain⟨j,hj⟩:=OD hc
  cases hv:l.aL with
  |true=>
   have:=b7 hv
   have:=(NT.1 hi).1
   omega
  |false=>
   obtain⟨vs,ty,fz,k1,k2,k3,k4⟩:=b8 hv
   obtain⟨v,_,_,h⟩:=k4 i r hi j c hj
   exact h
 have hrf:∀r∈L,∀c∈r,c.refs=0:=by
  intro r hr' c hc
  obtain⟨m,hm⟩:=OD (QD.2 ⟨r,hr',hc⟩)
  have:=dT (PF h0) m c hm
  omega
 have hfz:bc (((L.drop 0).take n).map fun cs=>bc (cs.map (eg H.bl.length (aV Hc (.arr 0 bg L true)) 7)))=some L:=by
  rw[P8,OR (by omega)]
  exact lG L (fun r hr'=>lG r (fun c hc=>wx (d:=6) (hok r hr' c hc) (hrf r hr' c hc)))
 have hleave:cW false H (.bG H.bl.length 0 0 n) (aV Hc (.arr 0 bg L true))=some (.aB bg L true,H):=by
  have h1:eg H.bl.length (aV Hc (.arr 0 bg L true)) 8 (.bG H.bl.length 0 0 n)=some (.aB bg L true):=by
   unfold eg
   simp only[P7,decide_false,Oa,hg]
   rw[hfz]
   simp[h0,hlen]
  have h2:du H.bl.length H (aV Hc (.arr 0 bg L true))=some H:=by
   simp[du,aV,Hc]
  unfold cW
  simp only[Oa,dc,h1,OV,h2,Oo]
 exact⟨val,w',hy,kR hr d2 d3 d1 hleave⟩
theorem xz(h1:HR C ρ F H w){n b z z':Nat}(hn:ρ n=some ⟨0,0,0,z,0,true,true⟩)(hb:H.bl[b]?=some (.box [.aB z' [] true]))(hB:bT H b (.box [.bG n 0 0 0]) (n+1)=some H') :
 HR C ρ F H' w∧Ext C ρ F H w ρ F H' w:=by
 obtain⟨l,hl,hbr⟩:=h1.live b _ hb rfl
 have key:∀ρ1 ρ2:Map,ρ2 n=some ⟨0,0,0,z,0,true,true⟩→BR C w F ρ1 l (.box [.aB z' [] true])→BR C w F ρ2 l (.box [.bG n 0 0 0]):=by
  intro ρ1 ρ2 hρ ⟨g1,g2,g3,g4,g5,vs',ty,fz,g6,g7,g8,g9⟩
  refine⟨g1,g2,g3,g4,g5,vs',ty,fz,g6,g7,g8,fun j c hj=>?_⟩
  cases j with
  |succ j=>simp at hj
  |zero=>
   simp only[List.getElem?_cons_zero,N1]at hj
   subst hj
   obtain⟨val,k1,k2,k3⟩:=g9 0 _ rfl
   refine⟨val,k1,?_,rfl⟩
   cases k2 with
   |aB V hcap hfull hz hat h1' hv'=>
    have hc:=hfull rfl
    simp only[Oc]at hc
    subst hc
    exact .bG hρ (NV _) rfl (fun _=>⟨fun _=>⟨_,rfl,rfl,rfl⟩,fun h=>by cases h⟩)
 have:=h1.set (w':=w) (l':=l) hB hb rfl hl (NV _) (fun _ _ _=>rfl) (fun h=>.inl ⟨h,rfl⟩) (.inl rfl)
  (fun _=>by rw[ba hl];exact key _ _ hn hbr)
  (fun _ N hN hbN hbr=>by rw[ba hl];exact key _ _ (by unfold Map.cut;rw[if_pos (by omega)];exact hn) hbr)
 rwa [ba hl]at this
theorem tX{e:Env}{a:Act}{s:SV}{o:Oper}{z:Nat}(c0:lQ C.P o.op=some (.alloc [.aB 0 [] true]))(hs:bu e H (.lg z)=some (s,H'))(hr:HR C ρ F H w)(he:ER w F ρ e a.tmps):aJ C (execOp a.eval o) ρ F H w s H':=by
 simp only[bu,NP,N3]at hs
 obtain⟨H2,hB,rfl,rfl⟩:=hs
 obtain⟨p1,p2⟩:=hr.push (w':=w) (NV _) (fun _ _=>rfl) (.arr 0 z [] false) ⟨0,0,0,z,0,true,true⟩ (fun h=>by cases h) ⟨rfl,rfl,rfl,by simp,by simp,by simp,fun _=>rfl,fun h=>by cases h⟩
 have hlen:(aV H (.arr 0 z [] false)).bl.length=H.bl.length+1:=by simp[aV]
 obtain⟨val,w',hy,ρ2,F2,d1,d2,d3⟩:=tM c0 p1 (p2.er hr he) (s:=.ptr (H.bl.length+1) 0 0 0) (H':=aV (aV H (.arr 0 z [] false)) (.box [.aB 0 [] true])) (by simp only[bu,hlen])
 have hg:(aV (aV H (.arr 0 z [] false)) (.box [.aB 0 [] true])).bl[H.bl.length]?=some (.arr 0 z [] false):=by simp[aV]
 have hgb:(aV (aV H (.arr 0 z [] false)) (.box [.aB 0 [] true])).bl[H.bl.length+1]?=some (.box [.aB 0 [] true]):=by simp[aV]
 have hn:ρ2 H.bl.length=some ⟨0,0,0,z,0,true,true⟩:=by
  obtain⟨l',k1,k2⟩:=d3.map H.bl.length _ (Map.aQ _ _ _)
  rcases k2 with rfl|⟨_,_,k3⟩
  ·exact k1
  ·obtain⟨l2,j1,j2⟩:=d2.live _ _ hg rfl
   rw[k1]at j1;cases j1
   have:=j2.2.1
   omega
 obtain⟨q1,q2⟩:=xz d2 hn hgb hB
 exact⟨val,w',hy,ρ2,F2,d1,q1,p2.trans (d3.trans q2)⟩
theorem VR.F5{w:World}{F:Nat→Prop}{ρ:Map}{v:Value}{z z':Nat}(h:VR w F ρ (.aB z [] true) v):VR w F ρ (.aB z' [] true) v:=by
 cases h with
 |aB V hcap hfull hz hat h1 hv=>exact .aB (L:=[]) V hcap hfull (fun i cs h=>by simp at h) (.inl rfl) (fun i j cs c h=>by simp at h) (fun i j cs c h=>by simp at h)
theorem y5{e:Env}{a:Act}{s:SV}{o:Oper}{z z':Nat}(c0:lQ C.P o.op=some (.build [.aB 0 [] true,.aB 0 [] true] []))(hs:bu e H (.build [.aB z [] true,.aB z' [] true] [])=some (s,H'))(hr:HR C ρ F H w)(he:ER w F ρ e a.tmps):aJ C (execOp a.eval o) ρ F H w s H':=by
 have hs0:bu e H (.build [.aB 0 [] true,.aB 0 [] true] [])=some (.agg [.aB 0 [] true,.aB 0 [] true],H):=by rfl
 obtain⟨val,w',hy,ρ2,F2,d1,d2,d3⟩:=tM c0 hr he hs0
 have hs1:bu e H (.build [.aB z [] true,.aB z' [] true] [])=some (.agg [.aB z [] true,.aB z' [] true],H):=by rfl
 rw[hs1]at hs
 cases hs
 refine⟨val,w',hy,ρ2,F2,?_,d2,d3⟩
 cases d1 with
 |agg hn h1 hv=>
  refine .agg hn (fun j c hj=>?_) (fun j c v hj hv'=>?_)
  ·match j,hj with
   |0,hj=>cases hj;rfl
   |1,hj=>cases hj;rfl
  ·match j,hj with
   |0,hj=>cases hj;exact(hv 0 _ v rfl hv').F5
   |1,hj=>cases hj;exact(hv 1 _ v rfl hv').F5
theorem mO{ρ ρ':Map}{F F':Nat→Prop}{w w':World}{c:SV}{v:Value}(h:nD c=true)(hv:VR w F ρ c v):VR w' F' ρ' c v:=by
 cases c<;>simp only[nD,Pc]at h
 ·cases hv;exact .bool _
 ·cases hv;exact .int _ _
 ·cases hv;exact .str _
theorem zc{ρ ρ':Map}{F F':Nat→Prop}{w w':World}{c:SV}{v:Value}(h:yk c=true)(hv:VR w F ρ c v):VR w' F' ρ' c v:=by
 unfold yk at h
 split at h
 ·cases hv with
  |ax hn hv=>exact .ax hn (fun j c v hj hv'=>mO (N5.1 h c (Ok hj)) (hv j c v hj hv'))
 ·cases hv with
  |agg hn h1 hv=>exact .agg hn h1 (fun j c v hj hv'=>mO (N5.1 h c (Ok hj)) (hv j c v hj hv'))
 ·exact mO h hv
theorem vT{rec:Rec}(hrec:eP C rec){e:Env}{a:Act}{s:SV}{o:Oper}{f:FuncId}{xs:List bj}(c0:lQ C.P o.op=some (.call (.c (.fn f [])) xs))(hs:ql rec f (xs.map (ev e)) H=some (s,H'))(hr:HR C ρ F H w)(he:ER w F ρ e a.tmps)
 {ro:Option Nat} {n:Nat} {K:Act→World→Prop} {Q:Exit→Act→World→Prop} (hK:∀val w',cN C ρ F H w s H' val w'→K (a.put o.dst val) w'):o.wpIn (WF ro) n C.P a w K Q:=by
 refine⟨fun _ _=>trivial,?_⟩
 rw[Oper.semAt_eq _ _ _ (eU c0)]
 obtain⟨c,ho,hcc⟩:=na c0
 obtain⟨g,hg,hf,hxs⟩:=jX hcc
 obtain⟨hn,hv⟩:=gm hxs he
 have hgv:=ar hf he
 simp only[ev]at hgv
 unfold ql at hs
 simp only[NS]at hs
 obtain⟨vs1,hvs1,r,hrec1,hs⟩:=hs
 replace hs:=af hs
 obtain⟨hsc,hs⟩:=hs
 simp only[N1,N3]at hs
 obtain⟨hs1,hs2⟩:=hs
 subst hs1
 subst hs2
 obtain⟨r1,r2⟩:=r
 let F2:Nat→Prop:=fun B=>F B∨∃b l,Own ρ H b l∧l.bq=B
 have hcut:ρ.cut 0=cO:=by funext b;simp[Map.cut]
 have hargs:fp w F2 cO vs1 (c.args.map a.eval):=by
  have key:∀(l:List SV) (vs1:List SV) (eJ:List Value),bc (l.map (eg 0 H dc))=some vs1→l.length=eJ.length→(∀(j:Nat) x v,l[j]?=some x→eJ[j]?=some v→VR w F ρ x v)→
   vs1.length=eJ.length∧∀(j:Nat) x v,vs1[j]?=some x→eJ[j]?=some v→VR w F2 cO x v:=by
   intro l
   induction l with
   |nil=>intro vs1 eJ h hl _;simp[bc]at h;subst h;exact⟨hl,fun j x v hj=>by simp at hj⟩
   |cons y l ih=>
    intro vs1 eJ h hl hv
    simp only[Ov]at h
    cases hy:eg 0 H dc y with
    |none=>rw[hy]at h;simp[bc]at h
    |some y'=>
     rw[hy]at h
     simp only[bc,NP]at h
     obtain⟨vs2,h2,rfl⟩:=h
     cases eJ with
     |nil=>simp at hl
     |cons val eJ=>
      obtain⟨k1,k2⟩:=ih vs2 eJ h2 (by simpa using hl) (fun j x v hj hv'=>hv (j+1) x v (by simpa using hj) (by simpa using hv'))
      refine⟨by simp[k1],fun j x v hj hv'=>?_⟩
      cases j with
      |zero=>
       simp at hj hv'
       subst hj;subst hv'
       have:=su (F':=F2) hr (fun _ h=>.inl h) (fun b l ho _=>.inr ⟨b,l,ho,rfl⟩) _ hy (hv 0 y val rfl rfl)
       rwa [hcut]at this
      |succ j=>exact k2 j x v (by simpa using hj) (by simpa using hv')
  obtain⟨k1,k2⟩:=key (xs.map (ev e)) vs1 (c.args.map a.eval).toList hvs1 (by simpa using hn) (fun j x v hj hv'=>hv j x v hj (by simpa using hv'))
  exact⟨by simpa using k1,fun j x v hj hv'=>k2 j x v hj (by simpa using hv')⟩
 have hr0:HR C cO F2 {bl:=[],bC:=[],ro:=0} w:=⟨(fun b l h=>by cases h),(fun b x h=>by simp at h),(fun b b' l l' h=>by cases h.2.1),(fun b l h=>by cases h.2.1),fun B hB=>by
  rcases hB with h|⟨b,l,ho,rfl⟩
  ·exact hr.fO B h
  ·exact(hr.own b l ho).2⟩
 have hx0:execOp a.eval o=(do let d←Deferred.ofValue (a.eval g) (c.args.map a.eval);invoke d.target d.args):=by
  simp only[execOp,ho,resolve,hg]
 generalize hgval:a.eval g=gv at *
 cases hgv with
 |fn hn2 hv2=>
  rename_i vs
  have hvs:vs= #[]:=Pn (by simpa using hn2.symm)
  subst hvs
  obtain⟨h1,h2⟩:=hrec.call _ _ _ _ _ hrec1 cO F2 w _ hr0 hargs
  rw[hx0]
  have hx:(do let d←Deferred.ofValue (Value.func (.func f) #[] #[]) (c.args.map a.eval);invoke d.target d.args:Sem Next)=callFunc f (c.args.map a.eval):=by
   simp[Deferred.ofValue,invoke]
  rw[hx,h1]
  refine⟨fun h=>by simp at h,CallsIn.mono (h2 _) (fun e' w' he'=>?_)⟩
  obtain⟨val,rfl,ρ1,F1,d1,d2,d3⟩:=he'
  have hno:∀b l,¬Own cO {bl:=[],bC:=[],ro:=0} b l:=fun b l h=>by cases h.2.1
  obtain⟨p1,p2⟩:=hr.same d3.size (fun B hB=>d3.frame B hB (fun b l ho=>absurd ho (hno b l))) d3.out
  exact hK val w' ⟨ρ,F,zc hsc d1,p1,p2⟩
theorem gF{rec:Rec}(hrec:eP C rec){e:Env}{a:Act}{s:SV}{o:Oper}{op:jH}{b:zo}(c0:op=pY b ((lQ C.P o.op).getD .bad))(hs:ai rec e H op=some (s,H'))(hr:HR C ρ F H w)(he:ER w F ρ e a.tmps)
 {ro:Option Nat} {n:Nat} {K:Act→World→Prop} {Q:Exit→Act→World→Prop} (hK:∀val w',cN C ρ F H w s H' val w'→K (a.put o.dst val) w'):o.wpIn (WF ro) n C.P a w K Q:=by
 cases hc:lQ C.P o.op with
 |none=>
  rw[hc]at c0
  have:op=.bad:=by rw[c0];cases b<;>rfl
  subst this
  cases hs
 |some op0=>
  rw[hc]at c0
  simp only[O2]at c0
  by_cases hk:∃m g xs,b=.keep m∧op0=.call (.c (.fn g [])) xs
  ·obtain⟨m,g,xs,rfl,rfl⟩:=hk
   subst c0
   exact w8 (m:=m) hrec hc hs hr he hK
  by_cases hvw:∃g xs,b=.view∧op0=.call (.c (.fn g [])) xs
  ·obtain⟨g,xs,rfl,rfl⟩:=hvw
   subst c0
   exact vT hrec hc hs hr he hK
  by_cases hl:∃bg z n ps,b=.list∧op0=.eR bg z n ps
  ·obtain⟨bg,z,m,ps,rfl,rfl⟩:=hl
   subst c0
   obtain⟨val,w',h1,h2⟩:=vZ hc hs hr he
   refine⟨fun _ _=>trivial,?_⟩
   rw[Oper.semAt_eq _ _ _ (eU hc)]
   rcases h1 with h1|⟨h1,rfl⟩
   ·rw[h1];exact hK _ _ h2
   ·rw[h1];exact hK _ _ h2
  by_cases hvb:∃z,b=.wZ z∧op0=.alloc [.aB 0 [] true]
  ·obtain⟨z,rfl,rfl⟩:=hvb
   subst c0
   obtain⟨val,w',h1,h2⟩:=tX hc hs hr he
   refine⟨fun _ _=>trivial,?_⟩
   rw[Oper.semAt_eq _ _ _ (eU hc)]
   rcases h1 with h1|⟨h1,rfl⟩
   ·rw[h1];exact hK _ _ h2
   ·rw[h1];exact hK _ _ h2
  by_cases hvn:∃z,b=.wZ z∧op0=.build [.aB 0 [] true,.aB 0 [] true] []
  ·obtain⟨z,rfl,rfl⟩:=hvn
   subst c0
   obtain⟨val,w',h1,h2⟩:=y5 hc hs hr he
   refine⟨fun _ _=>trivial,?_⟩
   rw[Oper.semAt_eq _ _ _ (eU hc)]
   rcases h1 with h1|⟨h1,rfl⟩
   ·rw[h1];exact hK _ _ h2
   ·rw[h1];exact hK _ _ h2
  ·have:op=op0:=by
    rw[c0]
    unfold pY
    split
    ·exact absurd ⟨_,_,_,_,rfl,rfl⟩ hl
    ·exact absurd ⟨_,_,_,rfl,rfl⟩ hk
    ·exact absurd ⟨_,_,rfl,rfl⟩ hvw
    ·exact absurd ⟨_,rfl,rfl⟩ hvb
    ·exact absurd ⟨_,rfl,rfl⟩ hvn
    ·rfl
   subst this
   exact vB hrec hc hs hr he hK
end
end
end Go.Sh
