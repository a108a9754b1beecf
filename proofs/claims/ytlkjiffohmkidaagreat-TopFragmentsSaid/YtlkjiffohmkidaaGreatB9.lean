/- A part of the proof: texts ShFu, ShLp, ShStd, ShAb. -/
import Derived.Test.YtlkjiffohmkidaaGreatB7
namespace Go.Sh
set_option linter.unusedSectionVars false
set_option linter.unnecessarySimpa false
set_option linter.unusedSimpArgs false
set_option linter.unusedVariables false
set_option maxRecDepth 100000
set_option maxHeartbeats 4000000
section
mutual
def fP:SV→SV→Bool
 | .undef,.undef=>true
 | .gJ,.gJ=>true
 | .bool a,.bool b=>a==b
 | .int k a,.int k' b=>decide (k=k')&&decide (a=b)
 | .str a,.str b=>decide (a=b)
 | .bF,.bF=>true
 | .ptr a b c d,.ptr a' b' c' d'=>decide (a=a')&&decide (b=b')&&decide (c=c')&&decide (d=d')
 | .eS a,.eS b=>vi a b
 | .aB z L f,.aB z' L' f'=>decide (z=z')&&sT L L'&&f==f'
 | .bG a b c d,.bG a' b' c' d'=>decide (a=a')&&decide (b=b')&&decide (c=c')&&decide (d=d')
 | .agg a,.agg b=>vi a b
 | .ax a,.ax b=>vi a b
 | .fn f a,.fn g b=>decide (f=g)&&vi a b
 | .oI f a,.oI g b=>decide (f=g)&&vi a b
 | .fR,.fR=>true
 | .lT a,.lT b=>decide (a=b)
 | .mp a,.mp b=>decide (a=b)
 |_,_=>false
def vi:List SV→List SV→Bool
 |[],[]=>true
 |a::r,b::r'=>fP a b&&vi r r'
 |_,_=>false
def sT:List (List SV)→List (List SV)→Bool
 |[],[]=>true
 |a::r,b::r'=>vi a b&&sT r r'
 |_,_=>false
end
mutual
theorem mF:∀a b:SV,fP a b=true→a=b
 | .undef,b,h=>by cases b<;>first|rfl|(simp[fP]at h;done)
 | .gJ,b,h=>by cases b<;>first|rfl|(simp[fP]at h;done)
 | .bool a,b,h=>by cases b<;>simp[fP]at h⊢ <;>exact h
 | .int k a,b,h=>by cases b<;>simp[fP]at h⊢ <;>exact h
 | .str a,b,h=>by cases b<;>simp[fP]at h⊢ <;>exact h
 | .bF,b,h=>by cases b<;>first|rfl|(simp[fP]at h;done)
 | .ptr ..,b,h=>by cases b<;>simp[fP]at h⊢ <;>exact⟨h.1.1.1,h.1.1.2,h.1.2,h.2⟩
 | .eS a,b,h=>by cases b<;>simp[fP]at h⊢ <;>exact iT _ _ h
 | .aB z L f,b,h=>by cases b<;>simp[fP]at h⊢ <;>exact⟨h.1.1,pw _ _ h.1.2,h.2⟩
 | .bG ..,b,h=>by cases b<;>simp[fP]at h⊢ <;>exact⟨h.1.1.1,h.1.1.2,h.1.2,h.2⟩
 | .agg a,b,h=>by cases b<;>simp[fP]at h⊢ <;>exact iT _ _ h
 | .ax a,b,h=>by cases b<;>simp[fP]at h⊢ <;>exact iT _ _ h
 | .fn f a,b,h=>by cases b<;>simp[fP]at h⊢ <;>exact⟨h.1,iT _ _ h.2⟩
 | .oI f a,b,h=>by cases b<;>simp[fP]at h⊢ <;>exact⟨h.1,iT _ _ h.2⟩
 | .fR,b,h=>by cases b<;>first|rfl|(simp[fP]at h;done)
 | .lT a,b,h=>by cases b<;>simp[fP]at h⊢ <;>exact h
 | .mp a,b,h=>by cases b<;>simp[fP]at h⊢ <;>exact h
theorem iT:∀a b:List SV,vi a b=true→a=b
 |[],[],_=>rfl
 |[],_::_,h=>by simp[vi]at h
 |_::_,[],h=>by simp[vi]at h
 |a::r,b::r',h=>by
  simp only[vi,NX]at h
  rw[mF a b h.1,iT r r' h.2]
theorem pw:∀a b:List (List SV),sT a b=true→a=b
 |[],[],_=>rfl
 |[],_::_,h=>by simp[sT]at h
 |_::_,[],h=>by simp[sT]at h
 |a::r,b::r',h=>by
  simp only[sT,NX]at h
  rw[iT a b h.1,pw r r' h.2]
end
def uV:List (SV×SV)→List (SV×SV)→Bool
 |[],[]=>true
 |a::r,b::r'=>fP a.1 b.1&&fP a.2 b.2&&uV r r'
 |_,_=>false
theorem tn:∀a b:List (SV×SV),uV a b=true→a=b
 |[],[],_=>rfl
 |[],_::_,h=>by simp[uV]at h
 |_::_,[],h=>by simp[uV]at h
 |(a1,a2)::r,(b1,b2)::r',h=>by
  simp only[uV,NX]at h
  rw[mF a1 b1 h.1.1,mF a2 b2 h.1.2,tn r r' h.2]
def oH:Env→Env→Bool
 |[],[]=>true
 |a::r,b::r'=>decide (a.1=b.1)&&fP a.2 b.2&&oH r r'
 |_,_=>false
theorem ra:∀a b:Env,oH a b=true→a=b
 |[],[],_=>rfl
 |[],_::_,h=>by simp[oH]at h
 |_::_,[],h=>by simp[oH]at h
 |(a1,a2)::r,(b1,b2)::r',h=>by
  simp only[oH,NX,NY]at h
  rw[h.1.1,mF a2 b2 h.1.2,ra r r' h.2]
def m9:aj→aj→Bool
 | .dead,.dead=>true
 | .box a,.box b=>vi a b
 | .arr v z L x,.arr v' z' L' x'=>decide (v=v')&&decide (z=z')&&sT L L'&&x==x'
 | .map a,.map b=>uV a b
 |_,_=>false
theorem wo:∀a b:aj,m9 a b=true→a=b
 | .dead,b,h=>by cases b<;>first|rfl|(simp[m9]at h;done)
 | .box a,b,h=>by cases b<;>simp[m9]at h⊢ <;>exact iT _ _ h
 | .arr ..,b,h=>by cases b<;>simp[m9]at h⊢ <;>exact⟨h.1.1.1,h.1.1.2,pw _ _ h.1.2,h.2⟩
 | .map a,b,h=>by cases b<;>simp[m9]at h⊢ <;>exact tn _ _ h
 | .loop ..,b,h=>by cases b<;>simp[m9]at h
def tZ:List aj→List aj→Bool
 |[],[]=>true
 |a::r,b::r'=>m9 a b&&tZ r r'
 |_,_=>false
theorem tz:∀a b:List aj,tZ a b=true→a=b
 |[],[],_=>rfl
 |[],_::_,h=>by simp[tZ]at h
 |_::_,[],h=>by simp[tZ]at h
 |a::r,b::r',h=>by
  simp only[tZ,NX]at h
  rw[wo a b h.1,tz r r' h.2]
def Bm(a b:Env×ae):Bool:=oH a.1 b.1&&tZ a.2.bl b.2.bl&&decide (a.2.bC=b.2.bC)&&decide (a.2.ro=b.2.ro)
theorem yQ{a b:Env×ae}(h:Bm a b=true):a=b:=by
 obtain⟨e,bl,es,ro⟩:=a
 obtain⟨e',bl',es',ro'⟩:=b
 simp only[Bm,NX,NY]at h
 obtain⟨⟨⟨h1,h2⟩,rfl⟩,rfl⟩:=h
 rw[ra _ _ h1,tz _ _ h2]
def nv:List (Option (Env×ae))→Option (Env×ae)
 |[]=>none
 |[a]=>a
 |some a::some b::r=>bif Bm a b then nv (some b::r)else none
 |_=>none
theorem qm:∀(l:List (Option (Env×ae))) {s},nv l=some s→ma l=some s∧∀x∈l,x=some s
 |[],s,h=>by simp[nv]at h
 |[a],s,h=>⟨h,fun x hx=>by simp only[Qk]at hx;subst hx;exact h⟩
 |some a::some b::r,s,h=>by
  simp only[nv]at h
  replace h:=af h
  obtain⟨h1,h2⟩:=h
  have:=yQ h1
  subst this
  obtain⟨h3,h4⟩:=qm (some a::r) h2
  exact⟨by rw[ma,if_pos rfl];exact h3,fun x hx=>by
   rcases O9.1 hx with rfl|hx
   ·exact h4 _ (Oi ..)
   ·exact h4 x hx⟩
 |none::b::r,s,h=>by simp[nv]at h
 |some a::none::r,s,h=>by simp[nv]at h
def eN(rec:Rec)(fu:Nat):bO→Env→ae→Option Out
 | .skip,e,H=>some (.normal,e,H)
 | .ops l,e,H=>(bM rec l e H (fun e H=>some (e,H)) ()).map fun s=>(.normal,s)
 | .drawn l,e,H=>(bw rec l H.bl.length e H (fun e H=>some (e,H)) ()).map fun s=>(.normal,s)
 | .perm l os,e,H=>(nv (os.map (jZ rec l e H))).map fun s=>(.normal,s.1,s.2)
 | .seq a b,e,H=>match eN rec fu a e H with
   |some (.normal,e,H)=>eN rec fu b e H
   |r=>r
 | .cond c a b,e,H=>match ev e c with
   | .bool t=>bif t then eN rec fu a e H else eN rec fu b e H
   |_=>none
 | .block id a,e,H=>match eN rec fu a e H with
   |some (.exit j,e,H)=>some (bif j==id then .normal else .exit j,e,H)
   |r=>r
 | .freeze t,e,H=>(zy H (get e t)).map fun r=>(.normal,(t,r.1)::e,r.2)
 | .aL vs,e,H=>(eC vs e H).map fun s=>(.normal,s.1,s.2)
 | .Ao d neg x c,e,H=>match uw H (ev e x)with
   |some false=>eN rec fu c ((d,.bool neg)::e) H
   |_=>none
 | .loop p a,e,H=>(eC p.aL e H).bind fun s=>(cJ (fun s'=>(eF p s.2.bl.length {s.2 with bC:=[]} s').bind fun s'=>eN rec fu a s'.1 s'.2) fu (s.1,{s.2 with bC:=[]})).map
    fun o=>(o.1,o.2.1,{o.2.2 with bC:=s.2.bC++o.2.2.bC})
 | .nB f ps x y,e,H=>(pb rec (ev e f) [.lT H.bl.length] (aV H (.loop ⟨e,ps,x,y⟩ .ready .normal))).bind fun r=>
    match az r.2 H.bl.length with
    |some (.loop q st pend)=>match st with
     | .busy=>none
     |_=>(bT r.2 H.bl.length (.loop q .exhausted pend) 0).map fun H=>(pend,e,H)
    |_=>none
 | .ext n,e,H=>(iJ n H.bl (e.map (·.2))).map fun v=>(.ret,(0,v)::e,H)
 | .exit id,e,H=>some (.exit id,e,H)
 | .ret,e,H=>some (.ret,e,H)
def jL(T:FuncId→Option aC)(fu:Nat):Nat→Rec
 |0,_,_,_=>none
 |n+1,.fn f,xs,H=>match T f with
  |none=>none
  |some F=>bif gT F xs then
    ((eN (jL T fu n) fu F.body (ef xs) av).bind fun o=>match o.1 with
      | .exit _=>none
      |_=>(results1 o.2.1 o.2.2 F.res).bind fun v=>eg 0 o.2.2 dc v).map fun v=>(v,H)
   else(eN (jL T fu n) fu F.body (ef xs) {bl:=H.bl,bC:=[],ro:=min H.ro H.bl.length}).bind fun o=>match o.1 with
    | .exit _=>none
    |_=>(results1 o.2.1 o.2.2 F.res).bind fun v=>cW F.keep H v o.2.2
 |n+1,.n8 f,xs,H=>match T f with
  |none=>none
  |some F=>(eN (jL T fu n) fu F.body (ef xs) {bl:=H.bl,bC:=[],ro:=min H.ro H.bl.length}).bind fun o=>match o.1 with
    | .exit _=>none
    |_=>(results1 o.2.1 o.2.2 F.res).bind fun v=>cW true H v o.2.2
 |n+1,.lT b,xs,H=>match az H b with
  |some (.loop q .ready _)=>
   bif q.ps.length==xs.length then
    (eN (jL T fu n) fu q.assign ((q.ps.zip xs).reverse++q.env) {bl:=H.bl,bC:=[],ro:=min H.ro H.bl.length}).bind fun o=>match o.1 with
     | .normal=>(lI b o.2.2).bind fun H'=>(eN (jL T fu n) fu q.body o.2.1 H').bind fun o=>
        (mL b (match o.1 with| .normal=>.ready|_=>.done) o.1 o.2.2).bind fun H'=>
         (du H.bl.length H H').map fun H'=>(.bool (match o.1 with| .normal=>true|_=>false),H')
     |_=>none
   else none
  |_=>none
section
variable{rec rec':Rec}(hrec:∀f xs H r,rec f xs H=some r→rec' f xs H=some r)
include hrec
theorem vL{f xs H r}(h:jP rec f xs H=some r):jP rec' f xs H=some r:=by
 unfold jP at h⊢
 split at h
 ·exact hrec _ _ _ _ h
 ·exact hrec _ _ _ _ h
 ·exact hrec _ _ _ _ h
 ·cases h
theorem wG{f xs H r}(h:pb rec f xs H=some r):pb rec' f xs H=some r:=by
 unfold pb at h⊢
 split at h
 ·exact hrec _ _ _ _ h
 ·cases h
theorem kN{e H o r}(h:ai rec e H o=some r):ai rec' e H o=some r:=by
 unfold ai at h⊢
 split at h
 ·exact vL hrec h
 ·exact hrec _ _ _ _ h
 ·unfold ql at h⊢
  obtain⟨vs,h1,h2⟩:=NS.1 h
  obtain⟨r1,h3,h4⟩:=NS.1 h2
  exact NS.2 ⟨vs,h1,NS.2 ⟨r1,hrec _ _ _ _ h3,h4⟩⟩
 ·exact h
theorem uu{N d e H o r}(h:bR rec N d e H o=some r):bR rec' N d e H o=some r:=by
 unfold bR at h⊢
 split at h
 ·exact kN hrec h
 ·obtain⟨a,h1,h2⟩:=NS.1 h
  exact NS.2 ⟨a,kN hrec h1,h2⟩
 ·obtain⟨a,h1,h2⟩:=NS.1 h
  exact NS.2 ⟨a,kN hrec h1,h2⟩
 ·unfold sC at h ⊢;exact h
theorem oY{R:Type}(k:Env→ae→Option R):∀l e H o,bM rec l e H (fun e H=>some (e,H)) ()=some o→bM rec' l e H k ()=k o.1 o.2:=by
 intro l
 induction l with
 |nil=>intro e H o h;simp only[bM,N1]at h ⊢;rw[←h]
 |cons a l ih=>
  intro e H o h
  have key:∀o,ay (ai rec e H a.op) (fun r=>bM rec l (bB e a.dst r.1) r.2 (fun e H=>some (e,H)) ()) ()=some o→ay (ai rec' e H a.op) (fun r=>bM rec' l (bB e a.dst r.1) r.2 k ()) ()=k o.1 o.2:=by
   intro o h
   unfold ay at h
   split at h
   ·rename_i v hv
    rw[kN hrec hv]
    exact ih _ _ _ h
   ·cases h
  simp only[bM]at h⊢
  split at h
  ·exact key _ h
  ·rename_i t w _
   unfold eE at h⊢
   split at h
   ·unfold fork at h⊢
    dsimp only at h⊢
    rename_i b _
    cases hb:(b==w)with
    |true=>rw[hb]at h;exact key _ h
    |false=>rw[hb]at h;exact ih _ _ _ h
   ·unfold fork at h⊢
    exact ih _ _ _ h
   ·cases h
theorem qT{R:Type}(k:Env→ae→Option R):∀l N e H o,bw rec l N e H (fun e H=>some (e,H)) ()=some o→bw rec' l N e H k ()=k o.1 o.2:=by
 intro l
 induction l with
 |nil=>intro N e H o h;simp only[bw,N1]at h ⊢;rw[←h]
 |cons a l ih=>
  intro N e H o h
  obtain⟨a,d⟩:=a
  have key:∀o,ay (bR rec N d e H a.op) (fun r=>bw rec l (eQ d N r.2) (bB e a.dst r.1) r.2 (fun e H=>some (e,H)) ()) ()=some o→
   ay (bR rec' N d e H a.op) (fun r=>bw rec' l (eQ d N r.2) (bB e a.dst r.1) r.2 k ()) ()=k o.1 o.2:=by
   intro o h
   unfold ay at h
   split at h
   ·rename_i v hv
    rw[uu hrec hv]
    exact ih _ _ _ _ h
   ·cases h
  have key2:∀o,(bif gP d then bw rec l (eQ d N H) (bB e a.dst .gJ) H (fun e H=>some (e,H)) ()else none)=some o→
   (bif gP d then bw rec' l (eQ d N H) (bB e a.dst .gJ) H k ()else none)=k o.1 o.2:=by
   intro o h
   cases hs:gP d with
   |true=>rw[hs]at h;exact ih _ _ _ _ h
   |false=>rw[hs]at h;cases h
  simp only[bw]at h⊢
  split at h
  ·exact key _ h
  ·rename_i t w _
   unfold eE at h⊢
   split at h
   ·unfold fork at h⊢
    dsimp only at h⊢
    rename_i b _
    cases hb:(b==w)with
    |true=>rw[hb]at h;exact key _ h
    |false=>rw[hb]at h;exact key2 _ h
   ·unfold fork at h⊢
    exact key2 _ h
   ·cases h
theorem xI{f g:Env×ae→Option Out}(hfg:∀s o,f s=some o→g s=some o):∀n s o,cJ f n s=some o→cJ g n s=some o:=by
 intro n
 induction n with
 |zero=>intro s o h;cases h
 |succ n ih=>
  intro s o h
  simp only[cJ]at h⊢
  cases hf:f s with
  |none=>rw[hf]at h;cases h
  |some r=>
   rw[hfg _ _ hf]
   rw[hf]at h
   obtain⟨x,s'⟩:=r
   cases x with
   |normal=>exact ih _ _ h
   |exit j=>exact h
   |ret=>exact h
theorem kY(fu:Nat):∀(c:bO) (e:Env) (H:ae) (o:Out),eN rec fu c e H=some o→∀{R:Type} (k:mJ→Env→ae→Option R),run rec' c e H k ()=k o.1 o.2.1 o.2.2:=by
 intro c
 induction c with
 |skip=>intro e H o h R k;simp only[eN,N1]at h;subst h;rfl
 |ops l=>
  intro e H o h R k
  simp only[eN,NP]at h
  obtain⟨s,hs,rfl⟩:=h
  exact oY hrec _ _ _ _ _ hs
 |drawn l=>
  intro e H o h R k
  simp only[eN,NP]at h
  obtain⟨s,hs,rfl⟩:=h
  exact qT hrec _ _ _ _ _ _ hs
 |perm l os=>
  intro e H o h R k
  simp only[eN,NP]at h
  obtain⟨s,hs,rfl⟩:=h
  obtain⟨h1,h2⟩:=qm _ hs
  have hmap:os.map (jZ rec' l e H)=os.map (jZ rec l e H):=by
   apply Qd
   intro x hx
   have h3:=h2 _ (PM.2 ⟨x,hx,rfl⟩)
   rw[h3]
   unfold jZ at h3⊢
   rw[ks]at h3
   obtain⟨s2,h4,h5⟩:=NS.1 h3
   have h6:bM rec (cq l x) e H (fun e H=>some (e,H)) ()=some s2:=by rw[ks,h4];rfl
   rw[oY hrec _ _ _ _ _ h6]
   exact h5
  simp only[run,hmap,h1,ay]
 |seq a b iha ihb=>
  intro e H o h R k
  simp only[eN]at h
  simp only[run]
  split at h
  ·rename_i e' H' ha
   rw[iha _ _ _ ha]
   exact ihb _ _ _ h k
  ·rename_i hn
   rw[iha _ _ _ h]
   obtain⟨x,e',H'⟩:=o
   cases x with
   |normal=>exact absurd h (hn _ _)
   |exit j=>rfl
   |ret=>rfl
 |cond c a b iha ihb=>
  intro e H o h R k
  simp only[eN]at h
  simp only[run]
  split at h
  ·rename_i t ht
   rw[ht]
   simp only[mU,fork]
   cases t with
   |true=>exact iha _ _ _ h k
   |false=>exact ihb _ _ _ h k
  ·cases h
 |block id a ih=>
  intro e H o h R k
  simp only[eN]at h
  simp only[run]
  split at h
  ·rename_i j e' H' ha
   rw[ih _ _ _ ha]
   cases h
   dsimp only
   cases j==id<;>rfl
  ·rename_i hn
   rw[ih _ _ _ h]
   obtain⟨x,e',H'⟩:=o
   cases x with
   |normal=>rfl
   |exit j=>exact absurd h (hn _ _ _)
   |ret=>rfl
 |freeze t=>
  intro e H o h R k
  simp only[eN,NP]at h
  obtain⟨s,hs,rfl⟩:=h
  simp only[run,hs,ay]
 |aL vs=>
  intro e H o h R k
  simp only[eN,NP]at h
  obtain⟨s,hs,rfl⟩:=h
  simp only[run,hs,ay]
 |Ao d neg x c ih=>
  intro e H o h R k
  simp only[eN]at h
  split at h
  ·rename_i hem
   simp only[run,hem,n5]
   exact ih _ _ _ h k
  ·cases h
 |loop p a ih=>
  intro e H o h R k
  simp only[eN]at h
  obtain⟨s,h1,h2⟩:=NS.1 h
  obtain⟨o',h3,rfl⟩:=NP.1 h2
  simp only[run,h1,ay]
  have h4:=xI hrec (g:=fun s'=>(eF p s.2.bl.length {s.2 with bC:=[]} s').bind fun s'=>run rec' a s'.1 s'.2 (fun x e H=>some (x,e,H)) ()) (fun s' o hs=>by
   obtain⟨q,g1,g2⟩:=NS.1 hs
   exact NS.2 ⟨q,g1,ih _ _ _ g2 _⟩) _ _ _ h3
  rw[mS h4]
 |nB f ps x y ihx ihy=>
  intro e H o h R k
  simp only[eN]at h
  obtain⟨s,h1,h2⟩:=NS.1 h
  simp only[run,wG hrec h1,ay]
  split at h2
  ·rename_i q st pend hg
   rw[hg]
   cases st with
   |busy=>cases h2
   |ready=>obtain⟨o',h3,rfl⟩:=NP.1 h2;simp only[h3]
   |done=>obtain⟨o',h3,rfl⟩:=NP.1 h2;simp only[h3]
   |exhausted=>obtain⟨o',h3,rfl⟩:=NP.1 h2;simp only[h3]
  ·cases h2
 |ext n=>
  intro e H o h R k
  simp only[eN,NP]at h
  obtain⟨s,hs,rfl⟩:=h
  simp only[run,hs,ay]
 |exit id=>intro e H o h R k;simp only[eN,N1]at h;subst h;rfl
 |ret=>intro e H o h R k;simp only[eN,N1]at h;subst h;rfl
end
theorem qU{T:FuncId→Option aC}(fu:Nat):∀n f xs H r,jL T fu n f xs H=some r→ab T n f xs H=some r:=by
 intro n
 induction n with
 |zero=>intro f xs H r h;simp[jL]at h
 |succ n ih=>
  intro f xs H r h
  cases f with
  |fn f=>
   simp only[jL]at h
   simp only[ab]
   split at h
   ·cases h
   ·rename_i F hF
    rw[hF]
    dsimp only
    cases hp:gT F xs with
    |true=>
     rw[hp]at h
     simp only[N6]at h⊢
     obtain⟨v,hv,rfl⟩:=NP.1 h
     obtain⟨o,h1,h2⟩:=NS.1 hv
     rw[kY ih fu _ _ _ _ h1]
     obtain⟨x,e',H'⟩:=o
     cases x with
     |exit j=>cases h2
     |normal=>simp only at h2;simp only[h2,Oo]
     |ret=>simp only at h2;simp only[h2,Oo]
    |false=>
     rw[hp]at h
     simp only[Oa]at h⊢
     obtain⟨o,h1,h2⟩:=NS.1 h
     rw[kY ih fu _ _ _ _ h1]
     obtain⟨x,e',H'⟩:=o
     cases x with
     |exit j=>cases h2
     |normal=>exact h2
     |ret=>exact h2
  |n8 f=>
   simp only[jL]at h
   simp only[ab]
   split at h
   ·cases h
   ·rename_i F hF
    rw[hF]
    dsimp only
    obtain⟨o,h1,h2⟩:=NS.1 h
    rw[kY ih fu _ _ _ _ h1]
    obtain⟨x,e',H'⟩:=o
    cases x with
    |exit j=>cases h2
    |normal=>exact h2
    |ret=>exact h2
  |lT b=>
   simp only[jL]at h
   simp only[ab]
   split at h
   ·rename_i q pend hg
    rw[hg]
    dsimp only
    cases hp:q.ps.length==xs.length with
    |false=>rw[hp]at h;cases h
    |true=>
     rw[hp]at h
     simp only[N6]at h⊢
     obtain⟨o,h1,h2⟩:=NS.1 h
     rw[kY ih fu _ _ _ _ h1]
     obtain⟨x,e',H'⟩:=o
     cases x with
     |exit j=>cases h2
     |ret=>cases h2
     |normal=>
      simp only at h2⊢
      obtain⟨H1,h3,h4⟩:=NS.1 h2
      rw[h3]
      simp only[OV]
      obtain⟨o,h5,h6⟩:=NS.1 h4
      rw[kY ih fu _ _ _ _ h5]
      exact h6
   ·cases h
end
def post{A:Type}(v:Option A)(Q:A→Prop):Prop:=∃o,v=some o∧Q o
@[go_sem] theorem Dn {A:Type}(o:A)(Q:A→Prop):post (some o) Q=Q o:=by
  apply propext
  exact⟨fun⟨o',h1,h2⟩=>by cases h1;exact h2,fun h=>⟨o,rfl,h⟩⟩
@[go_sem] theorem DH (e H):eC [] e H=some (e,H):=Eq.trans rfl rfl
def ru(r:List (Nat×Nat))(t z:Nat)(e:Env)(H:ae):SV→Option (Env×ae)
 | .aB _ [] true=>eC r ((t,.bG H.bl.length 0 0 0)::e) (aV H (.arr 0 z [] false))
 | .ptr b _ _ _=>(nO H b z (az H b)).bind fun H=>eC r e H
 | .aB _ (_::_) true=>eC r e (aV H (.arr 0 z [] false))
 |_=>none
@[go_sem] theorem Da (t z r e H):eC ((t,z)::r) e H=ru r t z e H (get e t):=by
  simp only[eC,ru]
  generalize get e t=v
  cases v<;>rfl
@[go_sem] theorem CB (t z z' r e H):ru r t z e H (.aB z' [] true)=eC r ((t,.bG H.bl.length 0 0 0)::e) (aV H (.arr 0 z [] false)):=Eq.trans rfl rfl
@[go_sem] theorem Di (t z r e H b v i o):ru r t z e H (.ptr b v i o)=ay (nO H b z (az H b)) (fun H=>eC r e H) ():=by
  simp only[ru]
  cases nO H b z (az H b)<;>rfl
@[go_sem] theorem CF (H b z c d cs):nO H b z (some (.box (c::d::cs)))=s3 H b (z%1000) (z/1000) (c::d::cs) ((c::d::cs)[z/1000]?):=by
  simp only[nO]
@[go_sem] theorem De (H b z j cs z'):s3 H b z j cs (some (.aB z' [] true))=bT (aV H (.arr 0 z [] false)) b (.box (cs.set j (.bG H.bl.length 0 0 0))) (H.bl.length+1):=Eq.trans rfl rfl
@[go_sem] theorem wu (p N H0 e H):eF p N H0 (e,H)=ay (cV p.aL (N-p.aL.length) N e H) (fun s=>rb p N H0 s) ():=by
  show(cV p.aL (N-p.aL.length) N e H).bind (rb p N H0)=_
  cases cV p.aL (N-p.aL.length) N e H<;>rfl
@[go_sem] theorem Bc (i l):qF (i::l)=(i==999999):=Eq.trans rfl rfl
@[go_sem] theorem xq (p N H0 e H):rb p N H0 (e,H)=bif qF p.live then some (eo p.live.tail e,H)else bif decide (SV.refs.au ((eo p.live e).map (·.2))≤N)then(du N H0 H).map (fun H=>(eo p.live e,H))else none:=Eq.trans rfl rfl
def pg(r:List (Nat×Nat))(t z h N:Nat)(e:Env)(H:ae):SV→Option (Env×ae)
 | .bG b v 0 n=>bif decide (N≤b)then(bif decide (h<N)then ay (nh H t h z b v n e (az H h) (az H b)) (fun s=>cV r (h+1) N s.1 s.2) ()else cV r (h+1) N e H)else cV r (h+1) N e H
 |_=>cV r (h+1) N e H
@[go_sem] theorem rZ (h N e H):cV [] h N e H=some (e,H):=Eq.trans rfl rfl
@[go_sem] theorem Aq (t z r h N e H):cV ((t,z)::r) h N e H=pg r t z h N e H (get e t):=by
  simp only[cV,pg]
  generalize get e t=v
  cases v<;>try rfl
  rename_i b v off n
  cases off with
  |succ k=>rfl
  |zero=>
   simp only
   cases decide (N≤b)<;>cases decide (h<N)<;>try rfl
   show Option.bind _ _=ay _ _ ()
   cases nh H t h z b v n e (az H h) (az H b)<;>rfl
@[go_sem] theorem Ai (r t z h N e H b v n):pg r t z h N e H (.bG b v 0 n)=bif decide (N≤b)then(bif decide (h<N)then ay (nh H t h z b v n e (az H h) (az H b)) (fun s=>cV r (h+1) N s.1 s.2) ()else cV r (h+1) N e H)else cV r (h+1) N e H:=Eq.trans rfl rfl
@[go_sem] theorem C6 (H t h z b v n e z0 ex0 v' z' L ex):nh H t h z b v n e (some (.arr 0 z0 [] ex0)) (some (.arr v' z' L ex))=bif z'==z&&v==v'&&n==L.length&&decide (H.ro≤h)&&!(h==b)&&SV.refs.au L.flatten==0 then
 some ((t,.bG h (v+1) 0 n)::e,{bl:=(H.bl.set h (.arr (v+1) z L ex)).set b .dead,bC:=H.bC,ro:=H.ro})else none:=Eq.trans rfl rfl
@[go_sem] theorem FF (e):eo [] e=[]:=Eq.trans rfl rfl
@[go_sem] theorem CZ (i l e):eo (i::l) e=(i,get e i)::eo l e:=Eq.trans rfl rfl
@[go_sem] theorem uN (N r bl r' es):du N ⟨r,es,r'⟩ ⟨bl,[],0⟩=bif decide (N≤bl.length)then some ⟨bl.take N,es,r'⟩else none:=by
  unfold du
  simp
@[go_sem] theorem D0 (N H0 H):du N H0 H=bif decide (N≤H.bl.length)&&H.bC.all (fun p=>!(decide (p.1<N)&&decide (N<p.2)))then some {bl:=H.bl.take N,bC:=H0.bC++H.bC.filter (fun p=>decide (p.1<N)),ro:=H0.ro} else none:=Eq.trans rfl rfl
attribute [go_sem] List.all_nil List.all_cons List.filter_nil PX PL
@[go_sem] theorem KK (z L f ix):gh (.aB z L f) ix=(gW L.length ix).bind fun i=>(L[i]?).map .eS:=Eq.trans rfl rfl
@[go_sem] theorem JI (b v off n ix):gh (.bG b v off n) ix=(gW n ix).map fun i=>.ptr b v (off+i) 0:=Eq.trans rfl rfl
@[go_sem] theorem Jx (n k i):gW n (.int k i)=bif decide (0≤i)&&decide (i<(n:Int))then some i.toNat else none:=Eq.trans rfl rfl
@[go_sem] theorem Kl (i:Nat):decide ((0:Int)≤(i:Int))=true:=by simp
@[go_sem] theorem JO (i n:Nat):decide ((i:Int)<(n:Int))=decide (i<n):=by simp
theorem ri{T:FuncId→Option aC}{f:FuncId}{F:aC}{xs:List SV}{n:Nat}{H H0 H1:ae}{v:SV}(hT:T f=some F)(hp:gT F xs=true)
 (h:ab T (n+1) (.fn f) xs H0=some (v,H1)):ab T (n+1) (.fn f) xs H=some (v,H):=by
 simp only[ab,hT,hp,N6,NP]at h⊢
 obtain⟨a,h1,h2⟩:=h
 cases h2
 exact⟨_,h1,rfl⟩
theorem ao{T:FuncId→Option aC}{f:FuncId}{F:aC}{xs:List SV}{n:Nat}{H:ae}{r:SV×ae}(hT:T f=some F)(hp:gT F xs=false)
 (h:runK (ab T n) (px F.res (fun v H'=>cW F.keep H v H')) F.body [] (ef xs) ⟨H.bl,[],min H.ro H.bl.length⟩ ()=some r):ab T (n+1) (.fn f) xs H=some r:=by
 have hk:∀k:mJ→Env→ae→Option (SV×ae),k=px F.res (fun v H'=>cW F.keep H v H')→run (ab T n) F.body (ef xs) ⟨H.bl,[],min H.ro H.bl.length⟩ k ()=some r:=by
  intro k hk
  rw[hk,nH]
  exact h
 simp only[ab,hT,hp,Oa]
 exact hk _ (by funext x e H';cases x<;>rfl)
theorem eH{T:FuncId→Option aC}{f:FuncId}{F:aC}{xs:List SV}{n:Nat}{H:ae}{r:SV×ae}(hT:T f=some F)
 (h:runK (ab T n) (px F.res (fun v H'=>cW true H v H')) F.body [] (ef xs) ⟨H.bl,[],min H.ro H.bl.length⟩ ()=some r):ab T (n+1) (.n8 f) xs H=some r:=by
 have hk:∀k:mJ→Env→ae→Option (SV×ae),k=px F.res (fun v H'=>cW true H v H')→run (ab T n) F.body (ef xs) ⟨H.bl,[],min H.ro H.bl.length⟩ k ()=some r:=by
  intro k hk
  rw[hk,nH]
  exact h
 simp only[ab,hT]
 exact hk _ (by funext x e H';cases x<;>rfl)
@[go_sem] theorem AT (H0 v H):cW true H0 v H=some (v,⟨H.bl,H0.bC++H.bC,H0.ro⟩):=Eq.trans rfl rfl
@[go_sem] theorem u5 (H0 v H):cW false H0 v H=(eg H0.bl.length H dc v).bind fun v=>(du H0.bl.length H0 H).map fun H=>(v,H):=Eq.trans rfl rfl
def Round{R:Type}(p:dj)(N:Nat)(H0:ae)(σ:Nat→Env×ae)(P:Nat→Prop)(m i:Nat)(k:Out→Option R)(r:Option R)(o:Out):Prop:=match o with
 |(.normal,s')=>i<m∧eF p N H0 s'=some (σ (i+1))∧P (i+1)
 |o=>k o=r
@[go_sem] theorem Hx {R:Type}(p N H0 σ P m i)(k:Out→Option R)(r s):Round p N H0 σ P m i k r (.normal,s)=(i<m∧eF p N H0 s=some (σ (i+1))∧P (i+1)):=Eq.trans rfl rfl
@[go_sem] theorem Gw {R:Type}(p N H0 σ P m i)(k:Out→Option R)(r j s):Round p N H0 σ P m i k r (.exit j,s)=(k (.exit j,s)=r):=Eq.trans rfl rfl
@[go_sem] theorem Hi {R:Type}(p N H0 σ P m i)(k:Out→Option R)(r s):Round p N H0 σ P m i k r (.ret,s)=(k (.ret,s)=r):=Eq.trans rfl rfl
theorem bz{R:Type}{p:dj}{N:Nat}{H0:ae}{rec:Rec}{a:bO}{s0:Env×ae}{k:Out→Option R}{r:Option R}
 (σ:Nat→Env×ae) (P:Nat→Prop) (m:Nat) (h0:eF p N H0 s0=some (σ 0)) (hP:P 0)
 (h:∀i,i≤m→P i→post (runK rec (fun x e H=>some (x,e,H)) a [] (σ i).1 (σ i).2 ()) (Round p N H0 σ P m i k r)) :
 ay (iG (eT p N H0 rec a) s0) k ()=r:=by
 have key:∀(j i:Nat) (s:Env×ae),i+j=m→P i→eF p N H0 s=some (σ i)→∃n o,cJ (eT p N H0 rec a) n s=some o∧k o=r:=by
  intro j
  induction j with
  |zero=>
   intro i s hi hPi hs
   obtain⟨o,h1,h2⟩:=h i (by omega) hPi
   have hf:eT p N H0 rec a s=some o:=by rw[jr,hs];exact h1
   obtain⟨x,s'⟩:=o
   cases x with
   |normal=>exact absurd h2.1 (by omega)
   |exit id=>exact⟨1,_,by simp only[cJ,hf],h2⟩
   |ret=>exact⟨1,_,by simp only[cJ,hf],h2⟩
  |succ j ih=>
   intro i s hi hPi hs
   obtain⟨o,h1,h2⟩:=h i (by omega) hPi
   have hf:eT p N H0 rec a s=some o:=by rw[jr,hs];exact h1
   obtain⟨x,s'⟩:=o
   cases x with
   |normal=>
    obtain⟨n,o,h3,h4⟩:=ih (i+1) s' (by omega) h2.2.2 h2.2.1
    exact⟨n+1,o,by simp only[cJ,hf];exact h3,h4⟩
   |exit id=>exact⟨1,_,by simp only[cJ,hf],h2⟩
   |ret=>exact⟨1,_,by simp only[cJ,hf],h2⟩
 obtain⟨n,o,h1,h2⟩:=key m 0 s0 (by omega) hP h0
 exact yf o (mS h1) h2
def iK{A:Type}(p:A→Bool):List A→Int
 |[]=> -1
 |a::l=>if p a then 0 else if iK p l<0 then -1 else iK p l+1
theorem qQ{A:Type}(p:A→Bool):∀l:List A,decide (0≤iK p l)=l.any p
 |[]=>rfl
 |a::l=>by
  have ih:=qQ p l
  rw[PK,NY]at ih⊢
  simp only[iK,List.any_cons,O3,←ih]
  by_cases hp:p a=true
  ·simp[hp]
  ·rw[if_neg hp]
   simp only[hp,Pc,false_or]
   split<;>omega
theorem ll{A:Type}{p:A→Bool}:∀{l:List A},(∀(j:Nat) a,l[j]?=some a→p a=false)→iK p l= -1
 |[],_=>rfl
 |a::l,h=>by
  have h0:=h 0 a rfl
  have ih:=ll (l:=l) (fun j b hb=>h (j+1) b (by simpa using hb))
  simp[iK,h0,ih]
theorem pr{A:Type}{p:A→Bool}:∀{l:List A} {i:Nat} {a:A},l[i]?=some a→p a=true→(∀(j:Nat) b,j<i→l[j]?=some b→p b=false)→iK p l=i
 |[],i,a,h,_,_=>by simp at h
 |b::l,0,a,h,hp,_=>by simp at h;subst h;simp[iK,hp]
 |b::l,i+1,a,h,hp,hn=>by
  have h0:=hn 0 b (by omega) rfl
  have ih:=pr (l:=l) (i:=i) (by simpa using h) hp (fun j c hj hc=>hn (j+1) c (by omega) (by simpa using hc))
  simp only[iK,h0,ih,Pc,if_false]
  rw[if_neg (by omega)]
  omega
def Ip(bg:Nat)(H:ae)(b v off n:Nat)(X:List (List SV)):Option aj→Option (SV×ae)
 |some (.arr v' z L e)=>bif v==v'&&z==bg&&decide (off+n≤L.length)then
   bif !e&&off==0&&n==L.length then(bT H b (.arr (v+1) z (L++X) false) (SV.refs.au X.flatten)).map fun H=>(.bG b (v+1) off (n+X.length),H)
   else bif decide (off+n+X.length≤L.length)then(bT H b (.arr v z (L.take (off+n)++X++L.drop (off+n+X.length)) e) (SV.refs.au X.flatten)).map fun H=>(.bG b v off (n+X.length),H)
   else bif e then some (.bG H.bl.length 0 0 (n+X.length),aV H (.arr 0 z ((L.drop off).take n++X) false))else none
  else none
 |_=>none
@[go_sem] theorem IG (bg bytes H b v off n X):fy bg bytes H (.bG b v off n) X=bif decide ((n+X.length)*bytes≤cf)then Ip bg H b v off n X (az H b)else none:=by
  simp only[fy]
  generalize az H b=q
  cases q with
  |none=>rfl
  |some q=>cases q<;>rfl
theorem iO(bg:Nat)(H:ae)(b v n:Nat)(X L:List (List SV))(h:L.length=n):Ip bg H b v 0 n X (some (.arr v bg L false))=(bT H b (.arr (v+1) bg (L++X) false) (SV.refs.au X.flatten)).map fun H=>(.bG b (v+1) 0 (n+X.length),H):=by
 subst h
 simp[Ip]
@[go_sem] theorem K5 (bg bytes H z X):fy bg bytes H (.aB z [] true) X=bif decide (X.length*bytes≤cf)then some (.bG H.bl.length 0 0 X.length,aV H (.arr 0 bg X false))else none:=by
  simp[fy]
def Dh(N:Nat)(H:ae)(d v off n:Nat):Option aj→Option SV
 |some (.arr ver' z L ex)=>bif v==ver'&&decide (off+n≤L.length)then
   (bc (((L.drop off).take n).map fun cs=>bc (cs.map (eg N H d)))).bind fun L'=>bif SV.refs.au L'.flatten==0 then some (.aB z L' (ex&&off+n==L.length))else none
  else none
 |_=>none
@[go_sem] theorem Iw (N H d b v off n):eg N H (d+1) (.bG b v off n)=bif decide (b<N)then some (.bG b v off n)else Dh N H d v off n (az H b):=by
  simp only[eg]
  generalize az H b=q
  cases q with
  |none=>rfl
  |some q=>cases q<;>rfl
theorem kJ{A:Type}{f:A→Option A}:∀{l:List A},(∀a∈l,f a=some a)→bc (l.map f)=some l
 |[],_=>rfl
 |a::l,h=>by
  have ih:=kJ (f:=f) (l:=l) (fun b hb=>h b (by simp[hb]))
  simp only[Ov,h a (by simp),bc,ih,Oo]
theorem lH:∀{L:List (List SV)},(∀cs∈L,∀c∈cs,c.refs=0)→SV.refs.au L.flatten=0
 |[],_=>by simp[SV.refs.au]
 |cs::L,h=>by
  have ih:=lH (L:=L) (fun b hb=>h b (by simp[hb]))
  have key:∀(cs:List SV),(∀c∈cs,c.refs=0)→SV.refs.au (cs++L.flatten)=0:=by
   intro cs
   induction cs with
   |nil=>intro _;exact ih
   |cons c cs ih2=>intro hc;simp only[Oy,SV.refs.au,hc c (by simp),ih2 (fun x hx=>hc x (by simp[hx]))];rfl
  exact key cs (h cs (by simp))
theorem ug(N:Nat)(H:ae)(d v n z:Nat)(L:List (List SV))(e:Bool)(h:L.length=n)(h1:∀cs∈L,∀c∈cs,eg N H d c=some c)(h2:∀cs∈L,∀c∈cs,c.refs=0) :
 Dh N H d v 0 n (some (.arr v z L e))=some (.aB z L e):=by
 subst h
 simp only[Dh,P8,PL,OY,O8,NV,decide_true,O5,N6,Rt]
 rw[kJ (fun cs hcs=>kJ (fun c hc=>h1 cs hcs c hc))]
 simp[lH h2]
theorem ia{a:Bool×List DT}{as1:List (Bool×List DT)}{xs:List SV}(h:jv (a::as1) xs):∃x r,xs=x::r∧rm a x∧jv as1 r:=by
 obtain⟨h1,h2⟩:=h
 cases xs with
 |nil=>simp at h1
 |cons x r=>exact⟨x,r,rfl,h2 0 a x rfl rfl,by simpa using h1,fun j a' x' ha hx=>h2 (j+1) a' x' ha hx⟩
theorem rf{xs:List SV}(h:jv [] xs):xs=[]:=Pe h.1
theorem ud{es:List DT}{x:SV}(h:rm (true,es) x):∃cs,x=.agg cs∧c9 es cs:=h
theorem oC{e:DT}{x:SV}(h:rm (false,[e]) x):Fits e x:=by
 obtain⟨e',h1,h2⟩:=h
 cases h1
 exact h2
theorem ir{k:IntKind}{es:List DT}{cs:List SV}(h:c9 (.int k::es) cs):∃n r,cs=.int k n::r∧(Lit.int k n).wf=true∧c9 es r:=by
 obtain⟨c,r,rfl,h1,h2⟩:=jY h
 obtain⟨n,rfl,h3⟩:=fits_int h1
 exact⟨n,r,rfl,h3,h2⟩
theorem zK{es' es:List DT}{cs:List SV}(h:c9 (.aB es'::es) cs):∃L f r,cs=.aB es'.length L f::r∧L.length≤maxLen∧(∀q∈L,c9 es' q)∧c9 es r:=by
 obtain⟨c,r,rfl,h1,h2⟩:=jY h
 obtain⟨L,f,rfl,h3,h4⟩:=m7 h1
 exact⟨L,f,r,rfl,h3,h4,h2⟩
attribute [go_sem] Ql Bool.true_xor Bool.false_xor Bool.xor_true Bool.xor_false
section
def mB(ag:Bool)(z:Nat):aC:=⟨[(.tmp 4)],(.seq (.ops [⟨(some 4),(.cp (.c (.int .i64 0))),none⟩]) (.seq (.seq (.ops [⟨(some 6),(.cp (.t 0)),none⟩,⟨(some 7),(.len (.t 6)),none⟩,⟨(some 8),(.cp (.c (.int .i64 0))),none⟩]) (.block 0 (.loop ⟨[0,1,7,8],[]⟩ (.seq (.ops [⟨(some 9),(.bin .lss (.t 8) (.t 7)),none⟩]) (.seq (.cond (.t 9) .skip (.exit 0)) (.seq (.block 1 (.seq (.ops [⟨(some 10),(.cp (.t 8)),none⟩,⟨(some 5),(.cp (.t 10)),none⟩]) (.seq (.ops [⟨(some 11),(.cp (.t 1)),none⟩,⟨(some 12),(.cp (.t 0)),none⟩,⟨(some 13),(.cp (.t 5)),none⟩,⟨(some 14),(.dJ z (.t 12) (.t 13)),none⟩,⟨(some 15),(.load ag z (.t 14)),none⟩,⟨(some 16),(.call (.t 11) [(.t 15)]),none⟩]) (.cond (.t 16) (.seq (.ops [⟨(some 17),(.cp (.t 5)),none⟩,⟨(some 4),(.cp (.t 17)),none⟩]) .ret) .skip)))) (.ops [⟨(some 18),(.bin .add (.t 8) (.c (.int .i64 1))),none⟩,⟨(some 8),(.cp (.t 18)),none⟩]))))))) (.seq (.ops [⟨(some 4),(.cp (.c (.int .i64 (-1)))),none⟩]) .ret))),false⟩
def w6(g:FuncId):aC:=⟨[(.tmp 4)],(.seq (.ops [⟨(some 4),(.cp (.c (.bool false))),none⟩]) (.seq (.ops [⟨(some 5),(.cp (.t 0)),none⟩,⟨(some 6),(.cp (.t 1)),none⟩,⟨(some 7),(.call (.c (.fn g [])) [(.t 5),(.t 6)]),none⟩,⟨(some 8),(.bin .geq (.t 7) (.c (.int .i64 0))),none⟩,⟨(some 4),(.cp (.t 8)),none⟩]) .ret)),false⟩
def rL:aC:=⟨[(.tmp 4)],(.seq (.ops [⟨(some 4),(.cp (.c (.int .i64 0))),none⟩]) (.seq (.seq (.ops [⟨(some 6),(.cp (.t 0)),none⟩,⟨(some 7),(.len (.t 6)),none⟩,⟨(some 8),(.cp (.c (.int .i64 0))),none⟩]) (.block 0 (.loop ⟨[0,1,7,8],[]⟩ (.seq (.ops [⟨(some 9),(.bin .lss (.t 8) (.t 7)),none⟩]) (.seq (.cond (.t 9) .skip (.exit 0)) (.seq (.block 1 (.seq (.ops [⟨(some 10),(.cp (.t 8)),none⟩,⟨(some 5),(.cp (.t 10)),none⟩]) (.seq (.ops [⟨(some 11),(.cp (.t 1)),none⟩,⟨(some 12),(.cp (.t 0)),none⟩,⟨(some 13),(.cp (.t 5)),none⟩,⟨(some 14),(.dJ 1 (.t 12) (.t 13)),none⟩,⟨(some 15),(.load false 1 (.t 14)),none⟩,⟨(some 16),(.bin .eql (.t 11) (.t 15)),none⟩]) (.cond (.t 16) (.seq (.ops [⟨(some 17),(.cp (.t 5)),none⟩,⟨(some 4),(.cp (.t 17)),none⟩]) .ret) .skip)))) (.ops [⟨(some 18),(.bin .add (.t 8) (.c (.int .i64 1))),none⟩,⟨(some 8),(.cp (.t 18)),none⟩]))))))) (.seq (.ops [⟨(some 4),(.cp (.c (.int .i64 (-1)))),none⟩]) .ret))),false⟩
def mX(z by_:Nat)(zv:List SV):aC:=⟨[(.tmp 2)],(.seq (.ops [⟨(some 2),(.cp (.c (.aB 0 [] true))),none⟩]) (.seq (.seq (.ops [⟨(some 3),(.cp (.t 0)),none⟩]) (.Ao 4 false (.t 3) (.cond (.t 4) (.seq (.seq (.ops [⟨(some 2),(.cp (.c (.aB 0 [] true))),none⟩]) (.aL [(2,z)])) .ret) .skip))) (.seq (.ops [⟨(some 5),(.dO z zv 0 []),none⟩,⟨(some 6),(.cp (.t 0)),none⟩,⟨(some 7),(.append z by_ (.t 5) (.t 6)),none⟩,⟨(some 2),(.cp (.t 7)),none⟩]) .ret))),false⟩
def iS(P:List Int):List (List SV):=P.map fun p=>[.int .i64 p]
@[go_sem] theorem kf {W:List Int}:(iS W).length=W.length:=by simp[iS]
@[go_sem] theorem B7 (W:List Int)(i:Nat):(iS W)[i]?=(W[i]?).map (fun p=>[.int .i64 p]):=by simp[iS]
theorem yn(L:List Int):∀cs∈iS L,∀c∈cs,c.refs=0:=by
 intro cs hcs c hc
 simp only[iS,PM]at hcs
 obtain⟨b,_,rfl⟩:=hcs
 simp only[Qk]at hc
 subst hc
 simp[SV.refs]
theorem Bw(L:List Int)(M H d):∀cs∈iS L,∀c∈cs,eg M H (d+1) c=some c:=by
 intro cs hcs c hc
 simp only[iS,PM]at hcs
 obtain⟨b,_,rfl⟩:=hcs
 simp only[Qk]at hc
 subst hc
 simp only[eg]
theorem EU{A:Type}{l:List A}{i:Nat}(h:i<l.length):∃a,l[i]?=some a:=⟨l[i],N4 h⟩
theorem mz{i n:Nat}(h:i<n)(hn:n≤maxLen):bX ((i:Int)+1)=((i+1:Nat):Int):=by
 simp only[maxLen]at hn
 rw[an (by omega) (by omega)];omega
def el(ag:Bool)(r:List SV):SV:=bif ag then .agg r else r.headD .undef
theorem E3{ag:Bool}{z:Nat}{r:List SV}(h:r.length=z)(h1:ag=false→z=1):cG ag z r 0=some (el ag r):=by
 cases ag with
 |true=>subst h;simp[cG,el]
 |false=>
  have:=h1 rfl
  subst this
  match r,h with
  |[x],_=>rfl
inductive LV(bl:List aj)(z:Nat)(L:List (List SV)):SV→Prop
 |aB (z':Nat) (f:Bool) (hz:z'=z∨L=[]):LV bl z L (.aB z' L f)
 |bG (b bU off:Nat) (L':List (List SV)) (ex:Bool) (hb:bl[b]?=some (.arr bU z L' ex)) (hle:off+L.length≤L'.length) (hL:L=(L'.drop off).take L.length):LV bl z L (.bG b bU off L.length)
section
variable{bl:List aj}{z:Nat}{L:List (List SV)}{v:SV}
theorem LV.cur(h:LV bl z L v)(es ro):cur ⟨bl,es,ro⟩ v=true:=by
 cases h with
 |aB=>rfl
 |bG b bU off L' ex hb=>simp[Sh.cur,az,hb]
theorem LV.de(h:LV bl z L v)(es ro):de ⟨bl,es,ro⟩ z v=true:=by
 cases h with
 |aB z' f hz=>rcases hz with rfl|rfl<;>simp[Sh.de]
 |bG b bU off L' ex hb=>simp[Sh.de,az,hb]
theorem LV.len(h:LV bl z L v):mv v=some L.length:=by cases h<;>rfl
theorem LV.at(h:LV bl z L v){i:Nat}{r:List SV}(hi:L[i]?=some r):∃p,gh v (.int .i64 i)=some p∧∀ag n es ro,cw ag n ⟨bl,es,ro⟩ p=cG ag n r 0:=by
 have hlt:=(NT.1 hi).1
 cases h with
 |aB z' f hz=>exact⟨.eS r,by simp[gh,gW,hlt];exact(NT.1 hi).2,fun ag n es ro=>by simp[cw]⟩
 |bG b bU off L' ex hb hle hL=>
  refine⟨.ptr b bU (off+i) 0,by simp[gh,gW,hlt],fun ag n es ro=>?_⟩
  have:L'[off+i]?=some r:=by
   rw[hL,Ob,if_pos hlt,Ou]at hi
   exact hi
  simp[cw,az,hb,this]
theorem LV.refs(h:LV bl z L v):v.refs≤bl.length:=by
 cases h with
 |aB z' f hz=>simp[SV.refs]
 |bG b bU off L' ex hb hle hL=>
  have:=(NT.1 hb).1
  simp[SV.refs];omega
theorem LV.nil(h:LV bl z L v)(h0:v.refs=0):LV [] z L v:=by
 cases h with
 |aB z' f hz=>exact .aB z' f hz
 |bG b bU off L' ex hb hle hL=>simp[SV.refs]at h0
end
section
variable{T:FuncId→Option aC}{f:FuncId}{F:aC}{xs:List SV}{n:Nat}{H:ae}
theorem pF{v:SV}(hT:T f=some F)(hk:F.keep=false)(hs:nD v=true)
 (h:∀(R:Type) (k:SV→ae→Option R) (bl:List aj) (ro:Nat),(bl=[]∧SV.refs.au xs=0∨bl=H.bl)→runK (ab T n) (px F.res k) F.body [] (ef xs) ⟨bl,[],ro⟩ ()=k v ⟨bl,[],ro⟩) :
 ab T (n+1) (.fn f) xs H=some (v,H):=by
 have hfz:∀N H',eg N H' dc v=some v:=fun N H'=>by
  cases v<;>simp only[nD,Pc]at hs<;>simp[dc,eg,SV.refs]
 cases hp:gT F xs with
 |true=>
  refine aw hT hp ?_
  have hr:SV.refs.au xs=0:=by
   unfold gT at hp
   simp only[NX,O1]at hp
   exact hp.1
  exact(h SV (fun v H'=>eg 0 H' dc v) [] 0 (.inl ⟨rfl,hr⟩)).trans (hfz _ _)
 |false=>
  refine ao hT hp ?_
  refine(h _ (fun v H'=>cW F.keep H v H') H.bl _ (.inr rfl)).trans ?_
  rw[hk,u5,hfz]
  simp only[OV,uN,NV,decide_true,N6,Oo,PL]
  obtain⟨bl,es,ro⟩:=H
  simp[Sh.du]
theorem sw{ag:Bool}{z id:Nat}{caps:List SV}{v:SV}{L:List (List SV)}{p:List SV→Bool}(hT:T f=some (mB ag z))(hv:LV H.bl z L v)(hz:∀r∈L,r.length=z)(h1:ag=false→z=1)(hm:L.length≤maxLen)
 (hc:∀r∈L,∀bl ro,(bl=[]∧v.refs=0∧SV.refs.au caps=0∨bl=H.bl)→ab T n (.fn id) (el ag r::caps) ⟨bl,[],ro⟩=some (.bool (p r),⟨bl,[],ro⟩))
 (hcr:SV.refs.au caps≤H.bl.length):ab T (n+1) (.fn f) [v,.fn id caps] H=some (.int .i64 (iK p L),H):=by
 refine pF hT rfl rfl (fun R k bl ro hbl=>?_)
 have hbl':bl=[]∧v.refs=0∧SV.refs.au caps=0∨bl=H.bl:=by
  rcases hbl with⟨h1,h2⟩|h
  ·simp only[SV.refs.au,SV.refs]at h2
   exact .inl ⟨h1,by omega,by omega⟩
  ·exact .inr h
 have hv':LV bl z L v:=by
  rcases hbl' with⟨h1,h2,_⟩|h
  ·rw[h1];exact hv.nil h2
  ·rw[h];exact hv
 have hd:decide (max v.refs (SV.refs.au caps)≤bl.length)=true:=by
  have:=hv'.refs
  rw[NY]
  rcases hbl' with⟨h1,h2,h3⟩|h
  ·omega
  ·rw[h]at this ⊢;omega
 have q1:=hv'.cur [] ro
 have q2:=hv'.de [] ro
 have q3:=hv'.len
 simp only[mB,go_sem,Int.reduceToNat,Nat.reduceAdd,Nat.reduceBEq,Nat.reduceLeDiff,Nat.reduceLT,Nat.reduceMul,Nat.reduceSub,Int.reduceEq,Int.reduceLT,Int.reduceLE,Int.reduceNeg,q1,q3]
 refine bz (fun i=>([(0,v),(1,.fn id caps),(7,.int .i64 L.length),(8,.int .i64 i)],⟨bl,[],ro⟩)) (fun i=>∀(j:Nat) r,j<i→L[j]?=some r→p r=false) L.length ?_ (fun j r h=>by omega) ?_
 ·simp only[go_sem,Int.reduceToNat,Nat.reduceAdd,Nat.reduceBEq,Nat.reduceLeDiff,Nat.reduceLT,Nat.reduceMul,Nat.reduceSub,Int.reduceEq,Int.reduceLT,Int.reduceLE,Int.reduceNeg,Rl,hd]
 ·intro i hi hP
  rcases Oh i L.length with hlt|hge
  ·obtain⟨r,hr'⟩:=EU hlt
   have hmem:=Ok hr'
   obtain⟨p',a1,a2⟩:=hv'.at hr'
   have hw:=mz hlt hm
   have hcr:=hc r hmem bl ro hbl'
   have hld:=E3 (hz r hmem) h1
   cases hp:p r with
   |true=>
    have hx:=pr hr' hp hP
    simp only[go_sem,Int.reduceToNat,Nat.reduceAdd,Nat.reduceBEq,Nat.reduceLeDiff,Nat.reduceLT,Nat.reduceMul,Nat.reduceSub,Int.reduceEq,Int.reduceLT,Int.reduceLE,Int.reduceNeg,hlt,q2,a1,a2,hld,hcr,hp,hx]
   |false=>
    simp only[go_sem,Int.reduceToNat,Nat.reduceAdd,Nat.reduceBEq,Nat.reduceLeDiff,Nat.reduceLT,Nat.reduceMul,Nat.reduceSub,Int.reduceEq,Int.reduceLT,Int.reduceLE,Int.reduceNeg,hlt,q2,a1,a2,hld,hcr,hp,hw]
    refine⟨trivial,?_,fun j r' hj hr2=>?_⟩
    ·simp only[Rl,hd,go_sem,Int.reduceToNat,Nat.reduceAdd,Nat.reduceBEq,Nat.reduceLeDiff,Nat.reduceLT,Nat.reduceMul,Nat.reduceSub,Int.reduceEq,Int.reduceLT,Int.reduceLE,Int.reduceNeg]
    ·rcases Oh j i with hlt2|hge2
     ·exact hP j r' hlt2 hr2
     ·have:j=i:=by omega
      subst this
      rw[hr']at hr2
      cases hr2
      exact hp
  ·have hlt:¬i<L.length:=by omega
   have hx:iK p L= -1:=ll (fun j a hj=>hP j a (by have:=(NT.1 hj).1;omega) hj)
   simp only[go_sem,Int.reduceToNat,Nat.reduceAdd,Nat.reduceBEq,Nat.reduceLeDiff,Nat.reduceLT,Nat.reduceMul,Nat.reduceSub,Int.reduceEq,Int.reduceLT,Int.reduceLE,Int.reduceNeg,hlt,hx]
theorem xJ{ag:Bool}{z id g:Nat}{caps:List SV}{v:SV}{L:List (List SV)}{p:List SV→Bool}(hT:T f=some (w6 g))(hTg:T g=some (mB ag z))(hv:LV H.bl z L v)(hz:∀r∈L,r.length=z)(h1:ag=false→z=1)(hm:L.length≤maxLen)
 (hc:∀r∈L,∀bl ro,(bl=[]∧v.refs=0∧SV.refs.au caps=0∨bl=H.bl)→ab T n (.fn id) (el ag r::caps) ⟨bl,[],ro⟩=some (.bool (p r),⟨bl,[],ro⟩))
 (hcr:SV.refs.au caps≤H.bl.length):ab T (n+2) (.fn f) [v,.fn id caps] H=some (.bool (L.any p),H):=by
 refine pF hT rfl rfl (fun R k bl ro hbl=>?_)
 have hbl':bl=[]∧v.refs=0∧SV.refs.au caps=0∨bl=H.bl:=by
  rcases hbl with⟨h1,h2⟩|h
  ·simp only[SV.refs.au,SV.refs]at h2
   exact .inl ⟨h1,by omega,by omega⟩
  ·exact .inr h
 have hv':LV bl z L v:=by
  rcases hbl' with⟨h1,h2,_⟩|h
  ·rw[h1];exact hv.nil h2
  ·rw[h];exact hv
 have hi:=sw (H:=⟨bl,[],ro⟩) hTg hv' hz h1 hm (fun r hr bl2 ro2 h=>hc r hr bl2 ro2 (by
  rcases h with h|h
  ·exact .inl h
  ·rw[show bl2=bl from h];exact hbl')) (by
  rcases hbl' with⟨h1,h2,h3⟩|h
  ·simp[h3]
  ·show SV.refs.au caps≤bl.length;rw[h];exact hcr)
 simp only[w6,go_sem,Int.reduceToNat,Nat.reduceAdd,Nat.reduceBEq,Nat.reduceLeDiff,Nat.reduceLT,Nat.reduceMul,Nat.reduceSub,Int.reduceEq,Int.reduceLT,Int.reduceLE,Int.reduceNeg,hi,qQ]
theorem uj{v:SV}{M:List Int}{x:Int}(hT:T f=some rL)(hv:LV H.bl 1 (iS M) v)(hm:M.length≤maxLen):ab T (n+1) (.fn f) [v,.int .i64 x] H=some (.int .i64 (iK (fun y=>decide (x=y)) M),H):=by
 refine pF hT rfl rfl (fun R k bl ro hbl=>?_)
 have hv':LV bl 1 (iS M) v:=by
  rcases hbl with⟨h1,h2⟩|h
  ·rw[h1];exact hv.nil (by simp only[SV.refs.au,SV.refs]at h2;omega)
  ·rw[h];exact hv
 have hd:decide (v.refs≤bl.length)=true:=by rw[NY];exact hv'.refs
 have q1:=hv'.cur [] ro
 have q2:=hv'.de [] ro
 have q3:=hv'.len
 rw[kf]at q3
 simp only[rL,go_sem,Int.reduceToNat,Nat.reduceAdd,Nat.reduceBEq,Nat.reduceLeDiff,Nat.reduceLT,Nat.reduceMul,Nat.reduceSub,Int.reduceEq,Int.reduceLT,Int.reduceLE,Int.reduceNeg,q1,q3]
 refine bz (fun i=>([(0,v),(1,.int .i64 x),(7,.int .i64 M.length),(8,.int .i64 i)],⟨bl,[],ro⟩)) (fun i=>∀(j:Nat) y,j<i→M[j]?=some y→decide (x=y)=false) M.length ?_ (fun j r h=>by omega) ?_
 ·simp only[go_sem,Int.reduceToNat,Nat.reduceAdd,Nat.reduceBEq,Nat.reduceLeDiff,Nat.reduceLT,Nat.reduceMul,Nat.reduceSub,Int.reduceEq,Int.reduceLT,Int.reduceLE,Int.reduceNeg,Rl,hd]
 ·intro i hi hP
  rcases Oh i M.length with hlt|hge
  ·obtain⟨y,hy⟩:=EU hlt
   obtain⟨p',a1,a2⟩:=hv'.at (i:=i) (by rw[B7,hy];rfl)
   have hw:=mz hlt hm
   have hld:cG false 1 [SV.int .i64 y] 0=some (.int .i64 y):=rfl
   cases hp:decide (x=y)with
   |true=>
    have hx:=pr hy hp hP
    simp only[go_sem,Int.reduceToNat,Nat.reduceAdd,Nat.reduceBEq,Nat.reduceLeDiff,Nat.reduceLT,Nat.reduceMul,Nat.reduceSub,Int.reduceEq,Int.reduceLT,Int.reduceLE,Int.reduceNeg,hlt,q2,a1,a2,hld,hp,hx]
   |false=>
    simp only[go_sem,Int.reduceToNat,Nat.reduceAdd,Nat.reduceBEq,Nat.reduceLeDiff,Nat.reduceLT,Nat.reduceMul,Nat.reduceSub,Int.reduceEq,Int.reduceLT,Int.reduceLE,Int.reduceNeg,hlt,q2,a1,a2,hld,hp,hw]
    refine⟨trivial,?_,fun j r' hj hr2=>?_⟩
    ·simp only[Rl,hd,go_sem,Int.reduceToNat,Nat.reduceAdd,Nat.reduceBEq,Nat.reduceLeDiff,Nat.reduceLT,Nat.reduceMul,Nat.reduceSub,Int.reduceEq,Int.reduceLT,Int.reduceLE,Int.reduceNeg]
    ·rcases Oh j i with hlt2|hge2
     ·exact hP j r' hlt2 hr2
     ·have:j=i:=by omega
      subst this
      rw[hy]at hr2
      cases hr2
      exact hp
  ·have hlt:¬i<M.length:=by omega
   have hx:iK (fun y=>decide (x=y)) M= -1:=ll (fun j a hj=>hP j a (by have:=(NT.1 hj).1;omega) hj)
   simp only[go_sem,Int.reduceToNat,Nat.reduceAdd,Nat.reduceBEq,Nat.reduceLeDiff,Nat.reduceLT,Nat.reduceMul,Nat.reduceSub,Int.reduceEq,Int.reduceLT,Int.reduceLE,Int.reduceNeg,hlt,hx]
def Still(L:List (List SV)):Prop:=∀cs∈L,∀c∈cs,c.refs=0∧∀N H d,eg N H (d+1) c=some c
theorem Still.ints(M:List Int):Still (iS M):=fun cs hcs c hc=>⟨yn M cs hcs c hc,fun N H d=>Bw M N H d cs hcs c hc⟩
theorem Still.zero{L:List (List SV)}(h:Still L):SV.refs.au L.flatten=0:=lH (fun cs hcs c hc=>(h cs hcs c hc).1)
theorem Still.fz{L:List (List SV)}(h:Still L)(N H d v n z e)(hn:L.length=n):Dh N H (d+1) v 0 n (some (.arr v z L e))=some (.aB z L e):=
 ug N H (d+1) v n z L e hn (fun cs hcs c hc=>(h cs hcs c hc).2 N H d) (fun cs hcs c hc=>(h cs hcs c hc).1)
theorem Still.take{L:List (List SV)}(h:Still L)(N H d v n z)(hn:n≤L.length):Dh N H (d+1) v 0 n (some (.arr v z L false))=some (.aB z (L.take n) false):=by
 have hs:Still (L.take n):=fun cs hcs c hc=>h cs (List.mem_of_mem_take hcs) c hc
 simp only[Dh,P8,OY,O8,Q1,hn,decide_true,N6,Rh]
 rw[kJ (fun cs hcs=>kJ (fun c hc=>(hs cs hcs c hc).2 N H d))]
 simp[hs.zero]
theorem qZ{z z' by_:Nat}{zv:List SV}{L:List (List SV)}{fl:Bool}(hT:T f=some (mX z by_ zv))(hz:z'=z∨L=[])(hs:Still L)(hb:L.length*by_≤cf) :
 ab T (n+1) (.fn f) [.aB z' L fl] H=some (.aB z L false,H):=by
 refine aw hT rfl ?_
 have hbb:decide (L.length*by_≤cf)=true:=NN hb
 have hcz:de av z (.aB z' L fl)=true:=by rcases hz with rfl|rfl<;>simp[de]
 simp only[av]at hcz
 have hfz:=fun H=>hs.fz 0 H 6 0 L.length z false rfl
 simp only[mX,av,go_sem,Int.reduceToNat,Nat.reduceAdd,Nat.reduceBEq,Nat.reduceLeDiff,Nat.reduceLT,Nat.reduceMul,Nat.reduceSub,Int.reduceEq,Int.reduceLT,Int.reduceLE,Int.reduceNeg]
 cases L with
 |nil=>
  simp only[go_sem,Int.reduceToNat,Nat.reduceAdd,Nat.reduceBEq,Nat.reduceLeDiff,Nat.reduceLT,Nat.reduceMul,Nat.reduceSub,Int.reduceEq,Int.reduceLT,Int.reduceLE,Int.reduceNeg]
  refine so ?_ ?_
  ·simp only[go_sem,Int.reduceToNat,Nat.reduceAdd,Nat.reduceBEq,Nat.reduceLeDiff,Nat.reduceLT,Nat.reduceMul,Nat.reduceSub,Int.reduceEq,Int.reduceLT,Int.reduceLE,Int.reduceNeg,hfz]
   have:=fun H=>hs.fz 0 H 6 0 0 z false rfl
   simp only[go_sem,Int.reduceToNat,Nat.reduceAdd,Nat.reduceBEq,Nat.reduceLeDiff,Nat.reduceLT,Nat.reduceMul,Nat.reduceSub,Int.reduceEq,Int.reduceLT,Int.reduceLE,Int.reduceNeg,this]
  ·have:=fun H=>hs.fz 0 H 6 0 0 z false rfl
   simp only[go_sem,Int.reduceToNat,Nat.reduceAdd,Nat.reduceBEq,Nat.reduceLeDiff,Nat.reduceLT,Nat.reduceMul,Nat.reduceSub,Int.reduceEq,Int.reduceLT,Int.reduceLE,Int.reduceNeg,this,Qo]
 |cons a L=>
  obtain rfl:z'=z:=hz.resolve_right (by simp)
  simp only[Og]at hbb hfz
  simp only[go_sem,Int.reduceToNat,Nat.reduceAdd,Nat.reduceBEq,Nat.reduceLeDiff,Nat.reduceLT,Nat.reduceMul,Nat.reduceSub,Int.reduceEq,Int.reduceLT,Int.reduceLE,Int.reduceNeg,hbb,hfz]
end
end
abbrev OO(d:Nat)(o:jH):ak:=⟨some d,o,none⟩
abbrev OT(d:Nat)(o:jH)(g:Nat):ak:=⟨some d,o,some (g,true)⟩
abbrev OU(d:Nat)(o:jH)(g:Nat):ak:=⟨some d,o,some (g,false)⟩
abbrev PT(d x g:Nat):ak:=⟨some d,.cp (.t x),some (g,true)⟩
abbrev PU(d x g:Nat):ak:=⟨some d,.cp (.t x),some (g,false)⟩
abbrev IC(n:Int):bj:=.c (.int .i64 n)
abbrev OM(d x:Nat):ak:=⟨some d,.cp (.t x),none⟩
abbrev OK(d:Nat)(n:Int):ak:=⟨some d,.cp (.c (.int .i64 n)),none⟩
abbrev OZ(d:Nat):ak:=⟨some d,.cp (.c (.aB 0 [] true)),none⟩
abbrev OQ(d:Nat)(b:Bool):ak:=⟨some d,.cp (.c (.bool b)),none⟩
abbrev OX(d x i:Nat):ak:=⟨some d,.extract (.t x) i,none⟩
abbrev OF(d n x:Nat):ak:=⟨some d,.aH n (.t x),none⟩
abbrev OL(d x:Nat):ak:=⟨some d,.load false 1 (.t x),none⟩
abbrev OA(d n x:Nat):ak:=⟨some d,.load true n (.t x),none⟩
abbrev ON(d x:Nat):ak:=⟨some d,.cQ (.t x),none⟩
abbrev OE(d x:Nat):ak:=⟨some d,.len (.t x),none⟩
abbrev OG(d x:Nat):ak:=⟨some d,.box (.t x),none⟩
abbrev OH(d x:Nat):ak:=⟨some d,.jT (.t x),none⟩
abbrev OI(d z x i:Nat):ak:=⟨some d,.dJ z (.t x) (.t i),none⟩
abbrev OB(d:Nat)(o:BinOp)(x y:Nat):ak:=⟨some d,.bin o (.t x) (.t y),none⟩
abbrev OJ(d:Nat)(o:BinOp)(x:Nat)(n:Int):ak:=⟨some d,.bin o (.t x) (.c (.int .i64 n)),none⟩
abbrev OC(d f:Nat)(xs:List Nat):ak:=⟨some d,.call (.c (.fn f [])) (xs.map .t),none⟩
abbrev DP:aU:=⟨.pure,[],0,0⟩
abbrev DS:aU:=⟨.kn,[],0,0⟩
abbrev DB:aU:=⟨.fC,[],0,0⟩
abbrev DM(d x:Nat):ak×aU:=(OM d x,DP)
abbrev DD(d:Nat)(o:BinOp)(x y:Nat):ak×aU:=(OB d o x y,DP)
abbrev DN(d x:Nat):ak×aU:=(ON d x,DS)
abbrev DF(d n x:Nat):ak×aU:=(OF d n x,DS)
abbrev DL(d x:Nat):ak×aU:=(OL d x,DS)
abbrev DI(d z x i:Nat):ak×aU:=(OI d z x i,DS)
abbrev DA(d n x:Nat):ak×aU:=(OA d n x,DS)
abbrev SQ(l:List ak)(c:bO):bO:=.seq (.ops l) c
abbrev CS(x:Nat)(c:bO):bO:=.cond (.t x) c .skip
abbrev CX(x i:Nat):bO:=.cond (.t x) .skip (.exit i)
end Go.Sh
